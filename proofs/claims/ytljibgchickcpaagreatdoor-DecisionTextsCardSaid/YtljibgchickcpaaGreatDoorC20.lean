/- Packed. -/
import Derived.Test.YtljibgchickcpaaGreatDoorC19
set_option maxRecDepth 100000
set_option maxHeartbeats 4000000
open Go.Value renaming int → I
open Go.IntKind renaming i64 → O
namespace Go.Proofs.YtljibgchickcpaaGreatDoor
open Go.RowKit Sc As Dn
namespace Dn
def wDecision:List UInt8 := [100,101,99,105,115,105,111,110]
def wAward:List UInt8 := [97,119,97,114,100]
def wReason:List UInt8 := [114,101,97,115,111,110]
def wTotal:List UInt8 := [116,111,116,97,108]
def awN (a:Awd):List Int := [a.scheme,a.decl,a.det,a.paid,a.rated,a.timely,a.capped,a.due]
def headL (D:Dec):List UInt8:=lineT wDecision [D.year,D.farm,D.ver]
def awL (a:Awd):List UInt8:=lineT wAward (awN a)
def kindL (k:Int):List UInt8:=kindW.getD k.toNat []
def rsL (r:Rsn):List UInt8:=lineT wReason [r.line,r.scheme]++32::kindL r.kind
def totL (D:Dec):List UInt8:=lineT wTotal [totW D.aw]
def linesL (D:Dec):List (List UInt8):=headL D::(D.aw.map awL++(D.rs.map rsL ++ [totL D]))
def cat (X:List (List UInt8)):List UInt8:=X.flatMap (· ++ [10])
def textL (D:Dec):List UInt8:=cat (linesL D)
def prT (D:Dec):List UInt8:=if chk D=0 then textL D else []
theorem join_nl:∀X:List (List UInt8),X ≠ []→Lib.join (X ++ [[]]) [10]=cat X
 | [x],_=>by
   show Lib.join [x, []] [10]=_
   rw[Wo.join_two,Lib.join_one];unfold cat
   simp
 | x::y::r,_=>by
   show Lib.join (x::y::(r ++ [[]])) [10]=_
   rw[Wo.join_two];have:=join_nl (y::r) (by simp);rw[show Lib.join (y::(r ++ [[]])) [10]=Lib.join (y::r ++ [[]]) [10] from rfl,this];unfold cat
   simp
theorem wrap_bd (x:Int) : -9223372036854775808≤wrap64 x∧wrap64 x≤9223372036854775807:=by unfold wrap64;omega
theorem totW_bd:∀A:List Awd, -9223372036854775808≤totW A∧totW A≤9223372036854775807:=by
 intro A
 by_cases h:A.length=0
 ·rw[List.length_eq_zero_iff.1 h];decide
 ·have e:=totW_take (A:=A) (k:=A.length - 1) (by omega)
  rw[show A.length - 1+1=A.length from by omega,List.take_length]at e;rw[e];exact wrap_bd _
structure Ok (D:Dec):Prop where
 nm:0≤D.year∧D.year≤100∧1≤D.farm∧D.farm≤60∧1≤D.ver∧D.ver≤99
 al:D.aw.length≤16
 rl:D.rs.length≤200
 aw:∀a∈D.aw,awB a D.farm=true
 rs:∀r∈D.rs,0≤r.line∧r.line≤19∧1≤r.kind∧r.kind≤6∧0≤r.scheme∧r.scheme≤15
theorem ok_of {D:Dec}(h:chk D=0):Ok D:=by
 by_cases hb:okB D=true
 ·clear h
  have h:=hb;unfold okB at h;simp only[Bool.and_eq_true,decide_eq_true_eq]at h;obtain⟨⟨⟨⟨h1,h2⟩,h3⟩,h4⟩,h5⟩:=h;have haw:∀a∈D.aw,awB a D.farm=true:=fun a ha=>by
   obtain⟨k,hk,rfl⟩:=List.mem_iff_getElem.1 ha;unfold awsB at h4;have:=List.all_eq_true.1 h4 k (List.mem_range.2 hk);rw[awAt_some hk,Bool.and_eq_true]at this;exact this.1
  refine⟨?_,h2,h3,haw,fun r hr=>?_⟩
  ·unfold named at h1
   simp only[Bool.and_eq_true,inR_iff]at h1;omega
  ·obtain⟨k,hk,rfl⟩:=List.mem_iff_getElem.1 hr
   unfold rssB at h5;have:=List.all_eq_true.1 h5 k (List.mem_range.2 hk);rw[rsAt_some hk,Bool.and_eq_true,Bool.and_eq_true,Bool.and_eq_true,inR_iff,inR_iff,List.any_eq_true]at this;obtain⟨⟨⟨a1,a2⟩, -⟩,b,hb,e⟩:=this;have e:=of_decide_eq_true e;have hb2:=awB_iff.1 (haw b hb);omega
 ·unfold chk at h
  rw[if_neg hb]at h;omega
theorem Ok.awN {D:Dec}(h:Ok D){a:Awd}(ha:a∈D.aw):In64 (awN a):=by
 have:=awB_iff.1 (h.aw a ha);intro n hn;simp only[Dn.awN,List.mem_cons,List.not_mem_nil,or_false]at hn
 rcases hn with rfl|rfl|rfl|rfl|rfl|rfl|rfl|rfl<;>omega
theorem Ok.head {D:Dec}(h:Ok D):In64 [D.year,D.farm,D.ver]:=by
 have:=h.nm;intro n hn;simp only[List.mem_cons,List.not_mem_nil,or_false]at hn
 rcases hn with rfl|rfl|rfl<;>omega
theorem Ok.rsN {D:Dec}(h:Ok D){r:Rsn}(hr:r∈D.rs):In64 [r.line,r.scheme]:=by
 have:=h.rs r hr;intro n hn;simp only[List.mem_cons,List.not_mem_nil,or_false]at hn
 rcases hn with rfl|rfl<;>omega
theorem tot64 (A:List Awd):In64 [totW A]:=by
 have:=totW_bd A;intro n hn;rw[List.mem_singleton.1 hn];exact this
theorem lineT_len {f:List UInt8}{L:List Int}(h:In64 L):(lineT f L).length≤f.length+21*L.length:=by
 unfold lineT;rw[lap];have:=nums_len h;omega
theorem kindL_len (k:Int):(kindL k).length≤7:=by
 unfold kindL;have:∀n:Nat,(kindW.getD n []).length≤7:=fun n=>by
  match n with
  | 0=>decide
  | 1=>decide
  | 2=>decide
  | 3=>decide
  | 4=>decide
  | 5=>decide
  | 6=>decide
  | n+7=>simp[kindW]
 exact this _
theorem cat_len {X:List (List UInt8)}{c:Nat}(h:∀x∈X,x.length≤c):(cat X).length≤(c+1)*X.length:=by
 unfold cat
 induction X with
 | nil=>simp
 | cons x X ih =>
   have h1:=h x List.mem_cons_self;have h2:=ih fun y hy=>h y (List.mem_cons_of_mem _ hy)
   simp only[List.flatMap_cons,lap,List.length_cons,List.length_nil];rw[Nat.mul_add];omega
theorem cat_append (X Y:List (List UInt8)):cat (X++Y)=cat X++cat Y:=by unfold cat;rw[List.flatMap_append]
theorem Ok.rsL {D:Dec}(h:Ok D){r:Rsn}(hr:r∈D.rs):(rsL r).length≤56:=by
 have h1:=lineT_len (f:=wReason) (h.rsN hr);have h2:=kindL_len r.kind;have h3:wReason.length=6:=rfl;unfold Dn.rsL;simp only[lap,List.length_cons]at h1 ⊢;simp only[List.length_nil]at h1;omega
theorem Ok.awL {D:Dec}(h:Ok D){a:Awd}(ha:a∈D.aw):(awL a).length≤173:=by
 have h1:=lineT_len (f:=wAward) (h.awN ha);have h3:wAward.length=5:=rfl;have h4:(Dn.awN a).length=8:=rfl;unfold Dn.awL;omega
theorem Ok.headL {D:Dec}(h:Ok D):(headL D).length≤71:=by
 have h1:=lineT_len (f:=wDecision) h.head;have h3:wDecision.length=8:=rfl;unfold Dn.headL;simp only[List.length_cons,List.length_nil]at h1;omega
theorem totL_len (D:Dec):(totL D).length≤26:=by
 have h1:=lineT_len (f:=wTotal) (tot64 D.aw);have h3:wTotal.length=5:=rfl;unfold totL;simp only[List.length_cons,List.length_nil]at h1;omega
theorem Ok.text {D:Dec}(h:Ok D):(textL D).length≤14300:=by
 unfold textL linesL;rw[show Dn.headL D::(D.aw.map Dn.awL++(D.rs.map Dn.rsL ++ [totL D])) = [Dn.headL D]++(D.aw.map Dn.awL++(D.rs.map Dn.rsL ++ [totL D])) from rfl,cat_append,cat_append,cat_append];have a1:=cat_len (X := [Dn.headL D]) (c:=71) fun x hx=>by rw[List.mem_singleton.1 hx];exact h.headL
 have a2:=cat_len (X:=D.aw.map Dn.awL) (c:=173) fun x hx=>by obtain⟨a,ha,rfl⟩:=List.mem_map.1 hx;exact h.awL ha
 have a3:=cat_len (X:=D.rs.map Dn.rsL) (c:=56) fun x hx=>by obtain⟨a,ha,rfl⟩:=List.mem_map.1 hx;exact h.rsL ha
 have a4:=cat_len (X := [totL D]) (c:=26) fun x hx=>by rw[List.mem_singleton.1 hx];exact totL_len D
 have:=h.al;have:=h.rl;simp only[lap,List.length_map,List.length_cons,List.length_nil]at a1 a2 a3 a4 ⊢;omega
theorem cat_prefix (X Y:List (List UInt8)):(cat X).length≤(cat (X++Y)).length:=by rw[cat_append,lap];omega
def textA (D:Dec) (k:Nat):List UInt8:=cat ([headL D]++(D.aw.take k).map Dn.awL)
def textR (D:Dec) (k:Nat):List UInt8:=cat ([headL D]++(D.aw.map Dn.awL++(D.rs.take k).map Dn.rsL))
theorem textA_succ {D:Dec}{k:Nat}(hk:k<D.aw.length):textA D (k+1)=textA D k++(Dn.awL D.aw[k] ++ [10]):=by
 unfold textA;rw[tsg hk,List.map_append,← List.append_assoc,cat_append]
 congr 1
 unfold cat
 simp
theorem textR_succ {D:Dec}{k:Nat}(hk:k<D.rs.length):textR D (k+1)=textR D k++(Dn.rsL D.rs[k] ++ [10]):=by
 unfold textR;rw[tsg hk,List.map_append,← List.append_assoc,← List.append_assoc,cat_append]
 congr 1
 unfold cat
 simp
theorem textA_zero (D:Dec):textA D 0=headL D ++ [10]:=by unfold textA cat;simp
theorem textA_all (D:Dec):textA D D.aw.length=textR D 0:=by unfold textA textR;rw[List.take_length];simp
theorem textR_all (D:Dec):textL D=textR D D.rs.length++(totL D ++ [10]):=by
 unfold textL linesL textR;rw[List.take_length,show headL D::(D.aw.map Dn.awL++(D.rs.map Dn.rsL ++ [totL D]))=([headL D]++(D.aw.map Dn.awL++D.rs.map Dn.rsL)) ++ [totL D] by simp,cat_append]
 congr 1
 unfold cat
 simp
theorem Ok.textR {D:Dec}(h:Ok D)(k:Nat):(Dn.textR D k).length≤14300:=by
 refine Nat.le_trans ?_ h.text
 have e:linesL D=([Dn.headL D]++(D.aw.map Dn.awL++(D.rs.take k).map Dn.rsL))++((D.rs.drop k).map Dn.rsL ++ [totL D]):=by
  unfold linesL;have:D.rs.map Dn.rsL=(D.rs.take k).map Dn.rsL++(D.rs.drop k).map Dn.rsL:=by rw[← List.map_append,List.take_append_drop]
  rw[this];simp only[List.append_assoc,List.cons_append,List.nil_append]
 unfold textL;rw[e];exact cat_prefix _ _
theorem Ok.textA {D:Dec}(h:Ok D)(k:Nat):(Dn.textA D k).length≤14300:=by
 refine Nat.le_trans ?_ h.text
 have e:linesL D=([Dn.headL D]++(D.aw.take k).map Dn.awL)++((D.aw.drop k).map Dn.awL++(D.rs.map Dn.rsL ++ [totL D])):=by
  unfold linesL;have:D.aw.map Dn.awL=(D.aw.take k).map Dn.awL++(D.aw.drop k).map Dn.awL:=by rw[← List.map_append,List.take_append_drop]
  rw[this];simp only[List.append_assoc,List.cons_append,List.nil_append]
 unfold textL;rw[e];exact cat_prefix _ _
end Dn
def PrG (D:Dec) (w:World) (e:Ending) (w' : World):Prop:=e = .returned (.tuple #[.string (bs (prT D)),I O (Dn.chk D)])∧Below w.heap.size w w'
theorem PrG.bad {D:Dec}{w w' : World}{c:Int}(h:Dn.chk D=c)(hc:c≠0)(hb:Below w.heap.size w w'):PrG D w (.returned (.tuple #[.string ⟨#[]⟩,I O c])) w' :=
 ⟨by unfold prT;rw[h,if_neg hc];rfl,hb⟩
theorem PrG.ok {D:Dec}{w w' : World}(h:Dn.chk D=0)(hb:Below w.heap.size w w'){s:ByteArray}(hs:s=bs (textL D)):PrG D w (.returned (.tuple #[.string s,I O 0])) w' :=
 ⟨by unfold prT;rw[h,if_pos rfl,hs],hb⟩
namespace Te
open Go.Lib
/-! ### how long -/
theorem itoa_le {n:Int}(h0:0≤n){k:Nat}(hk:1≤k)(h:n<10 ^ k):(itoa n).length≤k:=by
 unfold itoa;rw[if_neg (by omega),decDigits_length];have key:∀(k u:Nat),u<10 ^ (k+1)→nDigits u≤k+1:=by
  intro k
  induction k with
  | zero=>intro u hu;rw[nDigits_small (by simpa using hu)];omega
  | succ k ih =>
    intro u hu
    by_cases h1:u<10
    ·rw[nDigits_small h1];omega
    ·rw[nDigits_big h1]
     have:=ih (u / 10) (by rw[Nat.pow_succ]at hu;omega);omega
 obtain⟨k,rfl⟩:∃j,k=j+1:=⟨k - 1,by omega⟩;refine key k n.toNat ?_;have e:((10 ^ (k+1):Nat):Int)=(10:Int) ^ (k+1):=by push_cast;rfl
 omega
end Te
namespace Dn
def dg (c:UInt8):Bool:=decide (48≤c.toNat)&&decide (c.toNat≤57)
def dv (l:List UInt8):Nat:=l.foldl (fun n c=>10*n+(c.toNat - 48)) 0
theorem dv_snoc (l:List UInt8)(c:UInt8):dv (l ++ [c])=10*dv l+(c.toNat - 48):=by unfold dv;rw[List.foldl_append];rfl
def canon (l:List UInt8):Bool:=decide (1≤l.length)&&l.all dg&&(decide (l.length=1)||decide (l.head?≠some 48))
def nb (l:List UInt8):Bool:=canon l&&decide (l.length≤17)&&decide (dv l≤1125899906842624)
def nv (l:List UInt8):Int:=(dv l:Int)
theorem dg_of (c:UInt8)(h:dg c=true):UInt8.ofNat (48+(c.toNat - 48))=c:=by
 unfold dg at h;simp only[Bool.and_eq_true,decide_eq_true_eq]at h;rw[show 48+(c.toNat - 48)=c.toNat by omega];exact UInt8.ofNat_toNat
theorem dec_canon:∀(n:Nat) (l:List UInt8),l.length=n→canon l=true→Lib.decDigits (dv l)=l∧(1<n→1≤dv l)
 | 0,l,hn,h=>by unfold canon at h;simp[hn]at h
 | 1,l,hn,h=>by
   match l,hn with
   | [c],_ =>
     unfold canon at h
     simp at h
     have hc:=h;refine⟨?_,fun h=>by omega⟩;have e:dv [c]=c.toNat - 48:=by simp[dv]
     have h9:c.toNat - 48<10:=by unfold dg at hc;simp at hc;omega
     rw[e,Lib.decDigits_one h9,dg_of c hc]
 | n+2,l,hn,h=>by
   obtain⟨l', c,rfl⟩:∃l' c,l=l' ++ [c]:=by
    have hne:l ≠ []:=fun e=>by rw[e]at hn;simp at hn
    exact⟨l.dropLast,l.getLast hne,(List.dropLast_concat_getLast hne).symm⟩
   have hl' : l'.length=n+1:=by rw[lap]at hn;simp at hn;omega
   have h2:=h;unfold canon at h2;simp only[Bool.and_eq_true,Bool.or_eq_true,decide_eq_true_eq,lap,List.length_cons,List.length_nil,List.all_append]at h2;obtain⟨⟨_,hd,hc⟩,hz⟩:=h2;have hc:dg c=true:=by simpa using hc
   have hz:l'.head?≠some 48:=by
    rcases hz with hz|hz
    ·omega
    ·intro e
     apply hz
     rw[List.head?_append,e];rfl
   have hcan:canon l' = true:=by
    unfold canon;simp only[Bool.and_eq_true,Bool.or_eq_true,decide_eq_true_eq];exact⟨⟨by omega,hd⟩,.inr hz⟩
   obtain⟨ih,ih2⟩:=dec_canon (n+1) l' hl' hcan;have h9:c.toNat - 48<10:=by unfold dg at hc;simp at hc;omega
   have h1:1≤dv l' :=by
    by_cases h1:1<n+1
    ·exact ih2 h1
    ·match l', hl' with
     | [x],_ =>
       have e:dv [x]=x.toNat - 48:=by simp[dv]
       rw[e]
       simp at hd hz
       unfold dg at hd
       simp at hd
       have:x.toNat≠48:=fun e=>hz (UInt8.toNat_inj.1 e)
       omega
     | [],h=>simp at h
     | _::_::_,h=>simp at h;omega
   refine⟨?_,fun _=>by rw[dv_snoc];omega⟩
   rw[dv_snoc,Lib.decDigits,dif_neg (by omega),show(10*dv l' + (c.toNat - 48)) / 10=dv l' by omega,show(10*dv l' + (c.toNat - 48)) % 10=c.toNat - 48 by omega,ih,dg_of c hc]
theorem canon_dec:∀(u:Nat),canon (Lib.decDigits u)=true∧dv (Lib.decDigits u)=u∧(1≤u→(Lib.decDigits u).head?≠some 48):=by
 intro u
 induction u using Nat.strongRecOn with
 | ind u ih =>
   by_cases h:u<10
   ·rw[Lib.decDigits_one h]
    have hn:(UInt8.ofNat (48+u)).toNat=48+u:=by simp;omega
    refine⟨?_,?_,fun h1 e=>?_⟩
    ·unfold canon dg;simp;omega
    ·simp[dv];omega
    ·simp at e
     have:=congrArg UInt8.toNat e
     simp at this
     omega
   ·obtain⟨h1,h2,h3⟩:=ih (u / 10) (by omega)
    rw[Lib.decDigits,dif_neg h];have hd:dg (UInt8.ofNat (48+u % 10))=true:=by unfold dg;simp;omega
    have hne:Lib.decDigits (u / 10) ≠ []:=fun e=>by rw[e]at h1;simp[canon]at h1
    have hh:(Lib.decDigits (u / 10) ++ [UInt8.ofNat (48+u % 10)]).head?=(Lib.decDigits (u / 10)).head?:=by
     cases e:Lib.decDigits (u / 10) with
     | nil=>exact absurd e hne
     | cons a b=>rfl
    have hh2:=h3 (by omega);refine⟨?_,?_,fun _=>by rw[hh];exact hh2⟩
    ·unfold canon at h1 ⊢
     simp only[Bool.and_eq_true,Bool.or_eq_true,decide_eq_true_eq,lap,List.length_cons,List.length_nil,List.all_append]at h1 ⊢;refine⟨⟨by omega,h1.1.2,by simpa using hd⟩,.inr (by rw[hh];exact hh2)⟩
    ·rw[dv_snoc,h2]
     have hn:(UInt8.ofNat (48+u % 10)).toNat=48+u % 10:=by simp;omega
     rw[hn];omega
theorem itoa_nat (u:Nat):Lib.itoa (u:Int)=Lib.decDigits u:=by
 unfold Lib.itoa;rw[if_neg (by omega)]
 rfl
theorem nb_num (l:List UInt8):Wo.numB l 0 1125899906842624=nb l∧(nb l=true→Wo.numV l 0 1125899906842624=nv l):=by
 have key:nb l=true→Wo.numO l=some (nv l):=by
  intro h;unfold nb at h;simp only[Bool.and_eq_true,decide_eq_true_eq]at h;have e:=(dec_canon l.length l rfl h.1.1).1;have e2:Lib.itoa (nv l)=l:=by unfold nv;rw[itoa_nat];exact e
  have:=Wo.numO_itoa (nv l) (by unfold nv;omega) (by unfold nv;omega);rw[e2]at this;exact this
 have back:∀v,Wo.numO l=some v→0≤v→v≤1125899906842624→nb l=true:=by
  intro v hv h0 h1;obtain⟨e,_,_⟩:=Wo.numO_some hv;obtain⟨u,rfl⟩:∃u:Nat,v=(u:Int):=⟨v.toNat,by omega⟩;have hl:(Lib.itoa (u:Int)).length≤17:=Te.itoa_le (by omega) (by omega) (by omega);rw[itoa_nat]at e hl;obtain⟨c1,c2,_⟩:=canon_dec u;rw[← e];unfold nb;rw[c1,c2];simp only[Bool.true_and,Bool.and_eq_true,decide_eq_true_eq];omega
 cases h:Wo.numO l with
 | none =>
   have hn:nb l=false:=by
    cases e:nb l with
    | false=>rfl
    | true=>rw[key e]at h;cases h
   refine⟨?_,fun e=>by rw[hn]at e;cases e⟩
   unfold Wo.numB;rw[h,hn]
 | some v =>
   by_cases hv:v<0∨1125899906842624<v
   ·have hn:nb l=false:=by
     cases e:nb l with
     | false=>rfl
     | true =>
       have:=key e;rw[h]at this
       cases this
       unfold nb nv at *;simp only[Bool.and_eq_true,decide_eq_true_eq]at e;omega
    refine⟨?_,fun e=>by rw[hn]at e;cases e⟩
    unfold Wo.numB;rw[h,hn];simp only[if_pos hv]
   ·have hb:=back v h (by omega) (by omega)
    have:=key hb;rw[h]at this
    cases this
    refine⟨?_,fun _=>?_⟩
    ·unfold Wo.numB;rw[h,hb];simp only[if_neg hv]
    ·unfold Wo.numV;rw[h];simp only[if_neg hv]
structure PS where
 part:Int
 d:Dec
 tot:Int
def PS.start:PS:=⟨0,Dec.none,0⟩
def numsB (l:List (List UInt8)) (n:Nat):Bool:=decide (l.length=n)&&l.all nb
def kindI (w:List UInt8):Int :=
 if w = [] then 0 else if w = [100,117,101] then 1 else if w = [115,101,97,115,111,110] then 2 else if w = [114,101,102,117,115,101,100] then 3 else if w = [110,111,116,104,105,110,103] then 4 else if w = [99,114,111,112] then 5 else if w = [97,114,101,97] then 6 else -1
def nvs (l:List (List UInt8)) (i:Nat):Int:=nv (l.getD i [])
def stepD (s:PS) (l:List (List UInt8)):Option PS:=if (numsB l 3&&decide (s.part=0))=true then some ⟨1,{ s.d with year:=nvs l 0,farm:=nvs l 1,ver:=nvs l 2 },s.tot⟩ else none
def stepA (s:PS) (l:List (List UInt8)):Option PS:=if (numsB l 8&&decide (s.part=1))=true then some ⟨1,{ s.d with aw:=s.d.aw ++ [⟨s.d.farm,nvs l 0,nvs l 1,nvs l 2,nvs l 3,nvs l 4,nvs l 5,nvs l 6,nvs l 7⟩] },s.tot⟩ else none
def midB (s:PS):Bool:=decide (s.part=1)||decide (s.part=2)
def stepR (s:PS) (l:List (List UInt8)):Option PS:=if (decide (l.length=3)&&midB s&&numsB (l.take 2) 2&&decide (1≤kindI (l.getD 2 [])))=true then some ⟨2,{ s.d with rs:=s.d.rs ++ [⟨nvs l 0,nvs l 1,kindI (l.getD 2 [])⟩] },s.tot⟩ else none
def stepT (s:PS) (l:List (List UInt8)):Option PS:=if (numsB l 1&&midB s)=true then some ⟨3,s.d,nvs l 0⟩ else none
def stepW (s:PS):List (List UInt8)→Option PS
 | []=>none
 | x::l=>if x=wDecision then stepD s l else if x=wAward then stepA s l else if x=wReason then stepR s l else if x=wTotal then stepT s l else none
def fin (n:Int) (s:PS):Dec × Int × Int :=
 if s.part≠3 then (Dec.none,n+1,4) else if chk s.d≠0 then (Dec.none,0,chk s.d) else if s.tot≠totW s.d.aw then (Dec.none,0,77) else (s.d,0,0)
def run:Nat→Int→PS→List UInt8→Dec × Int × Int
 | 0,n,_,_=>(Dec.none,n+1,4)
 | f+1,n,s,t =>
   if t = [] then fin n s else
   if Lib.indexByte t 10<0 then (Dec.none,n+1,4) else
   match stepW s (Wo.pcs 32 [] (t.take (Lib.indexByte t 10).toNat)) with
   | none=>(Dec.none,n+1,4)
   | some s' => run f (n+1) s' (t.drop ((Lib.indexByte t 10).toNat+1))
def parse (t:List UInt8):Dec × Int × Int:=if 16384<t.length then (Dec.none,0,1) else run (t.length+1) 0 PS.start t
theorem ix_lt {t:List UInt8}(h:¬Lib.indexByte t 10<0):(Lib.indexByte t 10).toNat<t.length:=by
 have:=(Lib.indexByte_some (l:=t) (c:=10) (o:=(Lib.indexByte t 10).toNat) (by omega)).1;exact(List.getElem?_eq_some_iff.1 this).1
theorem cut_yes {t:List UInt8}(h:¬Lib.indexByte t 10<0):Lib.cut t [10]=(t.take (Lib.indexByte t 10).toNat,t.drop ((Lib.indexByte t 10).toNat+1),true):=by
 unfold Lib.cut;rw[Lib.index_one,if_pos (by omega)]
 rfl
theorem cut_no {t:List UInt8}(h:Lib.indexByte t 10<0):Lib.cut t [10]=(t, [],false):=by
 unfold Lib.cut;rw[Lib.index_one,if_neg (by omega)]
theorem run_nil (f:Nat)(n:Int)(s:PS):run (f+1) n s []=fin n s:=by unfold run;rw[if_pos rfl]
theorem run_open {f:Nat}{n:Int}{s:PS}{t:List UInt8}(ht:t ≠ [])(h:Lib.indexByte t 10<0):run (f+1) n s t=(Dec.none,n+1,4):=by unfold run;rw[if_neg ht,if_pos h]
theorem run_bad {f:Nat}{n:Int}{s:PS}{t:List UInt8}(ht:t ≠ [])(h:¬Lib.indexByte t 10<0)(hs:stepW s (Wo.pcs 32 [] (t.take (Lib.indexByte t 10).toNat))=none):run (f+1) n s t=(Dec.none,n+1,4):=by unfold run;rw[if_neg ht,if_neg h,hs]
theorem run_step {f:Nat}{n:Int}{s s' : PS}{t:List UInt8}(ht:t ≠ [])(h:¬Lib.indexByte t 10<0)(hs:stepW s (Wo.pcs 32 [] (t.take (Lib.indexByte t 10).toNat))=some s'):run (f+1) n s t=run f (n+1) s' (t.drop ((Lib.indexByte t 10).toNat+1)):=by
 conv=>lhs;unfold run
 rw[if_neg ht,if_neg h,hs]
theorem numsB_all {l:List (List UInt8)}{n:Nat}(h:numsB l n=true):l.length=n∧∀x∈l,nb x=true:=by
 unfold numsB at h;rw[Bool.and_eq_true,decide_eq_true_eq,List.all_eq_true]at h;exact h
end Dn
def tl (ws:List ByteArray):List (List UInt8):=ws.map (·.data.toList)
def NumsG (l:List (List UInt8)) (n:Nat) (w:World) (e:Ending) (w' : World):Prop :=
 ∃v,e = .returned (.tuple #[v,.bool (numsB l n)])∧(numsB l n=true→OwnR SI w' 3 w.heap.size v (l.map nv))∧Below w.heap.size w w'
theorem SB_at {w:World}{p:Option Addr}{L:List ByteArray}(h:Recs SB w p L){k:Nat}(hk:k<L.length):∃b off,p=some ⟨b,off,none⟩∧b<w.heap.size∧w.cell? ⟨b,off+k,none⟩=some (.string L[k]):=by
 obtain⟨b,off,e,hl,hc⟩:=h.at hk;have:=hc 0 _ rfl;rw[show SB.k=1 from rfl,Nat.mul_one,Nat.add_zero]at this;exact⟨b,off,e,hl,this⟩
theorem numbers35_any (q:Option Addr)(ws:List ByteArray)(c n:Nat)(w:World)(h:Recs SB w q ws)(hE:Env w)(hz:∀x∈ws,x.size≤16384)(hl:ws.length≤20000) :
  Calls Tryz.prog 92 #[.slice q ws.length c,I O (n:Int)] w (NumsG (tl ws) n w):=by
 have H:=mh h;have HE:=mh hE;have HZ:=mh hz;have hlen:=h.len;clear h hE hz
 by_cases hn:ws.length=n
 rotate_left
 ·have hnb:((ws.length:Int) != (n:Int))=true:=by simp;omega
  have HF:=mh (show numsB (tl ws) n=false from by unfold numsB tl;rw[List.length_map,dqf hn];rfl);clear hn
  go_enter Tryz.func92,Tryz.ntmps92
  go_wp2
  go_ret2
  exact⟨.slice none 0 0,by rw[HF.out];rfl,(fun h=>by rw[HF.out]at h;cases h),brf _ _⟩
 have hnb:((ws.length:Int) != (n:Int))=false:=by simp;omega
 have HL:=mh (show(tl ws).length=n from by unfold tl;rw[List.length_map,hn]);clear hn
 go_enter Tryz.func92,Tryz.ntmps92
 go_wp2
 go_loopw [6,17] (fun v iv W=>∃k:Nat,k≤ws.length∧iv=I O (k:Int)∧OwnR SI W 3 w.heap.size v ((tl (ws.take k)).map nv)∧(tl (ws.take k)).all nb=true∧Below w.heap.size w W) (fun _ iv _=>ws.length - (intOf iv).toNat)
 case atStart=>exact⟨0,Nat.zero_le _,rfl,OwnR.nil _ _ _,rfl,brf _ _⟩
 case round =>
  obtain⟨wo,rfl⟩:∃wo:World,wo=wr:=⟨_,rfl⟩;obtain⟨k,hk,rfl,hO,hall,hb⟩:=hrel;have HO:=mh hO;have HB:=mh hb;have HA:=mh hall;have hk0:(0:Int)≤(k:Int):=inn _
  by_cases hlt:k<ws.length
  ·have hk1:(k:Int)<(ws.length:Int):=by omega
   obtain⟨b,off,rfl,hbl,hc⟩:=SB_at (H.out.below hb) hlt;have ST:=mh (show tl (ws.take (k+1))=tl (ws.take k) ++ [ws[k].data.toList] from by unfold tl;rw[tsg hlt,List.map_append];rfl);have MEM:=mh (show ws[k].data.toList∈tl ws from by unfold tl;exact List.mem_map.2 ⟨_,List.getElem_mem hlt,rfl⟩);have hsz:=HZ.out ws[k] (List.getElem_mem hlt);have NB:=nb_num ws[k].data.toList;have NC:=mh (number_any ws[k] 0 1125899906842624 wo (HE.out.below hb) (by omega));unfold NumGive at NC;have LEN:=mh (show((tl (ws.take k)).map nv).length≤20000 from by unfold tl;simp only[List.length_map,List.length_take];omega);obtain⟨x,ex⟩:∃x,ws[k]=x:=⟨_,rfl⟩;rw[ex]at hc ST MEM NB NC;rw[NB.1]at NC;clear ex hsz hO hall hb hbl
   cases hv:nb x.data.toList
   ·rw[hv]at NC
    have HF:=mh (show numsB (tl ws) n=false from by
     unfold numsB
     rw[show(tl ws).all nb=false from by
      rw[Bool.eq_false_iff];intro e;have:=List.all_eq_true.1 e _ MEM.out
      rw[hv]at this;cases this]
     simp)
    clear NB hv
    go_wp2_with (go_at_call 118;(with_reducible refine cmo NC.out ?_);rintro e w3 ⟨rfl,hb3⟩;have HB3:=mh (HB.out.trans (hb3.mono HB.out.size));clear hb3)
    go_ret2
    exact⟨.slice none 0 0,by rw[HF.out];rfl,(fun h=>by rw[HF.out]at h;cases h),HB3.out⟩
   ·rw[hv,NB.2 hv]at NC
    have HV:=mh hv;obtain⟨y,ey⟩:∃y,nv x.data.toList=y:=⟨_,rfl⟩;have EY:=mh ey;rw[ey]at NC;clear NB hv ey
    go_wp2_with (first|(go_at_call 118;(with_reducible refine cmo NC.out ?_);rintro e w3 ⟨rfl,hb3⟩;have HB3:=mh (HB.out.trans (hb3.mono HB.out.size));have HO3:=mh (HO.out.below hb3);clear hb3)|(at_builtin;(refine OwnR.append el_int rfl (.tmp 28) (.tmp 30) rfl w.heap.size _ ((tl (ws.take k)).map nv) y #[I O y] rfl HO3.out rfl (by simp[Act.eval]) HB3.out.size (by have:=LEN.out;omega) (by decide) ?_);intro v5 w5 hO5 hap5;have HO5:=mh hO5;have HB5:=mh (HB3.out.trans hap5.below);clear hO5 hap5)|fail)
    go_roundw
    case rel=>exact⟨k+1,by omega,by go_num,by rw[ST.out,List.map_append];show OwnR SI _ _ _ _ (_ ++ [nv x.data.toList]);rw[EY.out];exact HO5.out,by rw[ST.out,List.all_append,HA.out];simp[HV.out],HB5.out⟩
    case measure=>simp[intOf];omega
  ·obtain rfl:k=ws.length:=by omega
   rw[List.take_length]at HO HA;have HF:=mh (show numsB (tl ws) n=true from by unfold numsB;rw[HA.out,dqt HL.out];rfl);clear hO hall hb
   go_wp2
   go_ret2
   exact⟨_,by rw[HF.out];rfl,(fun _=>HO.out),HB.out⟩
theorem in35_any (n a b:Int)(w:World):Calls Tryz.prog 56 #[I O n,I O a,I O b] w fun e w' => e = .returned (.bool (inR n a b))∧w=w' :=by
 unfold inR
 by_cases h1:a≤n
 ·rw[dqt h1]
  by_cases h2:n≤b
  ·rw[dqt h2]
   go_enter Tryz.func56,Tryz.ntmps56
   go_wp2
   go_ret
   exact⟨rfl,rfl⟩
  ·rw[dqf h2]
   go_enter Tryz.func56,Tryz.ntmps56
   go_wp2
   go_ret
   exact⟨rfl,rfl⟩
 ·rw[dqf h1]
  go_enter Tryz.func56,Tryz.ntmps56
  go_wp2
  go_ret
  exact⟨rfl,rfl⟩
theorem named35_any (y f v:Int)(w:World):Calls Tryz.prog 30 #[I O y,I O f,I O v] w fun e w' => e = .returned (.bool (named y f v))∧w=w' :=by
 unfold named;have I1:=mh (in35_any y 0 100 w);have I2:=mh (in35_any f 1 60 w);have I3:=mh (in35_any v 1 99 w)
 cases e1:inR y 0 100
 all_goals cases e2:inR f 1 60
 all_goals cases e3:inR v 1 99
 all_goals
  rw[e1]at I1;rw[e2]at I2;rw[e3]at I3;clear e1 e2 e3
  go_enter Tryz.func30,Tryz.ntmps30
  go_wp2_with (go_at_call 56;(first|(with_reducible refine cmo I1.out ?_)|(with_reducible refine cmo I2.out ?_)|(with_reducible refine cmo I3.out ?_));rintro e w1 ⟨rfl,rfl⟩)
  go_ret
  exact⟨rfl,rfl⟩
theorem falling35_any (m:Int)(p:Option Addr)(L:List Int)(c:Nat)(w:World)(h:Ints w p L):Calls Tryz.prog 60 #[I O m,.slice p L.length c] w fun e w' => e = .returned (.bool (fallB m L))∧w=w' :=by
 have hlen:=h.len;have H:=mh h;clear h
 go_enter Tryz.func60,Tryz.ntmps60
 go_wp2
 go_loopw [5,11] (fun lv iv W=>∃(k:Nat) (x:Int),k≤L.length∧iv=I O (k:Int)∧lv=I O x∧fallB m L=fallB x (L.drop k)∧w=W) (fun _ iv _=>L.length - (intOf iv).toNat)
 case atStart=>exact⟨0,m,Nat.zero_le _,rfl,rfl,rfl,rfl⟩
 case round =>
  obtain⟨k,x,hk,rfl,rfl,hf,rfl⟩:=hrel;have hk0:(0:Int)≤(k:Int):=inn _
  by_cases hlt:k<L.length
  ·have hk1:(k:Int)<(L.length:Int):=by omega
   obtain⟨b,off,y,rfl,hb,hc,hy⟩:=H.out.get hlt;have ED:L.drop k=y::L.drop (k+1):=by
    rw[List.drop_eq_getElem_cons hlt]
    congr 1
    have:=hy.out;rw[List.getD_eq_getElem?_getD,List.getElem?_eq_getElem hlt]at this;exact this
   have HF:=mh (show fallB m L=(inR y 0 x&&fallB y (L.drop (k+1))) from by rw[hf,ED];rfl);have I1:=mh (in35_any y 0 x w);clear hf ED hy hb
   cases e1:inR y 0 x
   all_goals rw[e1]at I1 HF;clear e1
   ·go_wp2_with (go_at_call 56;(with_reducible refine cmo I1.out ?_);rintro e w1 ⟨rfl,rfl⟩)
    go_ret
    exact⟨by rw[HF.out];rfl,by first|rfl|trivial⟩
   ·go_wp2_with (go_at_call 56;(with_reducible refine cmo I1.out ?_);rintro e w1 ⟨rfl,rfl⟩)
    go_roundw
    case rel=>exact⟨k+1,y,by omega,by go_num,rfl,by rw[HF.out];rfl,by first|rfl|trivial⟩
    case measure=>simp[intOf];omega
  ·obtain rfl:k=L.length:=by omega
   have HF:=mh (show fallB m L=true from by rw[hf,List.drop_length];rfl);clear hf
   go_wp2
   go_ret
   exact⟨by rw[HF.out];rfl,by first|rfl|trivial⟩
theorem behind35_any (a b:Rsn)(w:World):Calls Tryz.prog 57 #[.agg #[I O a.line,I O a.scheme,I O a.kind],.agg #[I O b.line,I O b.scheme,I O b.kind]] w (BoolG (behindB a b) w):=by
 obtain⟨a1,a2,a3⟩:=a;obtain⟨b1,b2,b3⟩:=b;unfold behindB;simp only;have HB:=mh (balloc mle (balloc mle (brf w.heap.size w) (.cells #[I O a1,I O a2,I O a3] 76)) (.cells #[I O b1,I O b2,I O b3] 76))
 by_cases h1:b1<a1
 ·rw[dqt h1]
  go_enter Tryz.func57,Tryz.ntmps57
  go_wp2
  go_ret
  exact⟨rfl,HB.out⟩
 ·rw[dqf h1]
  by_cases h2:a1=b1
  ·subst h2
   rw[dqt rfl]
   by_cases h3:b2<a2
   ·rw[dqt h3]
    go_enter Tryz.func57,Tryz.ntmps57
    go_wp2
    go_ret
    exact⟨rfl,HB.out⟩
   ·rw[dqf h3]
    go_enter Tryz.func57,Tryz.ntmps57
    go_wp2
    go_ret
    exact⟨rfl,HB.out⟩
  ·rw[dqf h2]
   have h2b:(a1==b1)=false:=by simpa using h2
   go_enter Tryz.func57,Tryz.ntmps57
   go_wp2
   go_ret
   exact⟨rfl,HB.out⟩
theorem refnum35_any (y f v:Int)(w:World):Calls Tryz.prog 15 #[I O y,I O f,I O v] w fun e w' => e = .returned (I O (num y f v))∧w=w' :=by
 by_cases h0:0≤y
 ·skip
  by_cases h1:y≤100
  ·skip
   by_cases h2:1≤f
   ·skip
    by_cases h3:f≤60
    ·skip
     by_cases h4:1≤v
     ·skip
      by_cases h5:v≤99
      ·skip
       have HA:num y f v=(y*61+f)*100+v:=if_pos (by unfold named;rw[inR_iff.2 ⟨h0,h1⟩,inR_iff.2 ⟨h2,h3⟩,inR_iff.2 ⟨h4,h5⟩];rfl);rw[HA];clear HA;have n0:¬y<0:=by omega
       have n1:¬100<y:=by omega
       have n2:¬f<1:=by omega
       have n3:¬60<f:=by omega
       have n4:¬v<1:=by omega
       have n5:¬99<v:=by omega
       go_enter Tryz.func15,Tryz.ntmps15
       go_wp2
       go_ret
       exact⟨rfl,rfl⟩
      ·have HA:num y f v=0:=if_neg (by unfold named inR;simp;omega)
       rw[HA];clear HA;have n0:¬y<0:=by omega
       have n1:¬100<y:=by omega
       have n2:¬f<1:=by omega
       have n3:¬60<f:=by omega
       have n4:¬v<1:=by omega
       have n5:99<v:=by omega
       go_enter Tryz.func15,Tryz.ntmps15
       go_wp2
       go_ret
       exact⟨rfl,rfl⟩
     ·have HA:num y f v=0:=if_neg (by unfold named inR;simp;omega)
      rw[HA];clear HA;have n0:¬y<0:=by omega
      have n1:¬100<y:=by omega
      have n2:¬f<1:=by omega
      have n3:¬60<f:=by omega
      have n4:v<1:=by omega
      go_enter Tryz.func15,Tryz.ntmps15
      go_wp2
      go_ret
      exact⟨rfl,rfl⟩
    ·have HA:num y f v=0:=if_neg (by unfold named inR;simp;omega)
     rw[HA];clear HA;have n0:¬y<0:=by omega
     have n1:¬100<y:=by omega
     have n2:¬f<1:=by omega
     have n3:60<f:=by omega
     go_enter Tryz.func15,Tryz.ntmps15
     go_wp2
     go_ret
     exact⟨rfl,rfl⟩
   ·have HA:num y f v=0:=if_neg (by unfold named inR;simp;omega)
    rw[HA];clear HA;have n0:¬y<0:=by omega
    have n1:¬100<y:=by omega
    have n2:f<1:=by omega
    go_enter Tryz.func15,Tryz.ntmps15
    go_wp2
    go_ret
    exact⟨rfl,rfl⟩
  ·have HA:num y f v=0:=if_neg (by unfold named inR;simp;omega)
   rw[HA];clear HA;have n0:¬y<0:=by omega
   have n1:100<y:=by omega
   go_enter Tryz.func15,Tryz.ntmps15
   go_wp2
   go_ret
   exact⟨rfl,rfl⟩
 ·have HA:num y f v=0:=if_neg (by unfold named inR;simp;omega)
  rw[HA];clear HA;have n0:y<0:=by omega
  go_enter Tryz.func15,Tryz.ntmps15
  go_wp2
  go_ret
  exact⟨rfl,rfl⟩
theorem num35_any (y f v:Int)(w:World):Calls Tryz.prog 18 #[I O y,I O f,I O v] w fun e w' => e = .returned (I O (num y f v))∧w=w' :=by
 have I1:=mh (named35_any y f v w)
 by_cases h:named y f v=true
 ·have HA:num y f v=(y*61+f)*100+v:=if_pos h
  rw[h]at I1;unfold named at h;simp only[Bool.and_eq_true,inR_iff]at h;rw[HA];clear HA;obtain⟨⟨⟨h0,h1⟩,h2,h3⟩,h4,h5⟩:=h
  go_enter Tryz.func18,Tryz.ntmps18
  go_wp2_with (go_at_call 30;(with_reducible refine cmo I1.out ?_);rintro e w1 ⟨rfl,rfl⟩)
  go_ret
  exact⟨rfl,rfl⟩
 ·have HA:num y f v=0:=if_neg h
  rw[Bool.not_eq_true]at h;rw[h]at I1;rw[HA];clear HA h
  go_enter Tryz.func18,Tryz.ntmps18
  go_wp2_with (go_at_call 30;(with_reducible refine cmo I1.out ?_);rintro e w1 ⟨rfl,rfl⟩)
  go_ret
  exact⟨rfl,rfl⟩
def Dn.splB (n:Int):Bool:=decide (0≤n)&&named (n / 100 / 61) (n / 100 % 61) (n % 100)
def Dn.spl (n:Int):Array Value:=if splB n=true then #[I O (n / 100 / 61),I O (n / 100 % 61),I O (n % 100),.bool true] else #[I O 0,I O 0,I O 0,.bool false]
def SplG (n:Int) (w:World) (e:Ending) (w' : World):Prop:=e = .returned (.tuple (spl n))∧w=w'
theorem SplG.yes {n:Int}(h:splB n=true)(w:World):SplG n w (.returned (.tuple #[I O (n / 100 / 61),I O (n / 100 % 61),I O (n % 100),.bool true])) w:=⟨by unfold spl;rw[if_pos h],rfl⟩
theorem SplG.no {n:Int}(h:splB n=false)(w:World):SplG n w (.returned (.tuple #[I O 0,I O 0,I O 0,.bool false])) w:=⟨by unfold spl;rw[if_neg (by rw[h];decide)],rfl⟩
theorem split35_any (n:Int)(w:World)(h1:n≤9223372036854775807)(h2 : -9223372036854775808≤n):Calls Tryz.prog 16 #[I O n] w (SplG n w):=by
 by_cases h0:0≤n
 ·have hq:n / 100≤9223372036854775807:=by omega
  have hq0:0≤n / 100:=by omega
  have I1:=mh (named35_any (n / 100 / 61) (n / 100 % 61) (n % 100) w);have hn:¬n<0:=by omega
  have ES:splB n=named (n / 100 / 61) (n / 100 % 61) (n % 100):=by unfold splB;rw[dqt h0];rfl
  cases e:named (n / 100 / 61) (n / 100 % 61) (n % 100)
  ·have GV:=mh (fun W=>SplG.no (ES.trans e) W)
   rw[e]at I1;clear e ES
   go_enter Tryz.func16,Tryz.ntmps16
   go_wp2_with (go_at_call 30;(with_reducible refine cmo I1.out ?_);rintro e w1 ⟨rfl,rfl⟩)
   exact bodyPost_ret (v := .tuple #[I O 0,I O 0,I O 0,.bool false]) (by simp[results,Tryz.results16,go_sem]) rfl (GV.out _)
  ·have GV:=mh (fun W=>SplG.yes (ES.trans e) W)
   rw[e]at I1;clear e ES
   go_enter Tryz.func16,Tryz.ntmps16
   go_wp2_with (go_at_call 30;(with_reducible refine cmo I1.out ?_);rintro e w1 ⟨rfl,rfl⟩)
   exact bodyPost_ret (v := .tuple #[I O (n / 100 / 61),I O (n / 100 % 61),I O (n % 100),.bool true]) (by simp[results,Tryz.results16,go_sem]) rfl (GV.out _)
 ·have hn:n<0:=by omega
  have GV:=mh (fun W=>SplG.no (n:=n) (by unfold splB;rw[dqf h0];rfl) W);clear h0
  go_enter Tryz.func16,Tryz.ntmps16
  go_wp2_with fail
  exact bodyPost_ret (v := .tuple #[I O 0,I O 0,I O 0,.bool false]) (by simp[results,Tryz.results16,go_sem]) rfl (GV.out _)
end Go.Proofs.YtljibgchickcpaaGreatDoor
