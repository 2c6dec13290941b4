/- Packed. -/
import Derived.Test.YtefcalgjnkigjaaGreatL15
set_option maxRecDepth 100000
set_option maxHeartbeats 8000000
open Go.Value renaming int → I
open Go.IntKind renaming i64 → O
namespace Go.Proofs.YtefcalgjnkigjaaGreat
open Go.RowKit Te Sc
section
variable {α:Type} {S:jJ α} {w:World} {T:TypeId} {B g n c:Nat} {L:List α}
theorem qX.one {y:α}{cs:Array Value}(hcs:cs.toList=S.cells y)(hB:B≤w.heap.size):qX S (w.alloc (.cells cs T)) T B (.slice (some ⟨w.heap.size,0,none⟩) 1 1) [y]:=by
 have hl:cs.toList.length=S.k:=by rw[hcs,S.len]
 refine⟨by simp[jJ.flat,S.len],.inr ⟨w.heap.size,1,cs,rfl,hB,Array.getElem?_push_size,Nat.le_refl _,by unfold maxLen;omega,by simpa using hl,?_⟩⟩
 show cs.toList.take (1*S.k)=S.cells y ++ []
 rw[List.append_nil,Nat.one_mul,← hl,List.take_length,hcs]
theorem qX.put (h:qX S w T B (.slice (some ⟨g,0,none⟩) n c) L){k:Nat}(hk:k<L.length)(i:Nat)(u:Value)(a:α)(hi:i<S.k)(ha:S.cells a=(S.cells L[k]).set i u):qX S (w.setCell ⟨g,k*S.k+i,none⟩ u) T B (.slice (some ⟨g,0,none⟩) n c) (L.set k a):=by
 obtain⟨g', e, -, -, -, -, -,hs⟩:=h.at hk
 cases e
 exact hs i u a hi ha
theorem qX.put' {b:α}{k:Nat}(h:qX S w T B (.slice (some ⟨g,0,none⟩) n c) (L.set k b))(hk:k<L.length)(i:Nat)(u:Value)(a:α)(hi:i<S.k)(ha:S.cells a=(S.cells b).set i u):qX S (w.setCell ⟨g,k*S.k+i,none⟩ u) T B (.slice (some ⟨g,0,none⟩) n c) (L.set k a):=by
 have hk' : k<(L.set k b).length:=by rw[List.length_set];exact hk
 have:=h.put hk' i u a hi (by rw[List.getElem_set_self];exact ha);rw[List.set_set]at this;exact this
end
def dQ (w:World) (g o:Nat):World:=(((w.setCell ⟨g,o+2,none⟩ (I O 1)).setCell ⟨g,o+3,none⟩ (I O 0)).setCell ⟨g,o+4,none⟩ (I O 0)).setCell ⟨g,o+5,none⟩ (.slice none 0 0)
theorem yEA (w:World){g b:Nat}(o:Nat)(h:b≠g):(dQ w g o).heap[b]?=w.heap[b]?:=by
 unfold dQ;rw[qB _ h,qB _ h,qB _ h,qB _ h]
theorem kWA (w:World)(g o:Nat):(dQ w g o).heap.size=w.heap.size:=by
 unfold dQ;rw[jG,jG,jG,jG]
theorem xP.cond {B:Nat}{wr:World}{v:Value}{L:List Sch}(h:xP B wr v L){k:Nat}(hk:k<L.length) :
  ∃g c r,v = .slice (some ⟨g,0,none⟩) L.length c∧B≤g∧yA wr g (k*10) r∧(∀i,wr.frozen? ⟨g,i,none⟩=false)∧xP B (dQ wr g (k*10)) v (L.set k { L[k] with cond:=kV }):=by
 obtain⟨d,R,h⟩:=h;have hk' : k<R.length:=by rw[h.hl];exact hk
 obtain⟨p,c,e, -, -,hc, -, -⟩:=h.own.cut h.hl;have ho:=h.own;rw[e]at ho;obtain⟨g,eg,hn,hB,hg,hcl,hf, -⟩:=ho.at hk'; subst eg;have hk10:SSc.k=10:=rfl;rw[hk10]at hcl;have hrow:=h.rows k hk' hk;refine⟨g,c,R[k],e,hB,⟨hcl 0 _ rfl,hcl 1 _ rfl,hcl 2 _ rfl,hcl 3 _ rfl,hcl 4 _ rfl,hcl 5 _ rfl,hcl 6 _ rfl,hcl 7 _ rfl,hcl 8 _ rfl,hcl 9 _ rfl⟩,hf,?_⟩;have o1:=ho.put hk' 2 (I O 1) { R[k] with t:={ R[k].t with op:=1 } } (by decide) rfl;have o2:=o1.put' hk' 3 (I O 0) { R[k] with t:={ R[k].t with op:=1,num:=0 } } (by decide) rfl;have o3:=o2.put' hk' 4 (I O 0) { R[k] with t:={ R[k].t with op:=1,num:=0,more:=0 } } (by decide) rfl;have o4:=o3.put' hk' 5 (.slice none 0 0) { R[k] with t:=⟨1,0,0,none,0,0⟩ } (by decide) rfl;rw[hk10]at o4;have o5:qX SSc (dQ wr g (k*10)) 81 B (.slice (some ⟨g,0,none⟩) L.length c) (R.set k { R[k] with t:=⟨1,0,0,none,0,0⟩ }):=o4;have key:∀b,Qx B v none b→b<wr.heap.size→(dQ wr g (k*10)).heap[b]?=wr.heap[b]?∧Qx B v none b:=fun b q _=>⟨yEA _ _ (fun e2=>q.2.1 (by rw[e,e2];rfl)),q⟩
 have hz:wr.heap.size≤(dQ wr g (k*10)).heap.size:=by rw[kWA];exact Nat.le_refl _
 refine⟨d,R.set k { R[k] with t:=⟨1,0,0,none,0,0⟩ },by rw[List.length_set,List.length_set,h.hl],by rw[e];exact o5,fun j a b=>?_⟩
 rw[List.length_set]at a b;rw[List.getElem_set,List.getElem_set]
 by_cases ej:k=j
 ·subst ej
  rw[if_pos rfl,if_pos rfl];have:=hrow.change hz key;exact⟨this.num,this.nm,⟨⟨rfl,rfl,rfl,rfl,Nat.le_refl _,fun _=>rfl⟩,jE.nil _ _ _ _⟩,this.br,this.bn,this.bc,this.bz,this.bq,this.least,this.ex,this.needs⟩
 ·rw[if_neg ej,if_neg ej]
  exact(h.rows j a b).change hz key
theorem yZ.true {L:List Sch}(h:∀s∈L,yZ s){k:Nat}(hk:k<L.length):∀s∈L.set k { L[k] with cond:=kV },yZ s:=by
 intro s hs
 rcases List.mem_or_eq_of_mem_set hs with hs|rfl
 ·exact h s hs
 ·have:=h L[k] (List.getElem_mem hk)
  exact⟨this.nm,by show count kV<8;decide,this.n0,this.n3⟩
def nG (x:Int):Sch:=⟨0,⟨#[115,48]⟩,kV, [⟨500,x⟩],0,0,false⟩
theorem hZA {x:Int}(h0:0≤x)(h1:x≤1048576):jU [nG x]=(-1,0):=by
 have hb:brB [(⟨500,x⟩:Brk)]=true:=by
  unfold brB yD
  simp[lY,upB,h0,h1]
 have ho:zY (nG x)=0:=by
  unfold zY nG;simp only;rw[if_neg (by omega),if_neg (by decide),if_neg (show ¬gH kV≠0 by decide),if_neg];rintro (h|h|h|h)
  ·rw[hb]at h;cases h
  ·omega
  ·omega
  ·revert h;decide
 have hm:zP [nG x] (nG x)=true:=by
  unfold zP;rw[List.all_eq_true];intro n _;unfold uW;have:zH (nG x).ex n=false:=by
   show zH 0 n=false
   unfold zH;simp
  rw[this];rfl
 have hA:fst (xX [nG x]) 1=none:=vB fun j hj=>by
  obtain rfl:j=0:=by omega
  unfold xX;simp only[List.getElem?_cons_zero];rw[if_neg (by rw[ho];decide)]
  rfl
 have hB:fst (uY [nG x]) 1=none:=vB fun j hj=>by
  obtain rfl:j=0:=by omega
  unfold uY;simp only[List.getElem?_cons_zero];rw[hm];rfl
 unfold jU;simp only[List.length_singleton];rw[if_neg (by omega),hA];simp only;rw[hB]
theorem zDA (x:Int):∀s ∈ [nG x],yZ s:=by
 intro s hs;rw[List.mem_singleton.1 hs];exact⟨by show(⟨#[115,48]⟩:ByteArray).size≤40;decide,by show count kV<8;decide,by show(0:Int)≤0;omega,by show(0:Int)≤3;omega⟩
theorem hJA {B:Nat}{w3:World}(x:Int)(hB:B≤w3.heap.size)(TB TS:TypeId)(hTS:TS=81) :
  xP B ((w3.alloc (.cells #[I O 500,I O x] TB)).alloc (.cells #[I O 0,.string ⟨#[115,48]⟩,I O 1,I O 0,I O 0,.slice none 0 0,.slice (some ⟨w3.heap.size,0,none⟩) 1 1,I O 0,I O 0,.bool false] TS)) (.slice (some ⟨w3.heap.size+1,0,none⟩) 1 1) [nG x]:=by
 subst hTS;have e:(w3.alloc (.cells #[I O 500,I O x] TB)).heap.size=w3.heap.size+1:=by simp
 have hA:=(brf (w3.alloc (.cells #[I O 500,I O x] TB)).heap.size (w3.alloc (.cells #[I O 500,I O x] TB))).alloc mle (.cells #[I O 0,.string ⟨#[115,48]⟩,I O 1,I O 0,I O 0,.slice none 0 0,.slice (some ⟨w3.heap.size,0,none⟩) 1 1,I O 0,I O 0,.bool false] 81);refine⟨0, [⟨0,⟨#[115,48]⟩,⟨1,0,0,none,0,0⟩,some ⟨w3.heap.size,0,none⟩,1,1,0,0,false⟩],rfl,?_,fun k a b=>?_⟩
 ·rw[← e]
  exact qX.one (S:=SSc) rfl (by rw[e];omega)
 ·obtain rfl:k=0:=by simp at a;exact a
  refine⟨rfl,rfl,⟨⟨rfl,rfl,rfl,rfl,Nat.le_refl _,fun _=>rfl⟩,rfl⟩,?_,rfl,Nat.le_refl _,(fun h=>by cases h),fun q hq => .inr ?_,rfl,rfl,rfl⟩
  ·exact(qD.lit (S:=SBk) w3 TB [⟨500,x⟩] (by show 1≤_;unfold maxLen;omega)).below hA
  ·cases hq
   exact⟨hB,(fun h=>by injection h with h;simp only at h;omega),(fun h=>by cases h)⟩
def uMA (t:Nat) (l:List Int) (w:World) (e:Ending) (w' : World):Prop :=
 ∃(v:Value) (L:List Sch) (q:Nat),e = .returned v∧xP w.heap.size w' v L∧jU L=(-1,0)∧1≤L.length∧L.length≤3∧(∀s∈L,yZ s)∧TpB w w' t l q
structure pK (w wr:World) (t:Nat) (l:List Int) (q:Nat) (v:Value) (L:List Sch):Prop where
 tp:TpB w wr t l q
 at_:xP w.heap.size wr v L
 chk:jU L=(-1,0)
 ne:1≤L.length
 le:L.length≤3
 sm:∀s∈L,yZ s
theorem pK.next {w wr w' : World}{t q q' : Nat}{l:List Int}{v:Value}{L:List Sch}(h:pK w wr t l q v L)(ht:qV w' t l q')(hb:But t wr w'):pK w w' t l q' v L :=
 ⟨h.tp.next ht hb,h.at_.but hb h.tp.lt,h.chk,h.ne,h.le,h.sm⟩
theorem pK.cond {w wr:World}{t q:Nat}{l:List Int}{v:Value}{L:List Sch}(h:pK w wr t l q v L){k n:Nat}(hn:L.length=n)(hk:k<n) :
  ∃g c r,v = .slice (some ⟨g,0,none⟩) n c∧yA wr g (k*10) r∧(∀i,wr.frozen? ⟨g,i,none⟩=false)∧pK w (dQ wr g (k*10)) t l q v (L.set k { L[k] with cond:=kV }):=by
 subst hn;obtain⟨g,c,r,e,hB,h1,h2,h3⟩:=h.at_.cond hk;refine⟨g,c,r,e,h1,h2,?_,h3,jJA h.chk hk,by rw[List.length_set];exact h.ne,by rw[List.length_set];exact h.le,yZ.true h.sm hk⟩;exact h.tp.belowB ((((brf _ _).setCell hB _).setCell hB _).setCell hB _ |>.setCell hB _)
theorem vN (t:Nat)(l:List Int)(a:Nat)(w:World)(h:qV w t l a) :
  Calls Tryz.prog 39 #[.pointer (some ⟨t,0,none⟩)] w (uMA t l w):=by
 have LW:=mh (show Calls Tryz.prog 82 #[.pointer (some ⟨t,0,none⟩),I O 3] w (gY t l 3 w) from qTA t l a 3 (by omega) w h);have HT:=mh (show t<w.heap.size from h.lt);have H0:=mh (TpB.init h);have T9:=mh (fun (W:World) (q:Nat) (h:qV W t l q)=>qF t l q 900 W h (by omega));have T3:=mh (fun (W:World) (q:Nat) (h:qV W t l q)=>qF t l q 3 W h (by omega));clear h
 go_enter Tryz.func39,Tryz.ntmps39
 go_wp2_with fail
 (with_reducible refine cmo LW.out ?_);rintro e w1 ⟨v,L,q1,rfl,hL,hc,hle,hsm,ht1,hb1⟩;obtain⟨n,hn⟩:∃n,L.length=n:=⟨_,rfl⟩;obtain⟨p,c, -,rfl, -, -, -⟩:=hL.ss hn;have HL:=mh hL;have P1:=mh (H0.next ht1 hb1);have HC:=mh hc;have HSM:=mh hsm;have HN:=mh hn;rw[hn]at hle;clear hL hc hsm ht1 hb1 hn
 rcases Nat.eq_zero_or_pos n with hz|hz
 ·subst hz
  obtain⟨x,ex⟩:∃x,qN l q1 900=x:=⟨_,rfl⟩;have hx:=qG l q1 (n:=900) (by omega);have T9' := mh (T9 _ _ P1.tape);rw[ex]at hx T9'; clear ex
  go_wp2_with fail
  (with_reducible refine cmo T9'.out ?_);rintro e w3 ⟨rfl,ht3,hb3⟩;have P3:=mh (P1.next ht3 hb3);clear ht3 hb3;have HX:=mh hx
  have ST:=mh (show pK w ((w3.alloc (.cells #[I O 500,I O (100+x)] 78)).alloc (.cells #[I O 0,.string ⟨#[115,48]⟩,I O 1,I O 0,I O 0,.slice none 0 0,.slice (some ⟨w3.heap.size,0,none⟩) 1 1,I O 0,I O 0,.bool false] 81)) t l _ (.slice (some ⟨w3.heap.size+1,0,none⟩) 1 1) [nG (100+x)] from
   ⟨(P3.alloc _).alloc _,hJA _ P3.but.size _ _ rfl,hZA (by omega) (by omega),Nat.le_refl _,by show 1≤3;omega,zDA _⟩)
  clear HL P1
  go_wp2_with fail
  go_loopw [20] (fun i wr=>∃(k q:Nat) (L' : List Sch),k≤1∧i=I O k∧L'.length=1∧pK w wr t l q (.slice (some ⟨w3.heap.size+1,0,none⟩) 1 1) L') (fun i _=>1 - (intOf i).toNat)
  case atStart=>exact⟨0,_, [nG (100+x)],Nat.zero_le _,rfl,rfl,ST.out⟩
  case round =>
   clear ST;obtain⟨wo,rfl⟩:∃wo:World,wo=wr:=⟨_,rfl⟩;obtain⟨k,q,L', hk,rfl,hl', hS⟩:=hrel;have HS:=mh hS;have HL' := mh hl'; have hk0:(0:Int)≤(k:Int):=inn _
   by_cases hlt:k<1
   ·have hk1:(k:Int)<1:=by omega
    obtain⟨g3,eg3⟩:∃x,qN l q 3=x:=⟨_,rfl⟩;have T3' := mh (T3 _ q hS.tp.tape);rw[eg3]at T3'; obtain⟨g,c2,r2,ev, -, -, -⟩:=hS.cond hl' hlt;clear ev;clear hS hl' eg3
    by_cases hg:0<g3
    ·go_wp2_with (go_at_call 43;(with_reducible refine cmo T3'.out ?_);rintro e w5 ⟨rfl,ht5,hb5⟩;have HS5:=mh (HS.next ht5 hb5);obtain⟨g', c3,r3,ev2,⟨-, -,k2,k3,k4,k5, -, -, -, -⟩,hf,hset⟩:=HS5.cond HL' hlt;simp only[Value.slice.injEq,Option.some.injEq,Addr.mk.injEq,and_true,true_and]at ev2;obtain⟨rfl,rfl⟩:=ev2;have f2:=hf (k*10+2);have f3:=hf (k*10+3);have f4:=hf (k*10+4);have f5:=hf (k*10+5);have HSET:=mh hset;clear ht5 hb5 hset hf)
     go_roundw
     case rel=>exact⟨k+1,_,_,by omega,by go_num,by rw[List.length_set];exact HL'.out,HSET.out⟩
     case measure=>simp[intOf];omega
    ·go_wp2_with (go_at_call 43;(with_reducible refine cmo T3'.out ?_);rintro e w5 ⟨rfl,ht5,hb5⟩;have HS5:=mh (HS.next ht5 hb5);clear ht5 hb5)
     go_roundw
     case rel=>exact⟨k+1,_,L', by omega,by go_num,HL'.out,HS5.out⟩
     case measure=>simp[intOf];omega
   ·clear hS hl'
    go_wp2
    go_ret
    exact⟨_,L', _,rfl,HS.at_,HS.chk,HS.ne,HS.le,HS.sm,HS.tp⟩
 ·have ST:=mh (show pK w w1 t l _ (.slice p n c) L from⟨P1.out,HL.out,HC.out,by rw[HN.out];exact hz,by rw[HN.out];exact hle,HSM.out⟩)
  have hzi:(0:Int)<(n:Int):=by omega
  have hzb:((n:Int)==0)=false:=by rw[beq_eq_false_iff_ne];omega
  clear HL P1
  go_wp2_with fail
  go_loopw [20] (fun i wr=>∃(k q:Nat) (L' : List Sch),k≤n∧i=I O k∧L'.length=n∧pK w wr t l q (.slice p n c) L') (fun i _=>n - (intOf i).toNat)
  case atStart=>exact⟨0,_,L,Nat.zero_le _,rfl,HN.out,ST.out⟩
  case round =>
   clear ST;obtain⟨wo,rfl⟩:∃wo:World,wo=wr:=⟨_,rfl⟩;obtain⟨k,q,L', hk,rfl,hl', hS⟩:=hrel;have HS:=mh hS;have HL' := mh hl'; have hk0:(0:Int)≤(k:Int):=inn _
   by_cases hlt:k<n
   ·have hk1:(k:Int)<(n:Int):=by omega
    obtain⟨g3,eg3⟩:∃x,qN l q 3=x:=⟨_,rfl⟩;have T3' := mh (T3 _ q hS.tp.tape);rw[eg3]at T3'; obtain⟨g,c2,r2,ev, -, -, -⟩:=hS.cond hl' hlt
    cases ev
    clear hS hl' eg3
    by_cases hg:0<g3
    ·go_wp2_with (go_at_call 43;(with_reducible refine cmo T3'.out ?_);rintro e w5 ⟨rfl,ht5,hb5⟩;have HS5:=mh (HS.next ht5 hb5);obtain⟨g', c3,r3,ev2,⟨-, -,k2,k3,k4,k5, -, -, -, -⟩,hf,hset⟩:=HS5.cond HL' hlt;cases ev2;have f2:=hf (k*10+2);have f3:=hf (k*10+3);have f4:=hf (k*10+4);have f5:=hf (k*10+5);have HSET:=mh hset;clear ht5 hb5 hset hf)
     go_roundw
     case rel=>exact⟨k+1,_,_,by omega,by go_num,by rw[List.length_set];exact HL'.out,HSET.out⟩
     case measure=>simp[intOf];omega
    ·go_wp2_with (go_at_call 43;(with_reducible refine cmo T3'.out ?_);rintro e w5 ⟨rfl,ht5,hb5⟩;have HS5:=mh (HS.next ht5 hb5);clear ht5 hb5)
     go_roundw
     case rel=>exact⟨k+1,_,L', by omega,by go_num,HL'.out,HS5.out⟩
     case measure=>simp[intOf];omega
   ·clear hS hl'
    go_wp2
    go_ret
    exact⟨_,L', _,rfl,HS.at_,HS.chk,HS.ne,HS.le,HS.sm,HS.tp⟩
end Go.Proofs.YtefcalgjnkigjaaGreat
namespace Go.Proofs.YtefcalgjnkigjaaGreat
open Go.RowKit Sc As
/-! ### Fact -/
def uUA (w:World) (t:Nat) (l:List Int) (e:Ending) (w' : World):Prop :=
 ∃(f:Fct) (q:Nat),e = .returned (.agg (dB f).toArray)∧vDA f.decl f.season f.kind f.area f.border∧0≤f.due∧f.due≤f.decl∧f.decl<120∧TpB w w' t l q
theorem nM {k a b:Int}(k0:0≤k)(k4:k<5)(h:(k=1∧0≤a∧a≤268435456∧0≤b∧b<40)∨(k≠1∧a=0∧b=0)):seenB k a b=true:=by
 refine seenB_iff.2 ⟨k0,by omega,fun e=>?_,fun e=>?_⟩
 ·rcases h with h|h
  ·omega
  ·exact absurd e h.1
 ·rcases h with h|h
  ·exact absurd h.1 e
  ·exact h.2
theorem xYA (t:Nat)(l:List Int)(a:Nat)(w:World)(h:qV w t l a) :
  Calls Tryz.prog 83 #[.pointer (some ⟨t,0,none⟩)] w (uUA w t l):=by
 obtain⟨D,ex⟩:∃g,qN l a 120=g:=⟨_,rfl⟩;obtain⟨q1,eq1⟩:∃q,qM l a=q:=⟨_,rfl⟩;obtain⟨S,ey⟩:∃g:Int, -1+qN l q1 (1 - -1+1)=g:=⟨_,rfl⟩;obtain⟨q2,eq2⟩:∃q,qM l q1=q:=⟨_,rfl⟩;obtain⟨K,ez⟩:∃g,qN l q2 5=g:=⟨_,rfl⟩;obtain⟨q3,eq3⟩:∃q,qM l q2=q:=⟨_,rfl⟩;obtain⟨c,ec⟩:∃c,(qN l q3 2==2 - 1)=c:=⟨_,rfl⟩;obtain⟨q4,eq4⟩:∃q,qM l q3=q:=⟨_,rfl⟩;obtain⟨u,eu⟩:∃g,qN l q4 (D+1)=g:=⟨_,rfl⟩;obtain⟨q5,eq5⟩:∃q,qM l q4=q:=⟨_,rfl⟩;have x1:=qG l a (n:=120) (by omega);have y1:=qG l q1 (n:=1 - -1+1) (by omega);have z1:=qG l q2 (n:=5) (by omega);rw[ex]at x1;have u1:=qG l q4 (n:=D+1) (by omega);rw[eu]at u1;rw[ez]at z1;have y2 : -1≤S∧S≤1:=by omega
 clear y1;have T1:=mh (fun (W:World) (h:qV W t l a)=>eq1▸ex▸qF t l a 120 W h (by omega));have T2:=mh (fun (W:World) (h:qV W t l q1)=>eq2▸ey▸zU t l q1 (-1) 1 W h (by omega) (by omega) (by omega));have T3:=mh (fun (W:World) (h:qV W t l q2)=>eq3▸ez▸qF t l q2 5 W h (by omega));have T4:=mh (fun (W:World) (h:qV W t l q3)=>eq4▸ec▸xE t l q3 2 W h (by omega) (by omega));have T5:=mh (fun (W:World) (h:qV W t l q4)=>eq5▸eu▸qF t l q4 (D+1) W h (by omega));have T6:=mh (fun (W:World) (q:Nat) (h:qV W t l q)=>pP t l q D W h x1.1 (by omega));have H0:=mh (TpB.init h);obtain⟨g,eg⟩:∃g,w.heap.size=g:=⟨_,rfl⟩;have HG:=mh (show w.heap.size≤g∧t<g by have:=h.lt;omega);have B0:=mh (show Blk (w.alloc (.cells #[I O 0,I O 0,I O 0,I O 0,I O 0,I O 0] 126)) g #[I O 0,I O 0,I O 0,I O 0,I O 0,I O 0] 126 from eg▸Blk.new _ _ _);have P0:=mh (H0.alloc (.cells #[I O 0,I O 0,I O 0,I O 0,I O 0,I O 0] 126));have HX:=mh (And.intro x1 (And.intro y2 (And.intro z1 u1)));clear h ex ey ez ec eu eq1 eq2 eq3 eq4 eq5
 go_enter Tryz.func83,Tryz.ntmps83
 go_wp2_with fail
 clear eg;generalize w.alloc (.cells #[I O 0,I O 0,I O 0,I O 0,I O 0,I O 0] 126)=w0 at *;(with_reducible refine cmo (T1.out _ P0.out.tape) ?_);rintro e w1 ⟨rfl,ht1,hb1⟩;have P1:=mh (P0.next ht1 hb1);have B1:=mh (B0.but hb1 (by have:=HG.out;omega));clear ht1 hb1
 go_wp2_with fail
 (with_reducible refine cmo (T2.out _ P1.out.tape) ?_);rintro e w2 ⟨rfl,ht2,hb2⟩;have P2:=mh (P1.next ht2 hb2);have B2:=mh (B1.but hb2 (by have:=HG.out;omega));clear ht2 hb2
 go_wp2_with fail
 (with_reducible refine cmo (T3.out _ P2.out.tape) ?_);rintro e w3 ⟨rfl,ht3,hb3⟩;have P3:=mh (P2.next ht3 hb3);have B3:=mh (B2.but hb3 (by have:=HG.out;omega));clear ht3 hb3;have P3a:=mh (P3.alloc (.cells #[I O D,I O D,I O S,I O K,I O 0,I O 0] 126));have hgl:g<w3.heap.size:=B3.lt;obtain⟨g3,e3⟩:∃g,w3.heap.size=g:=⟨_,rfl⟩;have B3a:=mh (show Blk (w3.alloc (.cells #[I O D,I O D,I O S,I O K,I O 0,I O 0] 126)) g #[I O 0,I O 0,I O 0,I O 0,I O 0,I O 0] 126 from B3.below ((brf _ _).alloc mle _));have C3a:=mh (show Blk (w3.alloc (.cells #[I O D,I O D,I O S,I O K,I O 0,I O 0] 126)) g3 #[I O D,I O D,I O S,I O K,I O 0,I O 0] 126 from e3▸Blk.new _ _ _);have HG3:=mh (show g<g3∧w.heap.size≤g3∧t<g3 by have:=HG.out;omega);clear hgl x1 y2 z1 u1
 go_wp2_with fail
 clear e3;generalize w3.alloc (.cells #[I O D,I O D,I O S,I O K,I O 0,I O 0] 126)=w4 at *;(with_reducible refine cmo (T4.out _ P3a.out.tape) ?_);rintro e w5 ⟨rfl,ht5,hb5⟩;have P5:=mh (P3a.next ht5 hb5);have B5:=mh (B3a.but hb5 (by have:=HG.out;omega));have C5:=mh (C3a.but hb5 (by have:=HG3.out;omega));clear ht5 hb5 P3a B3a C3a B0 B1 B2 B3 P0 P1 P2 P3
 cases c
 ·by_cases hk:K=1
  ·have hkb:(K==1)=true:=by simpa using hk
   have HKK:=mh hk;clear hk;have k0:=C5.cell 0;have k1:=C5.cell 1;have k2:=C5.cell 2;have k3:=C5.cell 3;have k4:=C5.cell 4;have k5:=C5.cell 5;have m0:=C5.fr 0;have m1:=C5.fr 1;have m2:=C5.fr 2;have m3:=C5.fr 3;have m4:=C5.fr 4;have m5:=C5.fr 5
   go_wp2_with fail
   (with_reducible refine cmo (T6.out _ _ P5.out.tape) ?_);rintro e w8 ⟨aa,bb,q8,rfl,a0,a1,b0,b1,hp8⟩;have P8:=mh (P5.trans hp8);have B8:=mh (B5.but hp8.but (by have:=HG.out;omega));have C8:=mh (C5.but hp8.but (by have:=HG3.out;omega));clear hp8 k0 k1 k2 k3 k4 k5 m0 m1 m2 m3 m4 m5;have P9:=mh ((P8.set HG3.2.1 (i:=4) (I O aa)).set HG3.2.1 (i:=5) (I O bb));have C9:=mh (show Blk ((w8.setCell ⟨g3,4,none⟩ (I O aa)).setCell ⟨g3,5,none⟩ (I O bb)) g3 #[I O D,I O D,I O S,I O K,I O aa,I O bb] 126 from(C8.set 4 _).set 5 _);have B9:=mh ((B8.far (show g≠g3 by have:=HG3.out;omega) (i:=4) (I O aa)).far (show g≠g3 by have:=HG3.out;omega) (i:=5) (I O bb));have k0:=C8.cell 0;have k1:=C8.cell 1;have k2:=C8.cell 2;have k3:=C8.cell 3;have k4:=C8.cell 4;have k5:=C8.cell 5;have m0:=C8.fr 0;have m1:=C8.fr 1;have m2:=C8.fr 2;have m3:=C8.fr 3;have m4:=C8.fr 4;have m5:=C8.fr 5
   go_upto_region 7 with fail
   generalize (w8.setCell ⟨g3,4,none⟩ (I O aa)).setCell ⟨g3,5,none⟩ (I O bb)=w9 at *;clear k0 k1 k2 k3 k4 k5 m0 m1 m2 m3 m4 m5;have k0:=C9.cell 0;have k1:=C9.cell 1;have k2:=C9.cell 2;have k3:=C9.cell 3;have k4:=C9.cell 4;have k5:=C9.cell 5;have c0:=B9.cell 0;have c1:=B9.cell 1;have c2:=B9.cell 2;have c3:=B9.cell 3;have c4:=B9.cell 4;have c5:=B9.cell 5;have f0:=B9.fr 0;have f1:=B9.fr 1;have f2:=B9.fr 2;have f3:=B9.fr 3;have f4:=B9.fr 4;have f5:=B9.fr 5;have BF:=mh (B9.put6 (I O D) (I O D) (I O S) (I O K) (I O aa) (I O bb));have PF:=mh (P9.put6 HG.1 (I O D) (I O D) (I O S) (I O K) (I O aa) (I O bb))
   go_wp2
   generalize ((((((w9.setCell ⟨g,0,none⟩ (I O D)).setCell ⟨g,1,none⟩ (I O D)).setCell ⟨g,2,none⟩ (I O S)).setCell ⟨g,3,none⟩ (I O K)).setCell ⟨g,4,none⟩ (I O aa)).setCell ⟨g,5,none⟩ (I O bb))=wf at *;have d0:=BF.cell 0;have d1:=BF.cell 1;have d2:=BF.cell 2;have d3:=BF.cell 3;have d4:=BF.cell 4;have d5:=BF.cell 5;exact bodyPost_ret (v := .agg #[I O D,I O D,I O S,I O K,I O aa,I O bb]) (by simp[results,Tryz.results83,go_sem,d0,d1,d2,d3,d4,d5]) rfl ⟨⟨D,D,S,K,aa,bb⟩,_,rfl,⟨HX.1.1,by have:=HX.1;simp only;omega,HX.2.1.1,HX.2.1.2,nM HX.2.2.1.1 HX.2.2.1.2 (.inl ⟨HKK.out,a0,a1,b0,b1⟩)⟩,by have:=HX.out;simp only;omega,by have:=HX.out;simp only;omega,HX.1.2,PF.out⟩
  ·have hkb:(K==1)=false:=by simpa using hk
   have HKK:=mh hk;clear hk;have k0:=C5.cell 0;have k1:=C5.cell 1;have k2:=C5.cell 2;have k3:=C5.cell 3;have k4:=C5.cell 4;have k5:=C5.cell 5;have c0:=B5.cell 0;have c1:=B5.cell 1;have c2:=B5.cell 2;have c3:=B5.cell 3;have c4:=B5.cell 4;have c5:=B5.cell 5;have f0:=B5.fr 0;have f1:=B5.fr 1;have f2:=B5.fr 2;have f3:=B5.fr 3;have f4:=B5.fr 4;have f5:=B5.fr 5;have BF:=mh (B5.put6 (I O D) (I O D) (I O S) (I O K) (I O 0) (I O 0));have PF:=mh (P5.put6 HG.1 (I O D) (I O D) (I O S) (I O K) (I O 0) (I O 0))
   go_wp2
   generalize ((((((w5.setCell ⟨g,0,none⟩ (I O D)).setCell ⟨g,1,none⟩ (I O D)).setCell ⟨g,2,none⟩ (I O S)).setCell ⟨g,3,none⟩ (I O K)).setCell ⟨g,4,none⟩ (I O 0)).setCell ⟨g,5,none⟩ (I O 0))=wf at *;have d0:=BF.cell 0;have d1:=BF.cell 1;have d2:=BF.cell 2;have d3:=BF.cell 3;have d4:=BF.cell 4;have d5:=BF.cell 5;exact bodyPost_ret (v := .agg #[I O D,I O D,I O S,I O K,I O 0,I O 0]) (by simp[results,Tryz.results83,go_sem,d0,d1,d2,d3,d4,d5]) rfl ⟨⟨D,D,S,K,0,0⟩,_,rfl,⟨HX.1.1,by have:=HX.1;simp only;omega,HX.2.1.1,HX.2.1.2,nM HX.2.2.1.1 HX.2.2.1.2 (.inr ⟨HKK.out,rfl,rfl⟩)⟩,by have:=HX.out;simp only;omega,by have:=HX.out;simp only;omega,HX.1.2,PF.out⟩
 ·have k0:=C5.cell 0
  have k1:=C5.cell 1;have m1:=C5.fr 1;have dd:IntKind.i64.wrap (D+1)=D+1:=by have:=HX.out;rw[IntKind.wrap_i64];omega
  go_wp2_with fail
  (with_reducible refine cmo (T5.out _ P5.out.tape) ?_);rintro e w6 ⟨rfl,ht6,hb6⟩;have P6:=mh (P5.next ht6 hb6);have B6:=mh (B5.but hb6 (by have:=HG.out;omega));have C6:=mh (C5.but hb6 (by have:=HG3.out;omega));clear ht6 hb6 k0 k1 m1;have P7:=mh (P6.set HG3.2.1 (i:=1) (I O u));have C7:=mh (show Blk (w6.setCell ⟨g3,1,none⟩ (I O u)) g3 #[I O D,I O u,I O S,I O K,I O 0,I O 0] 126 from C6.set 1 _);have B7:=mh (B6.far (show g≠g3 by have:=HG3.out;omega) (i:=1) (I O u));have k1:=C6.cell 1;have m1:=C6.fr 1
  go_upto_region 5 with fail
  generalize w6.setCell ⟨g3,1,none⟩ (I O u)=w7 at *;clear k1 m1
  by_cases hk:K=1
  ·have hkb:(K==1)=true:=by simpa using hk
   have HKK:=mh hk;clear hk;have k0:=C7.cell 0;have k1:=C7.cell 1;have k2:=C7.cell 2;have k3:=C7.cell 3;have k4:=C7.cell 4;have k5:=C7.cell 5;have m0:=C7.fr 0;have m1:=C7.fr 1;have m2:=C7.fr 2;have m3:=C7.fr 3;have m4:=C7.fr 4;have m5:=C7.fr 5
   go_wp2_with fail
   (with_reducible refine cmo (T6.out _ _ P7.out.tape) ?_);rintro e w8 ⟨aa,bb,q8,rfl,a0,a1,b0,b1,hp8⟩;have P8:=mh (P7.trans hp8);have B8:=mh (B7.but hp8.but (by have:=HG.out;omega));have C8:=mh (C7.but hp8.but (by have:=HG3.out;omega));clear hp8 k0 k1 k2 k3 k4 k5 m0 m1 m2 m3 m4 m5;have P9:=mh ((P8.set HG3.2.1 (i:=4) (I O aa)).set HG3.2.1 (i:=5) (I O bb));have C9:=mh (show Blk ((w8.setCell ⟨g3,4,none⟩ (I O aa)).setCell ⟨g3,5,none⟩ (I O bb)) g3 #[I O D,I O u,I O S,I O K,I O aa,I O bb] 126 from(C8.set 4 _).set 5 _);have B9:=mh ((B8.far (show g≠g3 by have:=HG3.out;omega) (i:=4) (I O aa)).far (show g≠g3 by have:=HG3.out;omega) (i:=5) (I O bb));have k0:=C8.cell 0;have k1:=C8.cell 1;have k2:=C8.cell 2;have k3:=C8.cell 3;have k4:=C8.cell 4;have k5:=C8.cell 5;have m0:=C8.fr 0;have m1:=C8.fr 1;have m2:=C8.fr 2;have m3:=C8.fr 3;have m4:=C8.fr 4;have m5:=C8.fr 5
   go_upto_region 7 with fail
   generalize (w8.setCell ⟨g3,4,none⟩ (I O aa)).setCell ⟨g3,5,none⟩ (I O bb)=w9 at *;clear k0 k1 k2 k3 k4 k5 m0 m1 m2 m3 m4 m5;have k0:=C9.cell 0;have k1:=C9.cell 1;have k2:=C9.cell 2;have k3:=C9.cell 3;have k4:=C9.cell 4;have k5:=C9.cell 5;have c0:=B9.cell 0;have c1:=B9.cell 1;have c2:=B9.cell 2;have c3:=B9.cell 3;have c4:=B9.cell 4;have c5:=B9.cell 5;have f0:=B9.fr 0;have f1:=B9.fr 1;have f2:=B9.fr 2;have f3:=B9.fr 3;have f4:=B9.fr 4;have f5:=B9.fr 5;have BF:=mh (B9.put6 (I O D) (I O u) (I O S) (I O K) (I O aa) (I O bb));have PF:=mh (P9.put6 HG.1 (I O D) (I O u) (I O S) (I O K) (I O aa) (I O bb))
   go_wp2
   generalize ((((((w9.setCell ⟨g,0,none⟩ (I O D)).setCell ⟨g,1,none⟩ (I O u)).setCell ⟨g,2,none⟩ (I O S)).setCell ⟨g,3,none⟩ (I O K)).setCell ⟨g,4,none⟩ (I O aa)).setCell ⟨g,5,none⟩ (I O bb))=wf at *;have d0:=BF.cell 0;have d1:=BF.cell 1;have d2:=BF.cell 2;have d3:=BF.cell 3;have d4:=BF.cell 4;have d5:=BF.cell 5;exact bodyPost_ret (v := .agg #[I O D,I O u,I O S,I O K,I O aa,I O bb]) (by simp[results,Tryz.results83,go_sem,d0,d1,d2,d3,d4,d5]) rfl ⟨⟨D,u,S,K,aa,bb⟩,_,rfl,⟨HX.1.1,by have:=HX.1;simp only;omega,HX.2.1.1,HX.2.1.2,nM HX.2.2.1.1 HX.2.2.1.2 (.inl ⟨HKK.out,a0,a1,b0,b1⟩)⟩,by have:=HX.out;simp only;omega,by have:=HX.out;simp only;omega,HX.1.2,PF.out⟩
  ·have hkb:(K==1)=false:=by simpa using hk
   have HKK:=mh hk;clear hk;have k0:=C7.cell 0;have k1:=C7.cell 1;have k2:=C7.cell 2;have k3:=C7.cell 3;have k4:=C7.cell 4;have k5:=C7.cell 5;have c0:=B7.cell 0;have c1:=B7.cell 1;have c2:=B7.cell 2;have c3:=B7.cell 3;have c4:=B7.cell 4;have c5:=B7.cell 5;have f0:=B7.fr 0;have f1:=B7.fr 1;have f2:=B7.fr 2;have f3:=B7.fr 3;have f4:=B7.fr 4;have f5:=B7.fr 5;have BF:=mh (B7.put6 (I O D) (I O u) (I O S) (I O K) (I O 0) (I O 0));have PF:=mh (P7.put6 HG.1 (I O D) (I O u) (I O S) (I O K) (I O 0) (I O 0))
   go_wp2
   generalize ((((((w7.setCell ⟨g,0,none⟩ (I O D)).setCell ⟨g,1,none⟩ (I O u)).setCell ⟨g,2,none⟩ (I O S)).setCell ⟨g,3,none⟩ (I O K)).setCell ⟨g,4,none⟩ (I O 0)).setCell ⟨g,5,none⟩ (I O 0))=wf at *;have d0:=BF.cell 0;have d1:=BF.cell 1;have d2:=BF.cell 2;have d3:=BF.cell 3;have d4:=BF.cell 4;have d5:=BF.cell 5;exact bodyPost_ret (v := .agg #[I O D,I O u,I O S,I O K,I O 0,I O 0]) (by simp[results,Tryz.results83,go_sem,d0,d1,d2,d3,d4,d5]) rfl ⟨⟨D,u,S,K,0,0⟩,_,rfl,⟨HX.1.1,by have:=HX.1;simp only;omega,HX.2.1.1,HX.2.1.2,nM HX.2.2.1.1 HX.2.2.1.2 (.inr ⟨HKK.out,rfl,rfl⟩)⟩,by have:=HX.out;simp only;omega,by have:=HX.out;simp only;omega,HX.1.2,PF.out⟩
theorem sK {P:Program}(w:World)(dT sT ty elem:TypeId)(k:Nat)(g o dLen dCap:Nat)(a:Addr)(sLen sCap:Nat)(cur:Array Value)(t:TypeId)(cs:List Value)
  (hu:P.underlying dT=some (.slice elem)) (hs:(P.info? elem).map (·.size)=some k)
  (hg:w.heap[g]?=some (.cells cur t (0,0))) (hn:cs.length=Nat.min sLen dLen*k)
  (hsrc:∀j v,cs[j]?=some v→w.cell? (a.add j)=some v) (hfit:o+cs.length≤cur.size) (h1:∀v∈cs,v.oneCell' = true) :
  (Builtin.copy_ #[dT,sT] ty #[.slice (some ⟨g,o,none⟩) dLen dCap,.slice (some a) sLen sCap]).run P w =
   .ok (goInt (Nat.min sLen dLen:Nat)) (w.setRow g (cur.toList.take o++cs++cur.toList.drop (o+cs.length)).toArray):=by
 have hl:=run_loadCells_list (P:=P) w a cs hsrc;rw[hn]at hl;have hst:=run_storeCells_at P g o t cs 0 cur w hg (by simpa using hfit) h1
 cases hq:P.info? elem with
 | none=>simp[hq]at hs
 | some i =>
   have hi:i.size=k:=by simpa [hq] using hs
   simp[Builtin.copy_,run_underlying hu,Builtin.lenOf,Builtin.firstCells,sizeOf,typeInfo,hq,hi,hl,hst]
theorem sY {P:Program}(w:World)(dT sT ty elem:TypeId)(k:Nat)(dp sp:Option Addr)(dCap sLen sCap:Nat)
  (hu:P.underlying dT=some (.slice elem)) (hs:(P.info? elem).map (·.size)=some k) :
  (Builtin.copy_ #[dT,sT] ty #[.slice dp 0 dCap,.slice sp sLen sCap]).run P w = .ok (goInt (0:Nat)) w:=by
 cases hq:P.info? elem with
 | none=>simp[hq]at hs
 | some i =>
   cases dp<;>cases sp<;>simp[Builtin.copy_,run_underlying hu,Builtin.lenOf,Builtin.firstCells,sizeOf,typeInfo,hq,loadCells,loadCellsFrom,storeCells]
theorem qX.stepShift {α:Type}{S:jJ α}{P:Program}{T TS:TypeId}{bytes:Nat}(he:fP S P T TS bytes){w:World}{ops:Array Oper}{o:Oper}{a:Act}{K:Act→World→Prop}{Q:Exit→Act→World→Prop}{E:Prop}(hgd:o.guard=none)(d s:Operand)
  (ho:o.op = .call { callee := .builtin .copy,args:=#[d,s],argTypes:=#[TS,TS] }) (B:Nat) (v:Value) (L:List α) (i m:Nat) (hown:qX S w T B v L) (hm:i+1+m=L.length) (g:Nat) (hv:v.ownBlock=some g)
  (dp sp:Option Addr) (dc sc:Nat) (hd:a.eval d = .slice dp m dc) (hs:a.eval s = .slice sp (m+1) sc) (hdp:0<m→dp=some ⟨g,(i+1)*S.k,none⟩) (hsp:0<m→sp=some ⟨g,i*S.k,none⟩)
  (h:∀w', qX S w' T B v (L.take (i+1)++(L.drop i).take m)→jN w w' B 0 v v→K (a.put o.dst (goInt (m:Nat))) w'):if Region.wanted o (yielded ops a.tmps)=true then Oper.wp P o a w K Q else E:=by
 have hw:Region.wanted o (yielded ops a.tmps)=true:=by simp[Region.wanted,hgd]
 rw[if_pos hw];obtain⟨i0,z,e1,e2,e3,e4,e5⟩:=he.ex;have hsz:(P.info? T).map (·.size)=some S.k:=by rw[e1];simp[e3]
 rcases Nat.eq_zero_or_pos m with rfl|hpos
 ·have hrun:=sY (P:=P) w TS TS o.type T S.k dp sp dc 1 sc he.ts hsz
  unfold Oper.wp
  simp[execOp,ho,resolve,invoke,builtin,hd,hs,hrun,Result.andThen]
  refine h w ?_ ⟨brf _ _,Nat.le_refl _,fun _ _ _=>rfl,.inl rfl⟩
  rw[List.take_zero,List.append_nil,List.take_of_length_le (by omega)];exact hown
 ·obtain rfl:=hdp hpos
  obtain rfl:=hsp hpos
  rcases hown.2 with⟨hv0,hn⟩|⟨g', cap,cur,hv0,hB,hg,hle,hmx,hcs,ht⟩
  ·omega
  obtain rfl:g' = g:=by rw[hv0]at hv;simpa [Value.ownBlock] using hv
  have hNk:i*S.k+S.k+m*S.k=L.length*S.k:=by rw[← hm,Nat.add_mul,Nat.add_mul];omega
  have hLk:L.length*S.k≤cap*S.k:=Nat.mul_le_mul_right _ hle;have hi1:(i+1)*S.k=i*S.k+S.k:=by rw[Nat.add_mul];omega
  have hcsl:(S.flat ((L.drop i).take m)).length=m*S.k:=by rw[S.flat_len,List.length_take,List.length_drop];congr 1;omega
  have hcse:S.flat ((L.drop i).take m)=((S.flat L).drop (i*S.k)).take (m*S.k):=by rw[S.flat_take,S.flat_drop L i (by omega)]
  have hrun:=sK (P:=P) w TS TS o.type T S.k g' ((i+1)*S.k) m dc ⟨g', i*S.k,none⟩ (m+1) sc cur T (S.flat ((L.drop i).take m)) he.ts hsz hg
   (by rw[hcsl];congr 1;exact(Nat.min_eq_right (by omega)).symm)
   (fun j u hu=>by
    rw[Go.WideShapes.add_plain];have hj:j<m*S.k:=by rw[← hcsl];exact(List.getElem?_eq_some_iff.1 hu).1
    rw[hcse,List.getElem?_take,if_pos hj,List.getElem?_drop,← ht,List.getElem?_take,if_pos (by omega)]at hu;simp only[World.cell?,hg]
    simpa using hu)
   (by rw[hcsl,hcs,hi1];omega) (S.flat_ones _)
  have hcl:cur.toList.length=cap*S.k:=by rw[Array.length_toList,hcs]
  have hmin:Nat.min (m+1) m=m:=Nat.min_eq_right (by omega);rw[hmin]at hrun;unfold Oper.wp
  simp[execOp,ho,resolve,invoke,builtin,hd,hs,hrun,Result.andThen]
  have hX:=setRow_heap w g' cur (cur.toList.take ((i+1)*S.k)++S.flat ((L.drop i).take m)++cur.toList.drop ((i+1)*S.k+(S.flat ((L.drop i).take m)).length)).toArray T (0,0) hg;have key:=h (w.setRow g' (cur.toList.take ((i+1)*S.k)++S.flat ((L.drop i).take m)++cur.toList.drop ((i+1)*S.k+(S.flat ((L.drop i).take m)).length)).toArray) ?_ ?_
  ·rw[List.append_assoc]at key
   exact key
  ·have hlen:(L.take (i+1)++(L.drop i).take m).length=L.length:=by rw[lap,List.length_take,List.length_take,List.length_drop];omega
   refine⟨S.flat_len _,.inr ⟨g', cap,_,by rw[hlen];exact hv0,hB,hX,by rw[hlen];exact hle,hmx,?_,?_⟩⟩
   ·simp only[List.size_toArray,lap,List.length_take,List.length_drop,hcsl,hcl,hi1]
    omega
   ·rw[hlen]
    simp only[List.append_assoc];rw[← List.append_assoc,List.take_append_of_le_length (by rw[lap,List.length_take,hcsl,hcl,hi1];omega),List.take_of_length_le (by rw[lap,List.length_take,hcsl,hcl,hi1];omega),S.flat_append]
    congr 1
    rw[S.flat_take,← ht,List.take_take,Nat.min_eq_left (by rw[hi1];omega)]
  ·exact⟨⟨rfl,rfl,rfl,by simp[World.setRow],fun k hk=>setRow_other w g' k _ (by omega)⟩,by simp[World.setRow],fun k _ hne=>setRow_other w g' k _ (fun e=>hne (by rw[hv,e])),.inl rfl⟩
def fC (r:RY) (f:RF) (va vr:Value):List Value := [.slice r.sp r.sn r.sc,.slice r.tp r.tn r.tc,I O r.due,I O r.last,I O r.mille,.slice r.gp r.gn r.gc,I O r.cap,I O r.env,I O r.unit,I O r.width,I O f.farm,I O f.day,.slice f.lp f.ln f.lc,va,vr]
structure zD (w:World) (t:Nat) (r:RY) (f:RF) (va vr:Value):Prop where
 heap:w.heap[t]?=some (.cells (fC r f va vr).toArray 118 (0,0))
section
variable {w w' : World} {t:Nat} {r:RY} {f:RF} {va vr:Value}
theorem zD.lt (h:zD w t r f va vr):t<w.heap.size:=(Array.getElem?_eq_some_iff.1 h.heap).1
theorem zD.cell (h:zD w t r f va vr)(i:Nat)(u:Value)(hu:(fC r f va vr)[i]?=some u):w.cell? ⟨t,i,none⟩=some u:=by
 simp only[World.cell?,h.heap]
 simpa using hu
theorem zD.frozen (h:zD w t r f va vr)(i:Nat):w.frozen? ⟨t,i,none⟩=false:=by simp[World.frozen?,h.heap]
theorem zD.same (h:zD w t r f va vr)(e:w'.heap[t]?=w.heap[t]?):zD w' t r f va vr:=⟨e.trans h.heap⟩
theorem zD.below {B:Nat}(h:zD w t r f va vr)(hb:Below B w w')(hB:t<B):zD w' t r f va vr:=h.same (hb.block t hB)
theorem zD.setR (h:zD w t r f va vr)(v:Value):zD (w.setCell ⟨t,14,none⟩ v) t r f va v:=⟨by
 simp only[World.setCell,Array.getElem?_modify,if_true,h.heap,Option.map_some,fC]
 rfl⟩
theorem zD.setA (h:zD w t r f va vr)(v:Value):zD (w.setCell ⟨t,13,none⟩ v) t r f v vr:=⟨by
 simp only[World.setCell,Array.getElem?_modify,if_true,h.heap,Option.map_some,fC]
 rfl⟩
theorem zD.box (w:World)(r:RY)(f:RF)(va vr:Value):zD (w.alloc (.cells (fC r f va vr).toArray 118)) w.heap.size r f va vr:=⟨by show(w.heap.push _)[w.heap.size]?=_;exact Array.getElem?_push_size⟩
end
structure Chg (t:Nat) (v v' : Value) (w w' : World):Prop where
 os:w'.os=w.os
 tape:w'.tape=w.tape
 output:w'.output=w.output
 size:w.heap.size≤w'.heap.size
 block:∀i,i<w.heap.size→i≠t→v.ownBlock≠some i→w'.heap[i]?=w.heap[i]?
 own:v'.ownBlock=v.ownBlock∨∀g,v'.ownBlock=some g→w.heap.size≤g
theorem Chg.of_below {t:Nat}{v:Value}{w w' : World}(h:Below w.heap.size w w'):Chg t v v w w' := ⟨h.os,h.tape,h.output,h.size,fun i hi _ _=>h.block i hi,.inl rfl⟩
theorem Chg.trans {t:Nat}{v v' v'' : Value}{a b c:World}(h:Chg t v v' a b)(k:Chg t v' v'' b c):Chg t v v'' a c:=by
 have e:∀i,i<a.heap.size→v.ownBlock≠some i→v'.ownBlock≠some i:=fun i hi hv e=>by
  rcases h.own with h1|h1
  ·exact hv (h1▸e)
  ·have:=h1 i e;omega
 refine⟨k.os.trans h.os,k.tape.trans h.tape,k.output.trans h.output,Nat.le_trans h.size k.size,fun i hi ht hv=>(k.block i (nll hi h.size) ht (e i hi hv)).trans (h.block i hi ht hv),?_⟩
 rcases k.own with k1|k1
 ·rcases h.own with h1|h1
  ·exact .inl (k1.trans h1)
  ·exact .inr fun g hg=>h1 g (k1▸hg)
 ·exact .inr fun g hg=>Nat.le_trans h.size (k1 g hg)
theorem Chg.stp {t:Nat}{v v' : Value}{a b c:World}(h:Chg t v v' a b)(k:Below b.heap.size b c):Chg t v v' a c:=h.trans (.of_below k)
theorem Chg.low {t B:Nat}{v v' : Value}{w w' : World}(h:Chg t v v' w w')(hB:B≤t)(hs:B≤w.heap.size)(hv:∀g,v.ownBlock=some g→B≤g):Below B w w' :=
 ⟨h.os,h.tape,h.output,h.size,fun i hi=>h.block i (by omega) (by omega) fun e=>by have:=hv i e;omega⟩
def yN (u v:Value):Prop:=∀g,u.ownBlock=some g→v.ownBlock≠some g
theorem Chg.keep {α:Type}{S:jJ α}{t B:Nat}{v v' u:Value}{w w' : World}{T:TypeId}{L:List α}(h:Chg t v v' w w')(hu:qX S w T B u L)(hB:t<B)(ha:yN u v):qX S w' T B u L∧yN u v' :=by
 refine⟨hu.blocks fun g hg hBg hl=>h.block g hl (by omega) (ha g hg),fun g hg=>?_⟩
 rcases h.own with h1|h1
 ·rw[h1];exact ha g hg
 ·intro e
  have:=h1 g e;have:=(hu.lt hg).2;omega
theorem lS:Tryz.prog.elem 54=129:=by kernel_rfl
theorem yTA:Tryz.prog.cellsOf 129=3:=by kernel_rfl
theorem vF (g n c k:Nat)(hk:k≤n)(hn:n≤c):∃q c', (0<n - k→q=some ⟨g,k*3,none⟩)∧∀W,(Instr.slice 54 (.slice (some ⟨g,0,none⟩) n c) (some (I O (k:Int))) none none).run Tryz.prog W = .ok (.slice q (n - k) c') W:=by
 have hrun:∀W,(Instr.slice 54 (.slice (some ⟨g,0,none⟩) n c) (some (I O (k:Int))) none none).run Tryz.prog W = .ok (sliced (some ⟨g,0,none⟩) k n c 3) W:=fun W=>by
  have hs:(sizeOf (Tryz.prog.elem 54)).run Tryz.prog W = .ok 3 W:=by
   obtain⟨i0,_,h1,_,h3,_⟩:=fK.ex;rw[lS,run_sizeOf W h1,yTA]
  rw[run_slice_l (P:=Tryz.prog) W 54 (some ⟨g,0,none⟩) n c (by rw[lS];exact fK.ts) .i64 (k:Int) (by omega) (by omega),hs]
  rfl
 refine⟨if c=k then some ⟨g,0,none⟩ else some ⟨g,k*3,none⟩,c - k,fun h=>if_neg (by omega),fun W=>?_⟩
 rw[hrun W];unfold sliced
 by_cases hc:c=k
 ·rw[if_pos hc,if_pos hc]
 ·rw[if_neg hc,if_neg hc]
  simp only[Option.map_some,Go.WideShapes.add_plain,Nat.zero_add]
end Go.Proofs.YtefcalgjnkigjaaGreat
