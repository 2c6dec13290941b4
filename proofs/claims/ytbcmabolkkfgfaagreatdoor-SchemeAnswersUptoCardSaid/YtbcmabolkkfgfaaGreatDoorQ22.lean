/- Packed. -/
import Derived.Test.YtbcmabolkkfgfaaGreatDoorQ21
set_option maxRecDepth 100000
set_option maxHeartbeats 8000000
open Go.Value renaming int → I
open Go.IntKind renaming i64 → O
namespace Go.Proofs.YtbcmabolkkfgfaaGreatDoor
open Go.RowKit Te Sc
def NotG (t:Nat) (ws:List (List UInt8)) (A:List Sch) (s0:Sch) (last:Int) (w:World):Ending→World→Prop :=
 match ws with
 | []=>StE t 4 w
 | x::r=>if x=wNot then (match r with | [a]=>(match num0 a 15 with|some v=>if v≤last then StE t 4 w else StG 150 t (A ++ [{ s0 with ex:=s0.ex+2 ^ v.toNat }]) v w|none=>StE t 4 w)|_=>StE t 4 w)
   else HeadG t (headP (x::r)) (A ++ [s0]) w
theorem or_pow {x:Int}{n:Nat}(h0:0≤x)(h1:x<2 ^ n)(hn:n≤15):bits BinOp.or IntKind.i64 x (2 ^ n)=x+2 ^ n:=by
 obtain⟨u,rfl⟩:=Int.eq_ofNat_of_zero_le h0;have h1' : u<2 ^ n:=by exact_mod_cast h1
 have hp:(2:Nat) ^ n≤32768:=by
  have:(2:Nat) ^ n≤2 ^ 15:=Nat.pow_le_pow_right (by omega) hn;omega
 have e1:bits BinOp.or IntKind.i64 (u:Int) (2 ^ n)=IntKind.i64.wrap (((BitVec.ofInt 64 (u:Int) ||| BitVec.ofInt 64 (2 ^ n):BitVec 64).toNat:Nat):Int):=rfl;have e2:((2:Int) ^ n)=((2 ^ n:Nat):Int):=by push_cast;rfl
 rw[e1,e2,BitVec.toNat_or,BitVec.toNat_ofInt,BitVec.toNat_ofInt];have e3:((u:Int) % ((2 ^ 64:Nat):Int)).toNat=u:=by
  rw[show((2 ^ 64:Nat):Int)=18446744073709551616 from by decide];omega
 have e4:(((2 ^ n:Nat):Int) % ((2 ^ 64:Nat):Int)).toNat=2 ^ n:=by
  rw[show((2 ^ 64:Nat):Int)=18446744073709551616 from by decide];omega
 rw[e3,e4];have e5:u ||| 2 ^ n=u+2 ^ n:=by
  have:=Nat.two_pow_add_eq_or_of_lt h1' 1;rw[Nat.mul_one]at this;rw[Nat.or_comm,← this,Nat.add_comm]
 rw[e5,IntKind.wrap_i64];omega
theorem numB_from {a:List UInt8}{last:Int}(hl : -1≤last):(match num0 a 15 with|some v=>if v≤last then none else some v|none=>none)=(if Wo.numB a (last+1) 15=true then some (Wo.numV a (last+1) 15) else none):=by
 unfold num0 Wo.numB Wo.numV
 cases Wo.numO a with
 | none=>simp
 | some v =>
   simp only
   by_cases h:v<0∨15<v
   ·rw[if_pos h]
    simp only;rw[if_pos (show v<last+1∨15<v by omega)]
    simp
   ·rw[if_neg h]
    simp only
    by_cases h2:v≤last
    ·rw[if_pos h2,if_pos (show v<last+1∨15<v by omega)];simp
    ·rw[if_neg h2,if_neg (show ¬(v<last+1∨15<v) by omega),if_neg (show ¬(v<last+1∨15<v) by omega)];simp
theorem not17_any (t:Nat)(A:List Sch)(s0:Sch)(last:Int)(q:Option Addr)(x:ByteArray)(r:List ByteArray)(n c:Nat)(w:World)(hn:(x::r).length=n)(h:Recs SB w q (x::r))(hz:∀y∈x::r,y.size≤16384)(hE:Env w)(hR:RdrAt w t (A ++ [s0]) last)(hA:A.length≤900)(hl0 : -1≤last)(hl1:last≤15)(hx0:0≤s0.ex)(hx1:s0.ex<2 ^ (last+1).toNat) :
  Calls Tryz.prog 150 #[.pointer (some ⟨t,0,none⟩),.slice q n c] w (NotG t (ll (x::r)) A s0 last w):=by
 have hl:=h.len;have htl:=hR.lt;have HD:=mh (fun (hxn:¬x.data.toList=wNot)=>show Calls Tryz.prog 41 #[.pointer (some ⟨t,0,none⟩),.slice q n c] w (HeadG t (headP (ll (x::r))) (A ++ [s0]) w) from head17_any t (A ++ [s0]) last q (x::r) n c w hn h (by simp) hz hE hR (by rw[lap];simp;omega));obtain⟨B,Ox,rfl,hBl,g0⟩:=h.word (j:=0) (by simp);simp only[List.getElem_cons_zero,Nat.add_zero]at g0;have hn0:0<(n:Int):=by rw[List.length_cons]at hn;omega
 show Calls _ _ _ _ (if x.data.toList=wNot then (match ll r with | [a]=>(match num0 a 15 with|some v=>if v≤last then StE t 4 w else StG 150 t (A ++ [{ s0 with ex:=s0.ex+2 ^ v.toNat }]) v w|none=>StE t 4 w)|_=>StE t 4 w) else HeadG t (headP (ll (x::r))) (A ++ [s0]) w)
 by_cases hx:x.data.toList=wNot
 rotate_left
 ·rw[if_neg hx]
  have HDX:=mh (HD.out hx);obtain⟨hp,ehp⟩:∃o,headP (ll (x::r))=o:=⟨_,rfl⟩;rw[ehp]at HDX ⊢;have ez:(x.toList == [110,111,116])=false:=by rw[lit_eq];exact dqf hx
  clear h hE hR hz hx hl hn HD ehp
  cases hp with
  | none =>
    unfold HeadG StE at HDX
    show Calls _ _ _ _ (StE t 4 w)
    simp only at HDX
    go_enter Tryz.func150,Tryz.ntmps150
    go_wp2_with (go_at_call 41;(with_reducible refine cmo HDX.out ?_);rintro e w1 ⟨⟨f,rfl⟩,hb1⟩;have HB1:=mh hb1;clear hb1)
    go_ret2
    exact⟨⟨_,rfl⟩,HB1.out⟩
  | some s =>
    unfold HeadG StG at HDX
    show Calls _ _ _ _ (StG 80 t (A ++ [s0] ++ [s]) (-1) w)
    simp only at HDX
    go_enter Tryz.func150,Tryz.ntmps150
    go_wp2_with (go_at_call 41;(with_reducible refine cmo HDX.out ?_);rintro e w1 ⟨rfl,hr1,hb1⟩;have HB1:=mh hb1;have HR1:=mh hr1;clear hb1 hr1)
    go_ret2
    exact⟨rfl,HR1.out,HB1.out⟩
 rw[if_pos hx];have ez:(x.toList == [110,111,116])=true:=by rw[lit_eq];exact dqt hx
 clear HD
 by_cases h2:n=2
 rotate_left
 ·have e:(match ll r with | [a]=>(match num0 a 15 with|some v=>if v≤last then StE t 4 w else StG 150 t (A ++ [{ s0 with ex:=s0.ex+2 ^ v.toNat }]) v w|none=>StE t 4 w)|_=>StE t 4 w)=StE t 4 w:=by
   match r,hn with
   | [],_=>rfl
   | [a],hn=>exact absurd hn.symm h2
   | a::b::r,_=>rfl
  rw[e];have d3:((n:Int) != 2)=true:=by simp;omega
  clear h hE hR hz hx hl hn e
  go_enter Tryz.func150,Tryz.ntmps150
  go_wp2
  go_ret2
  exact StE.nil _ _ _ _ (brf _ _)
 subst h2;obtain⟨a,rfl⟩:∃a,r = [a]:=by
  match r,hn with
  | [a],_=>exact⟨a,rfl⟩
 obtain⟨B1,O1,e1, -,g1⟩:=h.word (j:=1) (by simp)
 cases e1
 simp only[List.getElem_cons_zero,List.getElem_cons_succ]at g1;have haz:=hz a (by simp);have hwr:IntKind.i64.wrap (last+1)=last+1:=by rw[IntKind.wrap_i64];omega
 obtain⟨l1,el1⟩:∃l,last+1=l:=⟨_,rfl⟩;have NU1:=mh (fun (W:World) (hW:Below w.heap.size w W)=>show Calls Tryz.prog 78 #[.string a,I O l1,I O 15] W (fun e w' => e = .returned (.tuple #[I O (Wo.numV a.data.toList l1 15),.bool (Wo.numB a.data.toList l1 15)])∧Below W.heap.size W w') from number_any a l1 15 W (hE.below hW) (by omega));have hnf:=numB_from (a:=a.data.toList) hl0;rw[el1]at hnf
 show Calls _ _ _ _ (match num0 a.data.toList 15 with|some v=>if v≤last then StE t 4 w else StG 150 t (A ++ [{ s0 with ex:=s0.ex+2 ^ v.toNat }]) v w|none=>StE t 4 w)
 have hres:(match num0 a.data.toList 15 with|some v=>if v≤last then StE t 4 w else StG 150 t (A ++ [{ s0 with ex:=s0.ex+2 ^ v.toNat }]) v w|none=>StE t 4 w)=(if Wo.numB a.data.toList l1 15=true then StG 150 t (A ++ [{ s0 with ex:=s0.ex+2 ^ (Wo.numV a.data.toList l1 15).toNat }]) (Wo.numV a.data.toList l1 15) w else StE t 4 w):=by
  cases e0:num0 a.data.toList 15 with
  | none =>
    rw[e0]at hnf;simp only at hnf ⊢
    cases e1:Wo.numB a.data.toList l1 15
    ·simp
    ·rw[e1]at hnf;simp at hnf
  | some v =>
    rw[e0]at hnf;simp only at hnf ⊢
    by_cases hv:v≤last
    ·rw[if_pos hv]at hnf ⊢
     cases e1:Wo.numB a.data.toList l1 15
     ·simp
     ·rw[e1]at hnf;simp at hnf
    ·rw[if_neg hv]at hnf ⊢
     cases e1:Wo.numB a.data.toList l1 15
     ·rw[e1]at hnf;simp at hnf
     ·rw[e1]at hnf
      simp only[if_true]at hnf ⊢
      injection hnf with hnf
      rw[← hnf]
 rw[hres];have hbd:Wo.numB a.data.toList l1 15=true→l1≤Wo.numV a.data.toList l1 15∧Wo.numV a.data.toList l1 15≤15:=by
  unfold Wo.numB Wo.numV
  cases Wo.numO a.data.toList with
  | none=>simp
  | some v =>
    simp only
    split
    ·simp
    ·intro _;omega
 obtain⟨k1,ek1⟩:∃z,Wo.numB a.data.toList l1 15=z:=⟨_,rfl⟩;obtain⟨v1,ev1⟩:∃z,Wo.numV a.data.toList l1 15=z:=⟨_,rfl⟩;rw[ek1,ev1]at NU1 hbd;rw[ek1,ev1];have HRD:=mh hR;obtain⟨gg,cc,k0,hg1,hg2,hBD,⟨rr,hC,hex⟩,hf⟩:=hR.lastRow;have c8:=hC.c8;rw[hex]at c8;have C8:=mh c8;have F8:=mh (hf (A.length*10+8));have K0:=mh k0;have HBD:=mh hBD;have hA1:A.length+1≤9223372036854775807:=by omega
 have NOW:=mh (fun (W:World) (hW:Below w.heap.size w W)=>now17_any t gg A.length cc W ((hW.cell (p:=⟨t,0,none⟩) htl).trans K0.out) hA1);have cl:=hR.last;have L1:=mh cl;have F1:=mh (hR.fr 1);have G1:=mh g1;have NUd:=mh (NU1.out w.drew (brf _ _).drew);have hll : -9223372036854775808≤l1:=by omega
 clear h hE hz hx hl hn hnf hres ek1 ev1 hR hBD hC hf k0 c8 hex;have hwl:IntKind.i64.wrap l1=l1:=by rw[IntKind.wrap_i64];omega
 clear hwr
 cases k1
 ·rw[if_neg (by simp)]
  show Calls _ _ _ _ (StE t 4 w)
  go_enter Tryz.func150,Tryz.ntmps150
  go_wp2_with fail
  go_region_held3 (fun W=>W.cell? ⟨B,Ox+1,none⟩=some (.string a)∧W.cell? ⟨t,1,none⟩=some (I O last))
   (first|exact⟨g1,cl⟩|exact⟨(HB2.out.cell (p:=⟨B,Ox+1,none⟩) hBl).trans G1.out,(HB2.out.cell (p:=⟨t,1,none⟩) htl).trans L1.out⟩|fail)
   (first|(go_at_call 78;(with_reducible refine cmo NUd.out ?_);rintro e w2 ⟨rfl,hb2⟩;have HB2:=mh (bdrew hb2);clear hb2)|fail)
  go_wp2
  go_ret2
  exact StE.nil _ _ _ _ (HB2.out.mono (Nat.le_of_lt htl))
 obtain⟨hv0,hv1⟩:=hbd rfl;have hv00:0≤v1:=by omega
 rw[if_pos rfl]
 show Calls _ _ _ _ (StG 150 t (A ++ [{ s0 with ex:=s0.ex+2 ^ v1.toNat }]) v1 w)
 have hp15:(2:Int) ^ v1.toNat≤32768∧0<(2:Int) ^ v1.toNat:=by
  have h1:(2:Nat) ^ v1.toNat≤2 ^ 15:=Nat.pow_le_pow_right (by omega) (by omega);have h2:(2:Int) ^ v1.toNat≤2 ^ 15:=by exact_mod_cast h1
  have h3:(0:Int)<2 ^ v1.toNat:=Int.pow_pos (by omega);omega
 have hwp:IntKind.i64.wrap (2 ^ v1.toNat)=2 ^ v1.toNat:=by rw[IntKind.wrap_i64];omega
 have hor:=or_pow (x:=s0.ex) (n:=v1.toNat) hx0 (by
  have:(2:Int) ^ (last+1).toNat≤2 ^ v1.toNat:=by
   have:(2:Nat) ^ (last+1).toNat≤2 ^ v1.toNat:=Nat.pow_le_pow_right (by omega) (by omega)
   exact_mod_cast this
  omega) (by omega)
 go_enter Tryz.func150,Tryz.ntmps150
 go_wp2_with fail
 go_region_held3 (fun W=>W.cell? ⟨B,Ox+1,none⟩=some (.string a)∧W.cell? ⟨t,1,none⟩=some (I O last))
  (first|exact⟨g1,cl⟩|exact⟨(HB2.out.cell (p:=⟨B,Ox+1,none⟩) hBl).trans G1.out,(HB2.out.cell (p:=⟨t,1,none⟩) htl).trans L1.out⟩|fail)
  (first|(go_at_call 78;(with_reducible refine cmo NUd.out ?_);rintro e w2 ⟨rfl,hb2⟩;have HB2:=mh (bdrew hb2);clear hb2)|fail)
 go_wp2_with fail
 have N2:=mh (NOW.out w2.drew HB2.out.drew);have k8:=(HB2.out.cell (p:=⟨gg,A.length*10+8,none⟩) hg2).trans C8.out;have f8:=(HB2.out.frozen (p:=⟨gg,A.length*10+8,none⟩) hg2).trans F8.out
 go_region_with ((go_at_call 81;(with_reducible refine cmo N2.out ?_);rintro e wn ⟨rfl,m,rfl⟩))
 have HB5:=mh (show Below w.heap.size w (w2.drewN (1+m)) from HB2.out.trans ((drewN_below _ _).mono HB2.out.size));have FR:=mh (HRD.out.row2 K0.out (show((w2.drewN (1+m)).setCell ⟨gg,A.length*10+8,none⟩ (I O (s0.ex+2 ^ v1.toNat))).heap[t]?=w.heap[t]? from by rw[setCell_far _ (by omega),HB5.out.block t htl]) (by rw[setCell_sz];exact nll htl HB5.out.size) ((HBD.out.below HB5.out).setEx (s0.ex+2 ^ v1.toNat) rfl));have FL:=mh (FR.out.setLast v1);have FB:=mh (show Below t w (((w2.drewN (1+m)).setCell ⟨gg,A.length*10+8,none⟩ (I O (s0.ex+2 ^ v1.toNat))).setCell ⟨t,1,none⟩ (I O v1)) from((HB5.out.mono (Nat.le_of_lt htl)).setCell (show t≤gg by omega) _).setCell (Nat.le_refl t) _);have r1:=FR.out.last;have r2:=FR.out.fr 1
 go_wp2
 go_ret2
 exact⟨rfl,FL.out,FB.out⟩
def MoreG (t:Nat) (ws:List (List UInt8)) (A:List Sch) (s0:Sch) (last:Int) (w:World):Ending→World→Prop :=
 match ws with
 | []=>StE t 4 w
 | x::r=>if x=wRate then RateG t (x::r) A s0 last w else NotG t (x::r) A s0 last w
def AnyG (t:Nat) (o:(Nat × List Sch × Int) ⊕ Int) (w:World):Ending→World→Prop:=match o with | .inl (F,out,last)=>StG F t out last w | .inr e=>StE t e w
theorem RateG.any (t:Nat)(ws:List (List UInt8))(A:List Sch)(s0:Sch)(last:Int)(w:World):∃o,RateG t ws A s0 last w=AnyG t o w:=by
 unfold RateG
 split
 ·exact⟨.inr 4,rfl⟩
 ·split
  ·split
   ·exact⟨.inl (_,_,_),rfl⟩
   ·exact⟨.inr 4,rfl⟩
  ·exact⟨.inr 4,rfl⟩
theorem HeadG.any (t:Nat)(o:Option Sch)(out:List Sch)(w:World):∃o', HeadG t o out w=AnyG t o' w:=by
 unfold HeadG
 split
 ·exact⟨.inl (_,_,_),rfl⟩
 ·exact⟨.inr 4,rfl⟩
theorem NotG.any (t:Nat)(ws:List (List UInt8))(A:List Sch)(s0:Sch)(last:Int)(w:World):∃o,NotG t ws A s0 last w=AnyG t o w:=by
 unfold NotG
 split
 ·exact⟨.inr 4,rfl⟩
 ·split
  ·split
   ·split
    ·split
     ·exact⟨.inr 4,rfl⟩
     ·exact⟨.inl (_,_,_),rfl⟩
    ·exact⟨.inr 4,rfl⟩
   ·exact⟨.inr 4,rfl⟩
  ·exact HeadG.any _ _ _ _
theorem more17_any (t:Nat)(A:List Sch)(s0:Sch)(last:Int)(q:Option Addr)(x:ByteArray)(r:List ByteArray)(n c:Nat)(w:World)(hn:(x::r).length=n)(h:Recs SB w q (x::r))(hz:∀y∈x::r,y.size≤16384)(hE:Env w)(hR:RdrAt w t (A ++ [s0]) last)(hA:A.length≤900)(hbl:s0.br.length≤1000)(hl0 : -1≤last)(hl1:last≤15)(hx0:0≤s0.ex)(hx1:s0.ex<2 ^ (last+1).toNat) :
  Calls Tryz.prog 129 #[.pointer (some ⟨t,0,none⟩),.slice q n c] w (MoreG t (ll (x::r)) A s0 last w):=by
 have CR:=mh (rate17_any t A s0 last q x r n c w hn h (fun y hy=>hz y (List.mem_cons_of_mem _ hy)) hE hR (by omega) hbl);have CN:=mh (not17_any t A s0 last q x r n c w hn h hz hE hR hA hl0 hl1 hx0 hx1);obtain⟨B,Ox,rfl,hBl,g0⟩:=h.word (j:=0) (by simp);simp only[List.getElem_cons_zero,Nat.add_zero]at g0;have hl:=h.len;have hn0:0<(n:Int):=by rw[List.length_cons]at hn;omega
 show Calls _ _ _ _ (if x.data.toList=wRate then RateG t (ll (x::r)) A s0 last w else NotG t (ll (x::r)) A s0 last w)
 by_cases hx:x.data.toList=wRate
 ·rw[if_pos hx]
  have ez:(x.toList == [114,97,116,101])=true:=by rw[lit_eq];exact dqt hx
  obtain⟨o,eo⟩:=RateG.any t (ll (x::r)) A s0 last w;rw[eo]at CR ⊢;clear h hz hE hR hx hl hn CN eo
  rcases o with⟨F,out,l⟩|er
  ·unfold AnyG StG at CR
   show Calls _ _ _ _ (StG F t out l w)
   simp only at CR
   go_enter Tryz.func129,Tryz.ntmps129
   go_wp2_with (go_at_call 109;(with_reducible refine cmo CR.out ?_);rintro e w1 ⟨rfl,hr1,hb1⟩;have HB1:=mh hb1;have HR1:=mh hr1;clear hb1 hr1)
   go_ret2
   exact⟨rfl,HR1.out,HB1.out⟩
  ·unfold AnyG StE at CR
   show Calls _ _ _ _ (StE t er w)
   simp only at CR
   go_enter Tryz.func129,Tryz.ntmps129
   go_wp2_with (go_at_call 109;(with_reducible refine cmo CR.out ?_);rintro e w1 ⟨⟨f,rfl⟩,hb1⟩;have HB1:=mh hb1;clear hb1)
   go_ret2
   exact⟨⟨_,rfl⟩,HB1.out⟩
 ·rw[if_neg hx]
  have ez:(x.toList == [114,97,116,101])=false:=by rw[lit_eq];exact dqf hx
  obtain⟨o,eo⟩:=NotG.any t (ll (x::r)) A s0 last w;rw[eo]at CN ⊢;clear h hz hE hR hx hl hn CR eo
  rcases o with⟨F,out,l⟩|er
  ·unfold AnyG StG at CN
   show Calls _ _ _ _ (StG F t out l w)
   simp only at CN
   go_enter Tryz.func129,Tryz.ntmps129
   go_wp2_with (go_at_call 150;(with_reducible refine cmo CN.out ?_);rintro e w1 ⟨rfl,hr1,hb1⟩;have HB1:=mh hb1;have HR1:=mh hr1;clear hb1 hr1)
   go_ret2
   exact⟨rfl,HR1.out,HB1.out⟩
  ·unfold AnyG StE at CN
   show Calls _ _ _ _ (StE t er w)
   simp only at CN
   go_enter Tryz.func129,Tryz.ntmps129
   go_wp2_with (go_at_call 150;(with_reducible refine cmo CN.out ?_);rintro e w1 ⟨⟨f,rfl⟩,hb1⟩;have HB1:=mh hb1;clear hb1)
   go_ret2
   exact⟨⟨_,rfl⟩,HB1.out⟩
theorem lnsA_sub:∀(l cur x:List UInt8),x∈Wo.lnsA cur l→x.Sublist (cur++l)
 | [],cur,x,h=>by
   rw[Wo.lnsA]at h
   split at h
   ·cases h
   ·obtain rfl:=List.mem_singleton.1 h
    exact List.sublist_append_left _ _
 | c::r,cur,x,h=>by
   rw[Wo.lnsA]at h
   split at h
   ·rcases List.mem_cons.1 h with rfl|h
    ·exact List.sublist_append_left _ _
    ·have:=lnsA_sub r [] x h
     exact((this.trans (List.sublist_cons_self c r)).trans (List.sublist_append_right cur (c::r)))
   ·have:=lnsA_sub r (cur ++ [c]) x h
    rwa [List.append_assoc,List.singleton_append]at this
theorem pcs_sub (s:UInt8):∀(l cur x:List UInt8),x∈Wo.pcs s cur l→x.Sublist (cur++l)
 | [],cur,x,h=>by
   rw[Wo.pcs]at h;obtain rfl:=List.mem_singleton.1 h;exact List.sublist_append_left _ _
 | c::r,cur,x,h=>by
   rw[Wo.pcs]at h
   split at h
   ·rcases List.mem_cons.1 h with rfl|h
    ·exact List.sublist_append_left _ _
    ·have:=pcs_sub s r [] x h
     exact((this.trans (List.sublist_cons_self c r)).trans (List.sublist_append_right cur (c::r)))
   ·have:=pcs_sub s r (cur ++ [c]) x h
    rwa [List.append_assoc,List.singleton_append]at this
theorem word_of_text {s:ByteArray}(h:Wo.sErr s.data.toList=0){ws:List ByteArray}(hw:ws∈sLines s){x:ByteArray}(hx:x∈ws):x.size≤16384∧∀y∈x.data.toList,y.toNat<128:=by
 unfold sLines Wo.sList at hw;rw[if_pos h,List.map_map]at hw;obtain⟨l,hl,rfl⟩:=List.mem_map.1 hw;obtain⟨y,hy,rfl⟩:=List.mem_map.1 hx;have h1:=lnsA_sub _ _ _ hl;have h2:y.Sublist l:=by
  unfold Wo.wds at hy;exact(pcs_sub 32 _ [] y (List.mem_filter.1 hy).1).trans (List.takeWhile_sublist _)
 have h3:y.Sublist s.data.toList:=h2.trans h1;have h4:¬(16384<s.data.toList.length∨400<s.data.toList.count 10)∧s.data.toList.all Wo.plainB=true:=by
  unfold Wo.sErr at h
  split at h
  ·cases h
  ·rename_i a
   split at h
   ·cases h
   ·rename_i b
    refine⟨a,?_⟩
    cases e:s.data.toList.all Wo.plainB with
    | true=>rfl
    | false=>exact absurd (.inr e) b
 refine⟨?_,fun c hc=>?_⟩
 ·rw[← size_len]
  show y.length≤_
  have:=h3.length_le;omega
 ·have:=List.all_eq_true.1 h4.2 c (h3.mem hc)
  unfold Wo.plainB at this;simp only[Bool.or_eq_true,beq_iff_eq,Bool.and_eq_true,decide_eq_true_eq]at this
  rcases this with rfl|⟨-,h⟩
  ·decide
  ·omega
theorem lnsA_count:∀(l cur:List UInt8),(l ≠ []→l.getLast?=some 10)→(l = []→cur = [])→(Wo.lnsA cur l).length=l.count 10
 | [],cur,_,h=>by rw[Wo.lnsA,if_pos (h rfl)];rfl
 | c::r,cur,h,_=>by
   have hl:=h (by simp);have hr:r ≠ []→r.getLast?=some 10:=fun hn=>by
    cases r with
    | nil=>exact absurd rfl hn
    | cons a r=>rw[List.getLast?_cons_cons]at hl;exact hl
   rw[Wo.lnsA]
   by_cases hc:c=10
   ·subst hc
    rw[if_pos rfl,List.length_cons,lnsA_count r [] hr (fun _=>rfl),List.count_cons_self]
   ·rw[if_neg hc,lnsA_count r (cur ++ [c]) hr (fun e=>by subst e;simp at hl;exact absurd hl hc),List.count_cons_of_ne hc]
theorem lines_count {s:ByteArray}(h:Wo.sErr s.data.toList=0):(sLines s).length=s.data.toList.count 10∧s.data.toList.count 10≤400∧s.size≤16384:=by
 have h1:¬(16384<s.data.toList.length∨400<s.data.toList.count 10):=fun hh=>by rw[sErr_long hh]at h;cases h
 have h2:¬((s.data.toList ≠ []∧s.data.toList.getLast?≠some 10)∨s.data.toList.all Wo.plainB=false):=fun hh=>by rw[sErr_form h1 hh]at h;cases h
 refine⟨?_,by omega,by have:=size_len s;omega⟩
 unfold sLines Wo.sList;rw[if_pos h,List.length_map,List.length_map];unfold Wo.lns;refine lnsA_count _ _ (fun hn=>?_) fun _=>rfl
 by_cases e:s.data.toList.getLast?=some 10
 ·exact e
 ·exact absurd (.inl ⟨hn,e⟩) h2
theorem done17_nil (t:Nat)(last:Int)(w:World)(hR:RdrAt w t [] last):Calls Tryz.prog 42 #[.pointer (some ⟨t,0,none⟩)] w (BoolG true w):=by
 obtain⟨⟨v,h0,hB⟩, -, -, -⟩:=hR;obtain⟨R,hRl,hOR, -⟩:=hB.rows;obtain⟨p,c,rfl, -⟩:=hOR.cut hRl;clear hB hOR
 go_enter Tryz.func42,Tryz.ntmps42
 go_wp2
 go_ret
 exact⟨rfl,brf _ _⟩
theorem done17_snoc (t:Nat)(A:List Sch)(s0:Sch)(last:Int)(w:World)(hR:RdrAt w t (A ++ [s0]) last)(hA:A.length≤1000):Calls Tryz.prog 42 #[.pointer (some ⟨t,0,none⟩)] w (BoolG (decide (s0.br ≠ [])) w):=by
 have htl:=hR.lt;obtain⟨gg,cc,k0,hg1,hg2,hBD, -, -⟩:=hR.lastRow;obtain⟨bp,bc,c6, -, -, -⟩:=hBD.brackets rfl;have hA1:A.length+1≤9223372036854775807:=by omega
 have NOW:=mh (now17_any t gg A.length cc w k0 hA1);have hz:((A.length:Int)+1==0)=false:=beq_eq_false_iff_ne.2 (by omega);have hz2:(((A.length+1:Nat):Int)==0)=false:=beq_eq_false_iff_ne.2 (by omega);have C6:=mh c6;have hgt:decide (0<s0.br.length)=decide (s0.br ≠ []):=by
  rw[decide_eq_decide]
  constructor
  ·intro h e;rw[e]at h;simp at h
  ·intro h;have:=List.length_pos_iff.2 h;omega
 obtain⟨bl,ebl⟩:∃l,s0.br.length=l:=⟨_,rfl⟩;rw[ebl]at C6 hgt;clear hR hBD c6 ebl
 go_enter Tryz.func42,Tryz.ntmps42
 go_wp2_with (go_at_call 81;(with_reducible refine cmo NOW.out ?_);rintro e w4 ⟨rfl,m4,hm4⟩;have HB4:=mh (show Below w.heap.size w w4 from hm4▸(drewN_below _ _));have c64:=(HB4.out.cell (p:=⟨gg,A.length*10+6,none⟩) hg2).trans C6.out;clear hm4)
 go_ret
 exact⟨ret_bool (by simp),HB4.out⟩
def fnS:Nat→Nat|0=>41|1=>80|2=>109|3=>129|_=>150
def StepG (t:Nat) (o:PS ⊕ Int) (w:World):Ending→World→Prop:=match o with | .inl st=>StG (fnS st.state) t st.out st.last w | .inr er=>StE t er w
theorem step_head' {st:PS}{x:List UInt8}{r:List (List UInt8)}(h:st.state=0∨(3≤st.state∧x≠wNot∧(x≠wRate∨st.state≠3))):stepP st (x::r)=match headP (x::r) with|some s => .inl ⟨st.out ++ [s],1, -1⟩|none => .inr 4:=by
 rw[stepP.eq_def];unfold headP
 dsimp only
 by_cases hx:x=wScheme
 ·rw[if_pos ⟨hx,by omega⟩,if_pos hx]
  cases headR r<;>rfl
 ·rw[if_neg (fun e=>hx e.1),if_neg hx]
  simp only
  rw[if_neg (fun e=>by omega),if_neg (fun e=>by
   rcases h with h|⟨h,h2,h3⟩
   ·omega
   ·rcases h3 with h3|h3
    ·exact h3 e.1
    ·omega),if_neg (fun e=>by
   rcases h with h|⟨h,h2,h3⟩
   ·omega
   ·exact h2 e.1)]
theorem StepG.head {t:Nat}{st:PS}{o:Option Sch}{w:World}:StepG t (match o with|some s => .inl ⟨st.out ++ [s],1, -1⟩|none => .inr 4) w=HeadG t o st.out w:=by
 cases o<;>rfl
theorem StepG.cond {t:Nat}{st:PS}{x:List UInt8}{r:List (List UInt8)}{A:List Sch}{s0:Sch}{w:World}(h:st.state=1)(ho:st.out=A ++ [s0]):StepG t (stepP st (x::r)) w=CondG t (x::r) A s0 st.last w:=by
 rw[stepP.eq_def];unfold CondG
 dsimp only
 rw[if_neg (fun e=>by omega)]
 by_cases hx:x=wIf
 ·rw[if_pos ⟨hx,h⟩,if_pos hx]
  cases condR r with
  | inl c=>simp only;rw[ho,onLast_snoc];rfl
  | inr e=>rfl
 ·rw[if_neg (fun e=>hx e.1),if_neg hx,if_neg (fun e=>by omega),if_neg (fun e=>by omega)]
  rfl
theorem StepG.rate {t:Nat}{st:PS}{x:List UInt8}{r:List (List UInt8)}{A:List Sch}{s0:Sch}{w:World}(h:st.state=2∨st.state=3∧x=wRate)(ho:st.out=A ++ [s0]):StepG t (stepP st (x::r)) w=RateG t (x::r) A s0 st.last w:=by
 rw[stepP.eq_def];unfold RateG
 dsimp only
 have hns:¬(x=wScheme∧(st.state=0∨3≤st.state)):=fun e=>by
  rcases h with h|⟨h,h2⟩
  ·omega
  ·rw[h2]at e;exact absurd e.1 (by decide)
 rw[if_neg hns,if_neg (fun e=>by omega)]
 by_cases hx:x=wRate
 ·rw[if_pos ⟨hx,by omega⟩,if_pos hx]
  cases rateR r with
  | some b=>simp only;rw[ho,onLast_snoc];rfl
  | none=>rfl
 ·have h2:st.state=2:=by
   rcases h with h|⟨_,h2⟩
   ·exact h
   ·exact absurd h2 hx
  rw[if_neg (fun e=>hx e.1),if_neg hx,if_neg (fun e=>by omega)]
  rfl
theorem StepG.not {t:Nat}{st:PS}{x:List UInt8}{r:List (List UInt8)}{A:List Sch}{s0:Sch}{w:World}(h:3≤st.state)(hx3:x≠wRate∨st.state≠3)(ho:st.out=A ++ [s0]):StepG t (stepP st (x::r)) w=NotG t (x::r) A s0 st.last w:=by
 by_cases hx:x=wNot
 ·subst hx
  rw[stepP.eq_def];unfold NotG
  dsimp only
  rw[if_neg (fun e=>absurd e.1 (by decide)),if_neg (fun e=>absurd e.1 (by decide)),if_neg (fun e=>absurd e.1 (by decide)),if_pos ⟨rfl,h⟩]
  match r with
  | []=>rfl
  | [a] =>
    simp only
    cases num0 a 15 with
    | none=>rfl
    | some v =>
      simp only
      by_cases hv:v≤st.last
      ·rw[if_pos hv,if_pos hv];rfl
      ·rw[if_neg hv,if_neg hv,ho,onLast_snoc];rfl
  | a::b::r=>rfl
 ·rw[step_head' (.inr ⟨h,hx,hx3⟩),StepG.head]
  unfold NotG;simp only;rw[if_neg hx,ho]
theorem step17_any {k:Nat}(t:Nat)(st:PS)(l:Int)(q:Option Addr)(x:ByteArray)(r:List ByteArray)(n c:Nat)(w:World)(hg:GoodS k st)(hk:k≤800)(hn:(x::r).length=n)(h:WSl w q c (x::r))(hz:∀y∈x::r,y.size≤16384)(hrl:r.length≤1000000)(hE:Env w)(hR:RdrAt w t st.out l)(hl:st.state≠0→l=st.last)(ht:gtop<t) :
  Calls Tryz.prog (fnS st.state) #[.pointer (some ⟨t,0,none⟩),.slice q n c] w (StepG t (stepP st (ll (x::r))) w):=by
 have hlen:=hg.len
 by_cases s0:st.state=0
 ·have e:stepP st (ll (x::r))=match headP (ll (x::r)) with|some s => .inl ⟨st.out ++ [s],1, -1⟩|none => .inr 4:=step_head' (.inl s0)
  rw[e,StepG.head,s0];exact head17_any t st.out l q (x::r) n c w hn h.recs (by simp) hz hE hR (by omega)
 obtain⟨A,s,ho⟩:=snoc_of (hg.some s0);have hAl:A.length≤800:=by rw[ho,lap]at hlen;simp at hlen;omega
 have hbl:s.br.length≤800:=by have:=(hg.each s (by rw[ho];simp)).1;omega
 obtain⟨hx0,hx1⟩:=hg.ex A s ho;rw[ho,hl s0]at hR
 by_cases s1:st.state=1
 ·rw[show StepG t (stepP st (ll (x::r))) w=_ from StepG.cond s1 ho,s1]
  exact cond17_any t A s st.last q x r n c w hn h (fun y hy=>hz y (List.mem_cons_of_mem _ hy)) hrl hE hR (by omega) ht
 by_cases s2:st.state=2
 ·rw[show StepG t (stepP st (ll (x::r))) w=_ from StepG.rate (.inl s2) ho,s2]
  exact rate17_any t A s st.last q x r n c w hn h.recs (fun y hy=>hz y (List.mem_cons_of_mem _ hy)) hE hR (by omega) (by omega)
 by_cases s3:st.state=3
 ·rw[s3]
  have hm:=more17_any t A s st.last q x r n c w hn h.recs hz hE hR (by omega) (by omega) hg.last.1 hg.last.2 hx0 hx1;have e:MoreG t (ll (x::r)) A s st.last w=StepG t (stepP st (ll (x::r))) w:=by
   show(if x.data.toList=wRate then RateG t (ll (x::r)) A s st.last w else NotG t (ll (x::r)) A s st.last w)=_
   by_cases hx:x.data.toList=wRate
   ·rw[if_pos hx];exact(StepG.rate (.inr ⟨s3,hx⟩) ho).symm
   ·rw[if_neg hx];exact(StepG.not (by omega) (.inl hx) ho).symm
  rw[← e];exact hm
 ·have h4:st.state=4:=by have:=hg.four;omega
  rw[show StepG t (stepP st (ll (x::r))) w=_ from StepG.not (by omega) (.inr s3) ho,h4];exact not17_any t A s st.last q x r n c w hn h.recs hz hE hR (by omega) hg.last.1 hg.last.2 hx0 hx1
def ParseG17 (R:List Sch × Int × Int) (w:World) (e:Ending) (w' : World):Prop:=∃p c d,e = .returned (.tuple #[.slice p R.1.length c,I O R.2.1,I O R.2.2])∧SsAt (fun b=>w.heap.size≤b) w' d p R.1∧R.1.length≤c∧Below w.heap.size w w'
theorem ParseG17.bad {R:List Sch × Int × Int}{n er:Int}(h:R=([],n,er))(w w' : World)(hb:Below w.heap.size w w'):ParseG17 R w (.returned (.tuple #[.slice none 0 0,I O n,I O er])) w' :=by
 subst h;exact⟨none,0,0,rfl,SsAt.nil _ _ _ _,Nat.le_refl _,hb⟩
theorem BldAt.ss {B:Nat}{wr:World}{v:Value}{L:List Sch}(h:BldAt B wr v L){n:Nat}(hn:L.length=n):∃p c d,v = .slice p n c∧n≤c∧SsAt (fun b=>B≤b) wr d p L:=by
 rcases h with⟨rfl,h2⟩|⟨A,s,rfl,h2⟩
 ·obtain⟨p,c,e, -, -,h3, -, -⟩:=h2.cut (show([]:List RSx).length=n from hn)
  exact⟨p,c,0,e,h3,SsAt.nil _ _ _ _⟩
 ·exact h2.ss hn
theorem lb_sLines {s:ByteArray}:lb (sLines s)=Wo.sList s.data.toList:=lb_bw _
theorem lb_drop {LL:List (List ByteArray)}{k:Nat}(hk:k<LL.length):(lb LL).drop k=ll LL[k]::(lb LL).drop (k+1):=by
 unfold lb ll;rw[List.drop_eq_getElem_cons (by rw[List.length_map];exact hk),List.getElem_map]
theorem prs_skip {st:PS}{k:Nat}{w:List (List UInt8)}{r:List (List (List UInt8))}(h:w = []):prs st k (w::r)=prs st (k+1) r:=by rw[prs,if_pos h]
theorem prs_ok {st st2:PS}{k:Nat}{w:List (List UInt8)}{r:List (List (List UInt8))}(h:w ≠ [])(h2:stepP st w = .inl st2):prs st k (w::r)=prs st2 (k+1) r:=by rw[prs,if_neg h,h2]
theorem prs_bad {st:PS}{k:Nat}{w:List (List UInt8)}{r:List (List (List UInt8))}{er:Int}(h:w ≠ [])(h2:stepP st w = .inr er):prs st k (w::r)=([],(k:Int)+1,er):=by rw[prs,if_neg h,h2]
theorem parse17_any (s:ByteArray)(w:World)(hE:Env w)(hs:s.size≤9223372036854775807):Calls Tryz.prog 20 #[.string s] w (ParseG17 (parse17 s.data.toList) w):=by
 have SP:=mh (split_any s w hE hs);unfold SplitGive at SP;obtain⟨er,eer⟩:∃x,Wo.sErr s.data.toList=x:=⟨_,rfl⟩;rw[eer]at SP;obtain⟨R,eR⟩:∃R,parse17 s.data.toList=R:=⟨_,rfl⟩;rw[eR]
 by_cases he:er=0
 rotate_left
 ·have HF:=mh (fun (w' : World) (hb:Below w.heap.size w w')=>ParseG17.bad (show R=([],0,er) by rw[← eR];unfold parse17;rw[if_neg (by rw[eer];exact he),eer]) w w' hb)
  have hne:(er != 0)=true:=by simpa using he
  clear hE hs he eer eR
  go_enter Tryz.func20,Tryz.ntmps20
  go_wp2_with (first|(go_at_call 40;(with_reducible refine cmo SP.out ?_);rintro e w1 ⟨p,c,rfl,hL,hp,hb1⟩))
  go_ret3
  exact HF.out _ hb1
 subst he;have HW:=mh (fun (ws:List ByteArray) (h:ws∈sLines s) (x:ByteArray) (hx:x∈ws)=>(word_of_text eer h hx).1);have hll:=lines_count eer;have hR0:R=prs ps0 0 (lb (sLines s)):=by rw[← eR,lb_sLines];unfold parse17;rw[if_pos eer]
 obtain⟨LL,eLL⟩:∃x,sLines s=x:=⟨_,rfl⟩;rw[eLL]at SP HW hll hR0;have hl4:LL.length≤400:=by omega
 have HE:=mh hE;have HR0:=mh hR0;have hwl:∀ws∈LL,ws.length≤1000000:=fun ws hws=>by
  rw[← eLL]at hws;unfold sLines at hws;obtain⟨v,hv,rfl⟩:=List.mem_map.1 hws;rw[List.length_map];unfold Wo.sList at hv;rw[if_pos eer]at hv;obtain⟨l,hl,rfl⟩:=List.mem_map.1 hv;have h1:=lnsA_sub _ _ _ hl;have h2:l.length≤16384:=by
   have:=h1.length_le;rw[List.nil_append,size_len]at this;omega
  unfold Wo.wds;have h3:=List.length_filter_le (fun x=>decide (x ≠ [])) (Wo.pcs 32 [] (l.takeWhile fun x=>x != 35));have h4:=Wo.pcs_len 32 (l.takeWhile fun x=>x != 35) [];have h5:=(List.takeWhile_sublist (fun x=>x != 35) (l:=l)).length_le;omega
 have HWL:=mh hwl;clear eLL eer hE hs eR hR0 hll hwl
 go_enter Tryz.func20,Tryz.ntmps20
 go_wp2_with (go_at_call 40;(with_reducible refine cmo SP.out ?_);rintro e w1 ⟨p,c,rfl,hL,hp,hb1⟩;have HL:=mh hL;have HB1:=mh hb1;clear hL hp hb1)
 clear SP;obtain⟨t,et⟩:∃t,w1.heap.size=t:=⟨_,rfl⟩;have ht16:gtop<t:=by have:=HB1.out.size;have:=HE.out.top;omega
 have hwt:w.heap.size≤t:=by have:=HB1.out.size;omega
 obtain⟨W2,eW2⟩:∃W:World,w1.alloc (.cells #[.slice none 0 0,I O 0] 74)=W:=⟨_,rfl⟩
 have RD0:=mh (show RdrAt W2 t ps0.out 0 from by
  rw[← et,← eW2]
  exact⟨⟨_,cwn w1 #[.slice none 0 0,I O 0] 74 0,.inl ⟨rfl,OwnR.nil _ _ _⟩⟩,cwn w1 #[.slice none 0 0,I O 0] 74 1,fun i=>by simp,by simp⟩)
 have HB2:=mh (show Below t w1 W2 from by rw[← et,← eW2];exact(brf _ _).alloc mle _);rw[et,eW2];have HET:=mh et;clear eW2 et
 go_loopw [6,8,27] (fun e nx i wr=>∃(k:Nat) (st:PS) (l:Int),k≤LL.length∧i=I O k∧e=I O 0∧nx=stF (fnS st.state) t∧GoodS k st∧RdrAt wr t st.out l∧(st.state≠0→l=st.last)∧Below t w1 wr∧R=prs st k ((lb LL).drop k)) (fun _ _ i _=>LL.length - (intOf i).toNat)
 case atStart=>exact⟨0,ps0,0,Nat.zero_le _,rfl,rfl,rfl,good0,RD0.out,fun h=>absurd rfl h,HB2.out,by rw[List.drop_zero];exact HR0.out⟩
 case round =>
  obtain⟨wo,rfl⟩:∃wo:World,wo=wr:=⟨_,rfl⟩;obtain⟨k,st,l,hk,rfl,rfl,rfl,hgd,hrd,hlst,hb,hR⟩:=hrel;have HGD:=mh hgd;have HRD:=mh hrd;have HLS:=mh hlst;have HBO:=mh hb;have HRR:=mh hR;have HEO:=mh ((HE.out.below HB1.out).belowB hb ht16);have hk0:(0:Int)≤(k:Int):=inn _;have HBW:=mh (HB1.out.trans (hb.mono hwt))
  by_cases hlt:k<LL.length
  ·have hk1:(k:Int)<(LL.length:Int):=by omega
   obtain⟨b,off,q,n,cc,rfl,hbl,hcell,hn,hrec,hnn,hle⟩:=(HL.out.below (HET.out.symm▸hb)).at hlt;have hkw:IntKind.i64.wrap ((k:Int)+1)=(k:Int)+1:=by rw[IntKind.wrap_i64];omega
   have HLD:=mh (lb_drop hlt);obtain⟨ws,ews⟩:∃ws,LL[k]=ws:=⟨_,rfl⟩;rw[ews]at hn hrec HLD;have HMW:=mh (show ws∈LL from ews▸List.getElem_mem hlt)
   cases ws with
   | nil =>
     obtain rfl:n=0:=hn;have HN:=mh (show R=prs st (k+1) ((lb LL).drop (k+1)) from by rw[HRR.out,HLD.out];exact prs_skip rfl);clear hgd hrd hlst hb hR hrec ews;unfold stF
     go_wp2
     go_roundw
     case rel=>exact⟨k+1,st,l,by omega,by go_num,rfl,rfl,HGD.out.mono,HRD.out,HLS.out,HBO.out,HN.out⟩
     case measure=>simp[intOf];omega
   | cons x r =>
     have hrl:r.length≤1000000:=by have:=HWL.out _ HMW.out;rw[List.length_cons]at this;omega
     have CS:=mh (step17_any t st l q x r n cc wo hgd (by omega) hn.symm ⟨hrec,by rw[← hn];exact hle,hnn⟩ (fun y hy=>HW.out _ HMW.out y hy) hrl HEO.out hrd hlst ht16);have hzn:((n:Int)==0)=false:=by rw[hn,List.length_cons];exact beq_eq_false_iff_ne.2 (by omega)
     have HGS:=mh (fun st2 (h:stepP st (ll (x::r)) = .inl st2)=>hgd.step (w:=ll (x::r)) (by simp[ll]) (fun y hy=>by
      unfold ll at hy;obtain⟨z,hz,rfl⟩:=List.mem_map.1 hy;rw[size_len]
      exact HW.out _ HMW.out z hz) h)
     have hF:fnS st.state=41∨fnS st.state=80∨fnS st.state=109∨fnS st.state=129∨fnS st.state=150:=by
      unfold fnS
      split<;>simp
     obtain⟨F,eF⟩:∃F,fnS st.state=F:=⟨_,rfl⟩;rw[eF]at CS hF ⊢;obtain⟨o,eo⟩:∃o,stepP st (ll (x::r))=o:=⟨_,rfl⟩;have EO:=mh eo;rw[eo]at CS;have hwne:ll (x::r) ≠ []:=by simp[ll]
     cases o with
     | inl st2 =>
       have HN:=mh (show R=prs st2 (k+1) ((lb LL).drop (k+1)) from by rw[HRR.out,HLD.out];exact prs_ok hwne eo);have HG2:=mh (HGS.out st2 eo);clear hgd hrd hlst hb hR hrec ews eF eo hn;unfold StepG StG at CS;simp only at CS;unfold stF at CS ⊢
       rcases hF with rfl|rfl|rfl|rfl|rfl
       all_goals
        go_wp2_with (first|((with_reducible refine cmo CS.out ?_);rintro e w5 ⟨rfl,hr5,hb5⟩;have HR5:=mh hr5;have HB5:=mh (HBO.out.trans hb5);clear hr5 hb5)|fail)
        go_roundw
        case rel=>exact⟨k+1,st2,st2.last,by omega,by go_num,rfl,rfl,HG2.out,HR5.out,fun _=>rfl,HB5.out,HN.out⟩
        case measure=>simp[intOf];omega
     | inr er =>
       have hne:(er != 0)=true:=by have:=step_err hwne eo;simp;omega
       have HF:=mh (fun (w' : World) (hb:Below w.heap.size w w')=>ParseG17.bad (show R=([],(k:Int)+1,er) from by rw[HRR.out,HLD.out];exact prs_bad hwne eo) w w' hb);clear hgd hrd hlst hb hR hrec ews eF eo hn;unfold StepG StE at CS;simp only at CS;unfold stF
       rcases hF with rfl|rfl|rfl|rfl|rfl
       all_goals
        go_wp2_with (first|((with_reducible refine cmo CS.out ?_);rintro e w5 ⟨⟨f5,rfl⟩,hb5⟩;have HB5:=mh (HBW.out.trans (hb5.mono hwt));clear hb5)|fail)
        go_ret3
        exact HF.out _ HB5.out
  ·obtain rfl:k=LL.length:=by omega
   have hdl:(lb LL).drop LL.length = []:=List.drop_of_length_le (by unfold lb;rw[List.length_map];exact Nat.le_refl _);rw[hdl]at hR;have hkw:IntKind.i64.wrap ((LL.length:Int)+1)=(LL.length:Int)+1:=by rw[IntKind.wrap_i64];omega
   by_cases h12:st.state=1∨st.state=2
   ·obtain⟨A,s0,ho⟩:=snoc_of (hgd.some (by omega))
    have hA:=hgd.len;have DN:=mh (done17_snoc t A s0 l wo (ho▸hrd) (by rw[ho,lap]at hA;simp at hA;omega));rw[dqf (by rw[hgd.few h12 A s0 ho];simp)]at DN;have HF:=mh (fun (w' : World) (hb:Below w.heap.size w w')=>ParseG17.bad (show R=([],(LL.length:Int)+1,4) from by rw[hR,prs,if_pos h12]) w w' hb);clear hgd hrd hlst hb hR hdl ho hA h12;unfold stF
    go_wp2_with (go_at_call 42;(with_reducible refine cmo DN.out ?_);rintro e w5 ⟨rfl,hb5⟩;have HB5:=mh (bstep mle HBW.out hb5);clear hb5)
    go_ret3
    exact HF.out _ HB5.out
   ·have hR2:R=if (chk17 st.out).2≠0 then ([],0,(chk17 st.out).2) else (st.out,0,0):=by rw[hR,prs,if_neg h12]
    have DN:Calls Tryz.prog 42 #[.pointer (some ⟨t,0,none⟩)] wo (BoolG true wo):=by
     by_cases h0:st.state=0
     ·exact done17_nil t l wo (hgd.zero h0▸hrd)
     ·obtain⟨A,s0,ho⟩:=snoc_of (hgd.some h0)
      have hA:=hgd.len;have:=done17_snoc t A s0 l wo (ho▸hrd) (by rw[ho,lap]at hA;simp at hA;omega)
      rwa [dqt (hgd.more (by omega) A s0 ho)]at this
    have DN:=mh DN;obtain⟨v,c0,hbld⟩:=hrd.v;have htl:=hrd.lt;obtain⟨n,en⟩:∃n,st.out.length=n:=⟨_,rfl⟩;obtain⟨q,cc,d,rfl,hcc,hss⟩:=hbld.ss en;have HSS:=mh hss;have HZ:=mh (fun s (hs:s∈st.out)=>show s.nm.size≤9223372036854775807 from by have:=(hgd.each s hs).2.1;omega);have CK:=mh (fun (W:World) (hW:Below wo.heap.size wo W)=>show Calls Tryz.prog 9 #[.slice q n cc] W (ChkG (chk17 st.out) W) from en▸check17_any d q st.out cc W (hss.below hW) HZ.out (by rw[en];exact hcc));unfold ChkG at CK;obtain⟨L,eL⟩:∃L,st.out=L:=⟨_,rfl⟩;rw[eL]at CK hR2 HSS en;obtain⟨⟨ci,er⟩,ec⟩:∃x,chk17 L=x:=⟨_,rfl⟩;rw[ec]at CK hR2;simp only at hR2;have C0:=mh c0;clear hgd hrd hlst hb hR hdl hbld hss eL ec c0 h12
    by_cases he:er=0
    rotate_left
    ·rw[if_pos he]at hR2
     have hne:(er != 0)=true:=by simpa using he
     have HF:=mh (fun (w' : World) (hb:Below w.heap.size w w')=>ParseG17.bad (show R=([],0,er) from hR2) w w' hb);clear he hR2;unfold stF
     go_wp2_with (first
      | (go_at_call 42;(with_reducible refine cmo DN.out ?_);rintro e w5 ⟨rfl,hb5⟩;have HB5:=mh (bstep mle HBW.out hb5);have CK5:=mh (CK.out _ hb5);have c5:=(hb5.cell (p:=⟨t,0,none⟩) htl).trans C0.out;clear hb5)
      | (go_at_call 9;(with_reducible refine cmo CK5.out ?_);rintro e w6 ⟨rfl,hb6⟩;have HB6:=mh (bstep mle HB5.out hb6);clear hb6)
      | fail)
     go_ret3
     exact HF.out _ HB6.out
    ·subst he
     rw[if_neg (by simp)]at hR2
     have HF:=mh (fun (w' : World) (hb2:Below wo.heap.size wo w') (hb:Below w.heap.size w w')=>show ParseG17 R w (.returned (.tuple #[.slice q n cc,I O 0,I O 0])) w' from by
      subst hR2;refine⟨q,cc,d,by rw[en],?_,by rw[en];exact hcc,hb⟩
      exact(HSS.out.below hb2).change mle fun b hq _=>⟨rfl,by omega⟩)
     clear hR2;unfold stF
     go_wp2_with (first
      | (go_at_call 42;(with_reducible refine cmo DN.out ?_);rintro e w5 ⟨rfl,hb5⟩;have HB5:=mh (bstep mle HBW.out hb5);have CK5:=mh (CK.out _ hb5);have c5:=(hb5.cell (p:=⟨t,0,none⟩) htl).trans C0.out;have HO5:=mh hb5;clear hb5)
      | (go_at_call 9;(with_reducible refine cmo CK5.out ?_);rintro e w6 ⟨rfl,hb6⟩;have HB6:=mh (bstep mle HB5.out hb6);have HO6:=mh (bstep mle HO5.out hb6);have c6:=(HO6.out.cell (p:=⟨t,0,none⟩) htl).trans C0.out;clear hb6)
      | fail)
     go_ret3
     exact HF.out _ HO6.out HB6.out
structure TwoS (wo wx:World) (x y:Nat) (r1 r2:RSx):Prop where
 a:SCells wx x 0 r1
 b:SCells wx y 0 r2
 below:Below wo.heap.size wo wx
 lx:x<wx.heap.size
 ly:y<wx.heap.size
theorem TwoS.drew {wo wx:World}{x y:Nat}{r1 r2:RSx}(h:TwoS wo wx x y r1 r2):TwoS wo wx.drew x y r1 r2:=⟨h.a.below (brf _ _).drew h.lx,h.b.below (brf _ _).drew h.ly,h.below.drew,h.lx,h.ly⟩
theorem twoS (wo:World)(r1 r2:RSx)(T:TypeId):TwoS wo ((wo.alloc (.cells (sCells r1).toArray T)).alloc (.cells (sCells r2).toArray T)) wo.heap.size (wo.heap.size+1) r1 r2:=by
 have hA:Below wo.heap.size wo (wo.alloc (.cells (sCells r1).toArray T)):=(brf _ _).alloc mle _;have hA2:=balloc mle (brf (wo.alloc (.cells (sCells r1).toArray T)).heap.size (wo.alloc (.cells (sCells r1).toArray T))) (.cells (sCells r2).toArray T);have h2:=SCells.box (wo.alloc (.cells (sCells r1).toArray T)) r2 T;rw[World.size_alloc]at h2;exact⟨(SCells.box wo r1 T).below hA2 (by simp),h2,bstep mle hA hA2,by simp;omega,by simp⟩
theorem TwoS.turn {wo wx:World}{x y:Nat}{r1 r2:RSx}(h:TwoS wo wx x y r1 r2):TwoS wo wx y x r2 r1:=⟨h.b,h.a,h.below,h.ly,h.lx⟩
theorem same17_any {Q1 Q2:Nat→Prop}(d e:Nat)(p1 p2:Option Addr)(L:List Sch)(n c1 c2:Nat)(w:World)(hn:L.length=n)(h1:SsAt Q1 w d p1 L)(h2:SsAt Q2 w e p2 L) :
  Calls Tryz.prog 22 #[.slice p1 n c1,.slice p2 n c2] w (BoolG true w):=by
 have hlen:=h1.len;rw[hn]at hlen;have H1:=mh h1;have H2:=mh h2;have HN:=mh hn;clear h1 h2 hn
 go_enter Tryz.func22,Tryz.ntmps22
 go_wp2
 go_loopw [16] (fun i wr=>∃k:Nat,k≤n∧i=I O k∧Below w.heap.size w wr) (fun i _=>n - (intOf i).toNat)
 case atStart=>exact⟨0,Nat.zero_le _,rfl,brf _ _⟩
 case round =>
  obtain⟨wo,rfl⟩:∃wo:World,wo=wr:=⟨_,rfl⟩;obtain⟨k,hk,rfl,hb⟩:=hrel;have HB:=mh hb;have hk0:(0:Int)≤(k:Int):=inn _
  by_cases hlt:k<n
  ·have hk1:(k:Int)<(n:Int):=by omega
   have hkL:k<L.length:=by rw[HN.out];exact hlt
   obtain⟨b1,off1,r1,rfl,hl1,hC1,hv1⟩:=(H1.out.below hb).at hkL;obtain⟨b2,off2,r2,rfl,hl2,hC2,hv2⟩:=(H2.out.below hb).at hkL;have HV1:=mh hv1;have HV2:=mh hv2;have TW:=mh (twoS wo r1 r2 31);have TW2:=mh (twoS wo r2 r1 31);obtain⟨s,es⟩:∃s,L[k]=s:=⟨_,rfl⟩;rw[es]at HV1 HV2;obtain⟨a0,a1,a2,a3,a4,a5,a6,a7,a8,a9⟩:=hC1;obtain⟨g0,g1,g2,g3,g4,g5,g6,g7,g8,g9⟩:=hC2;clear hb hv1 hv2 es hkL
   go_upto_region 6 with fail
   go_cut [6,7] (fun s6 s7 wx=>∃x y:Nat,s6 = .pointer (some ⟨x,0,none⟩)∧s7 = .pointer (some ⟨y,0,none⟩)∧TwoS wo wx x y r1 r2)
   case first =>
    go_region
    all_goals (go_wp2_with fail;go_meet)
    ·exact⟨_,_,rfl,rfl,TW.out.drew⟩
    ·exact⟨_,_,rfl,rfl,TW2.out.turn.drew⟩
   case rest =>
    clear a0 a1 a2 a3 a4 a5 a6 a7 a8 a9 g0 g1 g2 g3 g4 g5 g6 g7 g8 g9 TW TW2;obtain⟨x,y,rfl,rfl,hT⟩:=hcut;have HT:=mh hT;have HBX:=mh (bstep mle HB.out hT.below);have V1:=mh (HV1.out.below hT.below);have V2:=mh (HV2.out.below hT.below);clear hT HV1 HV2;have en:r2.num=r1.num:=V2.out.num.trans V1.out.num.symm;have em:r2.nm=r1.nm:=V2.out.nm.trans V1.out.nm.symm;have el:r2.least=r1.least:=V2.out.least.trans V1.out.least.symm;have ee:r2.ex=r1.ex:=V2.out.ex.trans V1.out.ex.symm;have ed:r2.needs=r1.needs:=V2.out.needs.trans V1.out.needs.symm;have eb:r2.bn=r1.bn:=V2.out.bn.trans V1.out.bn.symm;obtain⟨num,nm,⟨o,tn,tm,tp,tl,tc⟩,bp,bn,bc,least,ex,needs⟩:=r1;obtain⟨num2,nm2,⟨o2,tn2,tm2,tp2,tl2,tc2⟩,bp2,bn2,bc2,least2,ex2,needs2⟩:=r2;simp only at en em el ee ed eb;subst en em el ee ed eb;have SM:=mh (same16_any d e ⟨o,tn,tm,tp,tl,tc⟩ ⟨o2,tn2,tm2,tp2,tl2,tc2⟩ s.cond _ V1.out.t V2.out.t);have BL1:=mh V1.out.br;have BL2:=mh V2.out.br;have BN:=mh (show s.br.length=bn2 from V1.out.bn.symm);have hbl:bn2≤9223372036854775807:=by rw[← BN.out];exact V1.out.br.len
    obtain⟨⟨v0,v1,v2,v3,v4,v5,v6,v7,v8,v9⟩,⟨u0,u1,u2,u3,u4,u5,u6,u7,u8,u9⟩, -, -, -⟩:=HT.out;simp only[Nat.zero_add]at v1 v2 v3 v4 v5 v6 v7 v8 v9 u1 u2 u3 u4 u5 u6 u7 u8 u9;unfold BoolG at SM
    go_wp2_with (go_at_call 48;(with_reducible refine cmo SM.out ?_);rintro e w1 ⟨rfl,hb1⟩;have HB1:=mh hb1;obtain⟨-, -, -, -, -, -,v61,v71,v81,v91⟩:=HT.out.a.below hb1 HT.out.lx;obtain⟨-, -, -, -, -, -,u61,u71,u81,u91⟩:=HT.out.b.below hb1 HT.out.ly;simp only[Nat.zero_add]at v61 v71 v81 v91 u61 u71 u81 u91;clear hb1)
    have BX1:=mh (BL1.out.below HB1.out);have BX2:=mh (BL2.out.below HB1.out);have LX:=mh (nll HT.out.lx HB1.out.size);have LY:=mh (nll HT.out.ly HB1.out.size);have HBW:=mh (bstep mle HBX.out HB1.out);have V61:=mh v61;have U61:=mh u61
    go_loopw [80] (fun i wr=>∃j:Nat,j≤bn2∧i=I O j∧Below w1.heap.size w1 wr) (fun i _=>bn2 - (intOf i).toNat)
    case atStart=>exact⟨0,Nat.zero_le _,rfl,brf _ _⟩
    case round =>
     obtain⟨wi,rfl⟩:∃wi:World,wi=wr:=⟨_,rfl⟩;obtain⟨j,hj,rfl,hbi⟩:=hrel;have HBI:=mh hbi;have hj0:(0:Int)≤(j:Int):=inn _;have x6:=(hbi.cell (p:=⟨x,6,none⟩) LX.out).trans V61.out;have y6:=(hbi.cell (p:=⟨y,6,none⟩) LY.out).trans U61.out
     by_cases hjk:j<bn2
     ·have hj1:(j:Int)<(bn2:Int):=by omega
      have hjL:j<s.br.length:=by rw[BN.out];exact hjk
      obtain⟨q1,o1,z1,rfl, -,f1,f2,e1⟩:=SBk_at (BX1.out.below hbi) hjL;obtain⟨q2,o2', z2,rfl, -,f3,f4,e2⟩:=SBk_at (BX2.out.below hbi) hjL;obtain rfl:z1=z2:=e1.out.symm.trans e2.out;obtain⟨up,rate⟩:=z1;simp only at f1 f2 f3 f4;clear e1 e2 hbi hjL
      go_wp2_with fail
      go_quiet (fail)
      go_wp2
      go_roundw
      case rel=>exact⟨j+1,by omega,by go_num,HBI.out.trans ((drewN_below _ _).mono HBI.out.size)⟩
      case measure=>simp[intOf];omega
     ·obtain rfl:j=bn2:=by omega
      clear hbi
      go_wp2
      go_roundw
      case rel=>exact⟨k+1,by omega,by go_num,bstep mle HBW.out HBI.out⟩
      case measure=>simp[intOf];omega
  ·obtain rfl:k=n:=by omega
   clear hb
   go_wp2
   go_ret
   exact⟨rfl,HB.out⟩
end Go.Proofs.YtbcmabolkkfgfaaGreatDoor
