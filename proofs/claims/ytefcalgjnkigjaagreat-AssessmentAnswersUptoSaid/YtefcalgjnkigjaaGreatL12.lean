/- Packed. -/
import Derived.Test.YtefcalgjnkigjaaGreatL10
set_option maxRecDepth 100000
set_option maxHeartbeats 4000000
open Go.Value renaming int → I
open Go.IntKind renaming i64 → O
namespace Go.Proofs.YtefcalgjnkigjaaGreat
open Go.RowKit
theorem As.measB_iff {a b:Int}:As.measB a b=true↔0≤a∧a≤268435456∧0≤b∧b≤16777216:=by
 unfold As.measB;simp only[Bool.and_eq_true,decide_eq_true_eq]
theorem As.measB_not {a b:Int}(h:¬(0≤a∧a≤268435456∧0≤b∧b≤16777216)):As.measB a b=false:=by
 rw[← Bool.not_eq_true,As.measB_iff];exact h
theorem yXA (a b:Int)(w:World):Calls Tryz.prog 227 #[.agg #[I O a,I O b]] w fun e w' => e = .returned (.bool (As.measB a b))∧Below w.heap.size w w' :=by
 have HA:=mh (qK mle (brf w.heap.size w) (.cells #[I O a,I O b] 85))
 by_cases h1:0≤a
 rotate_left
 ·rw[As.measB_not (by omega)]
  go_enter Tryz.func227,Tryz.ntmps227
  go_wp2
  go_ret
  exact⟨rfl,HA.out⟩
 by_cases h2:a≤268435456
 rotate_left
 ·rw[As.measB_not (by omega)]
  go_enter Tryz.func227,Tryz.ntmps227
  go_wp2
  go_ret
  exact⟨rfl,HA.out⟩
 by_cases h3:0≤b
 rotate_left
 ·rw[As.measB_not (by omega)]
  go_enter Tryz.func227,Tryz.ntmps227
  go_wp2
  go_ret
  exact⟨rfl,HA.out⟩
 by_cases h4:b≤16777216
 rotate_left
 ·rw[As.measB_not (by omega)]
  go_enter Tryz.func227,Tryz.ntmps227
  go_wp2
  go_ret
  exact⟨rfl,HA.out⟩
 ·rw[As.measB_iff.2 ⟨h1,h2,h3,h4⟩]
  go_enter Tryz.func227,Tryz.ntmps227
  go_wp2
  go_ret
  exact⟨rfl,HA.out⟩
def As.tolE (c a b width:Int):Int:=if As.measB a b=false then 3 else if width<0∨200<width∨c<0∨268435456<c then 2 else 0
theorem nT (c a b width:Int)(w:World):Calls Tryz.prog 221 #[I O c,.agg #[I O a,I O b],I O width] w fun e w' => e = .returned (I O (As.tolE c a b width))∧Below w.heap.size w w' :=by
 have HA:=mh (qK mle (brf w.heap.size w) (.cells #[I O a,I O b] 85));have V:=mh (fun (W:World)=>yXA a b W);unfold As.tolE
 cases hm:As.measB a b
 ·rw[hm]at V
  rw[if_pos rfl]
  go_enter Tryz.func221,Tryz.ntmps221
  go_wp2_with (first|(go_at_call 227;(with_reducible refine cmo (V.out _) ?_);rintro e w1 ⟨rfl,hb1⟩;have HB1:=mh (qZ mle HA hb1);clear hb1))
  go_ret
  exact⟨rfl,HB1.out⟩
 ·rw[hm]at V
  rw[if_neg (by decide)];have step:∀v:Int,(width<0∧v=2)∨(¬width<0∧200<width∧v=2)∨(¬width<0∧¬200<width∧c<0∧v=2)∨(¬width<0∧¬200<width∧¬c<0∧268435456<c∧v=2)∨(¬width<0∧¬200<width∧¬c<0∧¬268435456<c∧v=0) →
    Calls Tryz.prog 221 #[I O c,.agg #[I O a,I O b],I O width] w fun e w' => e = .returned (I O v)∧Below w.heap.size w w' :=by
   rintro v (⟨h1,rfl⟩|⟨h1,h2,rfl⟩|⟨h1,h2,h3,rfl⟩|⟨h1,h2,h3,h4,rfl⟩|⟨h1,h2,h3,h4,rfl⟩)
   all_goals
    go_enter Tryz.func221,Tryz.ntmps221
    go_wp2_with (first|(go_at_call 227;(with_reducible refine cmo (V.out _) ?_);rintro e w1 ⟨rfl,hb1⟩;have HB1:=mh (qZ mle HA hb1);clear hb1))
    go_ret
    exact⟨rfl,HB1.out⟩
  apply step
  split<;>omega
theorem As.tolE_zero {c a b width:Int}:As.tolE c a b width=0↔As.measB a b=true∧0≤width∧width≤200∧0≤c∧c≤268435456:=by
 unfold As.tolE
 cases As.measB a b
 ·simp
 ·simp only[Bool.true_eq_false,if_false,true_and]
  split
  ·constructor
   ·intro h;cases h
   ·intro h;omega
  ·constructor
   ·intro _;omega
   ·intro _;rfl
theorem eJ (a b width:Int)(w:World)(hm:As.measB a b=true)(w0:0≤width)(w1:width≤200) :
  Calls Tryz.prog 222 #[.agg #[I O a,I O b],I O width] w fun e w' => e = .returned (.tuple #[I O (As.margin a b width),I O 0])∧Below w.heap.size w w' :=by
 obtain⟨a0,a1,b0,b1⟩:=As.measB_iff.1 hm;have HA:=mh (qK mle (brf w.heap.size w) (.cells #[I O a,I O b] 85));have CK:=mh (fun (W:World)=>nT 0 a b width W);rw[As.tolE_zero.2 ⟨hm,w0,w1,by omega,by omega⟩]at CK;have hp:=As.prod_bd b0 b1 w0 w1;obtain⟨X,eX⟩:∃X,b*width=X:=⟨_,rfl⟩;have hw:IntKind.i64.wrap (b*width)=X:=by rw[eX,IntKind.wrap_i64];omega
 have EM:=mh (show As.margin a b width=min (Ex.up X 100) a from by rw[← eX];rfl);have x1:X≤3355443200:=by omega
 have x0:0≤X:=by omega
 have UP:=mh (fun (W:World)=>uWA X 100 W (by omega) (by omega));obtain⟨V,eV⟩:∃V,Ex.up X 100=V:=⟨_,rfl⟩;rw[eV]at UP EM;clear hp eX eV hm
 go_enter Tryz.func222,Tryz.ntmps222
 go_wp2_with (first
  | (go_at_call 221;(with_reducible refine cmo (CK.out _) ?_);rintro e w1 ⟨rfl,hb1⟩;have HB1:=mh (qZ mle HA hb1);have C0:=qJ hb1 0;have C1:=qJ hb1 1;clear hb1)
  | fail)
 go_quiet ((go_at_call 187;exact Calls.quiet_of_same (Calls.turn (UP _))))
 go_wp2
 go_ret2
 exact⟨by rw[EM.out];rfl,qH HB1 HB1.size (qQ _ _)⟩
theorem lZ (c a b width:Int)(w:World)(hm:As.measB a b=true)(w0:0≤width)(w1:width≤200)(c0:0≤c)(c1:c≤268435456) :
  Calls Tryz.prog 211 #[I O c,.agg #[I O a,I O b],I O width] w fun e w' => e = .returned (.tuple #[I O (As.accept c a b width),I O 0])∧Below w.heap.size w w' :=by
 obtain⟨a0,a1,b0,b1⟩:=As.measB_iff.1 hm;have HA:=mh (qK mle (brf w.heap.size w) (.cells #[I O a,I O b] 85));have CK:=mh (fun (W:World)=>nT c a b width W);rw[As.tolE_zero.2 ⟨hm,w0,w1,c0,c1⟩]at CK;have MG:=mh (fun (W:World)=>eJ a b width W hm w0 w1);obtain⟨M,eM⟩:∃M,As.margin a b width=M:=⟨_,rfl⟩;have EA:=mh (show As.accept c a b width=if max (c - a) (a - c)≤M then c else a from by unfold As.accept;rw[eM]);rw[eM]at MG;have hw1:IntKind.i64.wrap (c - a)=c - a:=by rw[IntKind.wrap_i64];omega
 have hw2:IntKind.i64.wrap (a - c)=a - c:=by rw[IntKind.wrap_i64];omega
 clear eM hm
 by_cases h:max (c - a) (a - c)≤M
 ·have EV:=mh (show As.accept c a b width=c from by rw[EA.out,if_pos h])
  go_enter Tryz.func211,Tryz.ntmps211
  go_wp2_with (first
   | (go_at_call 221;(with_reducible refine cmo (CK.out _) ?_);rintro e w1 ⟨rfl,hb1⟩;have HB1:=mh (qZ mle HA hb1);have C0:=qJ hb1 0;have C1:=qJ hb1 1;have S1:=mh (show w.heap.size<w1.heap.size from nll (by simp) hb1.size);clear hb1)
   | (go_at_call 222;(with_reducible refine cmo (MG.out _) ?_);rintro e w2 ⟨rfl,hb2⟩;have HB2:=mh (qZ mle HB1 hb2);have D0:=(hb2.cell (p:=⟨w.heap.size,0,none⟩) S1).trans C0;have D1:=(hb2.cell (p:=⟨w.heap.size,1,none⟩) S1).trans C1;clear hb2 C0 C1)
   | fail)
  go_ret2
  exact⟨by rw[EV.out];rfl,HB2.out⟩
 ·have EV:=mh (show As.accept c a b width=a from by rw[EA.out,if_neg h])
  go_enter Tryz.func211,Tryz.ntmps211
  go_wp2_with (first
   | (go_at_call 221;(with_reducible refine cmo (CK.out _) ?_);rintro e w1 ⟨rfl,hb1⟩;have HB1:=mh (qZ mle HA hb1);have C0:=qJ hb1 0;have C1:=qJ hb1 1;have S1:=mh (show w.heap.size<w1.heap.size from nll (by simp) hb1.size);clear hb1)
   | (go_at_call 222;(with_reducible refine cmo (MG.out _) ?_);rintro e w2 ⟨rfl,hb2⟩;have HB2:=mh (qZ mle HB1 hb2);have D0:=(hb2.cell (p:=⟨w.heap.size,0,none⟩) S1).trans C0;have D1:=(hb2.cell (p:=⟨w.heap.size,1,none⟩) S1).trans C1;clear hb2 C0 C1)
   | fail)
  go_ret2
  exact⟨by rw[EV.out];rfl,HB2.out⟩
def As.inB (n lo hi:Int):Bool:=decide (lo≤n)&&decide (n≤hi)
theorem vT (n lo hi:Int)(w:World):Calls Tryz.prog 172 #[I O n,I O lo,I O hi] w fun e w' => e = .returned (.bool (As.inB n lo hi))∧w=w' :=by
 by_cases h1:lo≤n
 rotate_left
 ·rw[show As.inB n lo hi=false from by unfold As.inB;simp[h1]]
  go_enter Tryz.func172,Tryz.ntmps172
  go_wp2
  go_ret
  exact⟨rfl,rfl⟩
 by_cases h2:n≤hi
 rotate_left
 ·rw[show As.inB n lo hi=false from by unfold As.inB;simp[h2]]
  go_enter Tryz.func172,Tryz.ntmps172
  go_wp2
  go_ret
  exact⟨rfl,rfl⟩
 ·rw[show As.inB n lo hi=true from by unfold As.inB;simp[h1,h2]]
  go_enter Tryz.func172,Tryz.ntmps172
  go_wp2
  go_ret
  exact⟨rfl,rfl⟩
theorem As.seen_cases (k a b:Int):(As.inB k 0 4=false∧As.seenB k a b=false)∨(As.inB k 0 4=true∧(k != 1)=true∧As.seenB k a b=(decide (a=0)&&decide (b=0))) ∨
  (As.inB k 0 4=true∧(k != 1)=false∧As.inB a 0 268435456=false∧As.seenB k a b=false)∨(As.inB k 0 4=true∧(k != 1)=false∧As.inB a 0 268435456=true∧As.seenB k a b=As.inB b 0 16777216):=by
 unfold As.seenB As.measB;have e:As.inB k 0 4=(decide (0≤k)&&decide (k≤4)):=rfl;have e2:As.inB a 0 268435456=(decide (0≤a)&&decide (a≤268435456)):=rfl;have e3:As.inB b 0 16777216=(decide (0≤b)&&decide (b≤16777216)):=rfl;rw[← Bool.and_assoc,← Bool.and_assoc (decide (0≤a)),← e,← e2,← e3]
 cases As.inB k 0 4
 ·exact .inl ⟨rfl,rfl⟩
 ·by_cases h:k=1
  ·rw[if_pos h]
   have h' : (k != 1)=false:=by simp[h]
   cases As.inB a 0 268435456
   ·exact .inr (.inr (.inl ⟨rfl,h', rfl,rfl⟩))
   ·exact .inr (.inr (.inr ⟨rfl,h', rfl,rfl⟩))
  ·rw[if_neg h]
   exact .inr (.inl ⟨rfl,by simp[h],rfl⟩)
theorem zPA (k a b:Int)(w:World):Calls Tryz.prog 173 #[.agg #[I O k,I O a,I O b]] w fun e w' => e = .returned (.bool (As.seenB k a b))∧Below w.heap.size w w' :=by
 have HA:=mh (qK mle (brf w.heap.size w) (.cells #[I O k,I O a,I O b] 87));have I1:=mh (fun (W:World)=>vT k 0 4 W);have I2:=mh (fun (W:World)=>vT a 0 268435456 W);have I3:=mh (fun (W:World)=>vT b 0 16777216 W)
 rcases As.seen_cases k a b with⟨h1,h⟩|⟨h1,h2,h⟩|⟨h1,h2,h3,h⟩|⟨h1,h2,h3,h⟩
 ·rw[h]
  rw[h1]at I1
  go_enter Tryz.func173,Tryz.ntmps173
  go_wp2_with (first|(go_at_call 172;(with_reducible refine cmo (I1.out _) ?_);rintro e w1 ⟨rfl,rfl⟩))
  go_ret
  exact⟨rfl,HA.out⟩
 ·rw[h]
  rw[h1]at I1;clear h
  by_cases hz:a=0
  rotate_left
  ·rw[show(decide (a=0)&&decide (b=0))=false from by simp[hz]]
   go_enter Tryz.func173,Tryz.ntmps173
   go_wp2_with (first|(go_at_call 172;(with_reducible refine cmo (I1.out _) ?_);rintro e w1 ⟨rfl,rfl⟩))
   go_ret
   exact⟨rfl,HA.out⟩
  subst hz
  by_cases hz:b=0
  rotate_left
  ·rw[show(decide ((0:Int)=0)&&decide (b=0))=false from by simp[hz]]
   go_enter Tryz.func173,Tryz.ntmps173
   go_wp2_with (first|(go_at_call 172;(with_reducible refine cmo (I1.out _) ?_);rintro e w1 ⟨rfl,rfl⟩))
   go_ret
   exact⟨rfl,HA.out⟩
  ·subst hz
   go_enter Tryz.func173,Tryz.ntmps173
   go_wp2_with (first|(go_at_call 172;(with_reducible refine cmo (I1.out _) ?_);rintro e w1 ⟨rfl,rfl⟩))
   go_ret
   exact⟨rfl,HA.out⟩
 ·rw[h]
  rw[h1]at I1;rw[h3]at I2
  go_enter Tryz.func173,Tryz.ntmps173
  go_wp2_with (first|(go_at_call 172;(with_reducible refine cmo (I1.out _) ?_);rintro e w1 ⟨rfl,rfl⟩)|(go_at_call 172;(with_reducible refine cmo (I2.out _) ?_);rintro e w1 ⟨rfl,rfl⟩))
  go_ret
  exact⟨rfl,HA.out⟩
 ·rw[h]
  rw[h1]at I1;rw[h3]at I2;clear h
  go_enter Tryz.func173,Tryz.ntmps173
  go_wp2_with (first|(go_at_call 172;(with_reducible refine cmo (I1.out _) ?_);rintro e w1 ⟨rfl,rfl⟩)|(go_at_call 172;(with_reducible refine cmo (I2.out _) ?_);rintro e w1 ⟨rfl,rfl⟩)|(go_at_call 172;(with_reducible refine cmo (I3.out _) ?_);rintro e w1 ⟨rfl,rfl⟩))
  go_ret
  exact⟨rfl,HA.out⟩
theorem As.chk28_cases (f:As.Fct)(width:Int) :
  (As.inB f.decl 0 268435456=false∧As.chk28 f width=68)∨(As.inB f.decl 0 268435456=true∧As.inB f.due 0 f.decl=false∧As.chk28 f width=68) ∨
  (As.inB f.decl 0 268435456=true∧As.inB f.due 0 f.decl=true∧As.inB f.season (-1) 1=false∧As.chk28 f width=68) ∨
  (As.inB f.decl 0 268435456=true∧As.inB f.due 0 f.decl=true∧As.inB f.season (-1) 1=true∧As.seenB f.kind f.area f.border=false∧As.chk28 f width=68) ∨
  (As.inB f.decl 0 268435456=true∧As.inB f.due 0 f.decl=true∧As.inB f.season (-1) 1=true∧As.seenB f.kind f.area f.border=true∧As.inB width 0 200=false∧As.chk28 f width=2) ∨
  (As.inB f.decl 0 268435456=true∧As.inB f.due 0 f.decl=true∧As.inB f.season (-1) 1=true∧As.seenB f.kind f.area f.border=true∧As.inB width 0 200=true∧As.chk28 f width=0):=by
 have e:As.factB f=(As.inB f.decl 0 268435456&&(As.inB f.due 0 f.decl&&(As.inB f.season (-1) 1&&As.seenB f.kind f.area f.border))):=by
  unfold As.factB As.inB;simp only[Bool.and_assoc]
 unfold As.chk28;rw[e]
 cases As.inB f.decl 0 268435456
 ·exact .inl ⟨rfl,rfl⟩
 cases As.inB f.due 0 f.decl
 ·exact .inr (.inl ⟨rfl,rfl,rfl⟩)
 cases As.inB f.season (-1) 1
 ·exact .inr (.inr (.inl ⟨rfl,rfl,rfl,rfl⟩))
 cases As.seenB f.kind f.area f.border
 ·exact .inr (.inr (.inr (.inl ⟨rfl,rfl,rfl,rfl,rfl⟩)))
 right;right;right;right
 simp only[Bool.and_self,Bool.true_eq_false,if_false];have hw:As.inB width 0 200=true↔0≤width∧width≤200:=by unfold As.inB;simp
 cases h:As.inB width 0 200
 ·left
  refine⟨trivial,trivial,trivial,trivial,rfl,?_⟩
  rw[if_pos];have:¬(0≤width∧width≤200):=fun x=>by rw[hw.2 x]at h;cases h
  omega
 ·right
  have:=hw.1 h;exact⟨trivial,trivial,trivial,trivial,rfl,by rw[if_neg (by omega)]⟩
theorem uD (d u s k a b width:Int)(w:World):Calls Tryz.prog 129 #[.agg #[I O d,I O u,I O s,I O k,I O a,I O b],I O width] w fun e w' => e = .returned (I O (As.chk28 ⟨d,u,s,k,a,b⟩ width))∧Below w.heap.size w w' :=by
 have HA:=mh (qK mle (brf w.heap.size w) (.cells #[I O d,I O u,I O s,I O k,I O a,I O b] 126));have I1:=mh (fun (W:World)=>vT d 0 268435456 W);have I2:=mh (fun (W:World)=>vT u 0 d W);have I3:=mh (fun (W:World)=>vT s (-1) 1 W);have I4:=mh (fun (W:World)=>vT width 0 200 W);have SN:=mh (fun (W:World)=>zPA k a b W)
 rcases As.chk28_cases ⟨d,u,s,k,a,b⟩ width with⟨h1,h⟩|⟨h1,h2,h⟩|⟨h1,h2,h3,h⟩|⟨h1,h2,h3,h4,h⟩|⟨h1,h2,h3,h4,h5,h⟩|⟨h1,h2,h3,h4,h5,h⟩<;>simp only at h1
 all_goals
  rw[h];rw[h1]at I1
  try (simp only at h2;rw[h2]at I2)
  try (simp only at h3;rw[h3]at I3)
  try (simp only at h4;rw[h4]at SN)
  try (simp only at h5;rw[h5]at I4)
  clear h
  go_enter Tryz.func129,Tryz.ntmps129
  go_wp2_with (first|(go_at_call 172;(with_reducible refine cmo (I1.out _) ?_);rintro e w1 ⟨rfl,rfl⟩)|(go_at_call 172;(with_reducible refine cmo (I2.out _) ?_);rintro e w1 ⟨rfl,rfl⟩)|(go_at_call 172;(with_reducible refine cmo (I3.out _) ?_);rintro e w1 ⟨rfl,rfl⟩)|(go_at_call 172;(with_reducible refine cmo (I4.out _) ?_);rintro e w1 ⟨rfl,rfl⟩)|(go_at_call 173;(with_reducible refine cmo (SN.out _) ?_);rintro e w2 ⟨rfl,hb2⟩;have HB2:=mh (qZ mle HA hb2);clear hb2))
  go_ret
  first|exact⟨rfl,HA.out⟩|exact⟨rfl,HB2.out⟩
def uGA (w:World) (T:TypeId) (b:Nat) (cur:Array Value):Prop:=w.heap[b]?=some (.cells cur T (0,0))
variable {α:Type} {S:jJ α}
theorem qX.of_block {w:World}{T:TypeId}{B g cap:Nat}{cur:Array Value}{L:List α}(hb:uGA w T g cur)(hB:B≤g)(hl:L.length≤cap)(hm:cap≤maxLen)(hs:cur.size=cap*S.k)(ht:cur.toList.take (L.length*S.k)=S.flat L):qX S w T B (.slice (some ⟨g,0,none⟩) L.length cap) L :=
 ⟨S.flat_len L,.inr ⟨g,cap,cur,rfl,hB,hb,hl,hm,hs,ht⟩⟩
end Go.Proofs.YtefcalgjnkigjaaGreat
namespace Go.Proofs.YtefcalgjnkigjaaGreat
open Go.RowKit Sc
theorem kBA:(Tryz.prog.info? 235).map (fun i=>(i.zero,i.size,i.bytes))=some (some (.agg #[I O 0,I O 0]),2,16):=by kernel_rfl
theorem mX:fP SBk Tryz.prog 235 231 16:=by
 obtain⟨i0,h1,h2,h3,h4⟩:=info_parts kBA;exact⟨⟨i0,_,h1,h2,h3,h4,rfl⟩,Tryz.underlying231⟩
theorem qX.litB {α:Type}{S:jJ α}(w:World)(T:TypeId)(L:List α)(hl:L.length≤maxLen):qX S (w.alloc (.cells (S.flat L).toArray T)) T w.heap.size (.slice (some ⟨w.heap.size,0,none⟩) L.length L.length) L :=
 qX.of_block (cur:=(S.flat L).toArray) (World.alloc_heap_new _ _) mle mle hl (by simp[S.flat_len]) (by rw[List.take_of_length_le (by simp[S.flat_len])])
def As.limT (o:Option (Int × Int)):List Brk:=match o with|some (r,a) => [⟨r,a⟩]|none => []
def As.limD (f:As.Fct) (width:Int):List Brk:=⟨1,f.due⟩::As.limT (As.lim f width)
def As.LimG (D:List Brk) (w:World) (e:Ending) (w' : World):Prop:=∃p c,e = .returned (.tuple #[.slice p D.length c,I O 0])∧qD SBk w' p D∧Below w.heap.size w w'
theorem As.LimG.row {w w1:World}{v:Value}{D:List Brk}(h:qX SBk w1 235 w.heap.size v D)(hb:Below w.heap.size w w1):As.LimG D w (.returned (.tuple #[v,I O 0])) w1:=by
 obtain⟨p,c,rfl, -, -, -, -,hr⟩:=h.cut rfl;exact⟨p,c,rfl,hr,hb⟩
theorem jLA (d u:Int)(a b width:Int)(w:World):Calls Tryz.prog 180 #[.agg #[I O d,I O u,I O (-1),I O 0,I O a,I O b],I O width] w (As.LimG [⟨1,u⟩,⟨2,0⟩] w):=by
 have HA:=mh (qK mle (brf w.heap.size w) (.cells #[I O d,I O u,I O (-1),I O 0,I O a,I O b] 126))
 have HL:=mh (show qX SBk ((w.alloc (.cells #[I O d,I O u,I O (-1),I O 0,I O a,I O b] 126)).alloc (.cells #[I O 1,I O u] 235)) 235 w.heap.size (.slice (some ⟨w.heap.size+1,0,none⟩) 1 1) [⟨1,u⟩] from by
  have h:=qX.litB (S:=SBk) (w.alloc (.cells #[I O d,I O u,I O (-1),I O 0,I O a,I O b] 126)) 235 [⟨1,u⟩] (by unfold maxLen;simp);rw[World.size_alloc]at h
  exact qX.mono h (by omega))
 have HB:=mh (qK mle HA (.cells #[I O 1,I O u] 235));have HS:=mh (show w.heap.size≤((w.alloc (.cells #[I O d,I O u,I O (-1),I O 0,I O a,I O b] 126)).alloc (.cells #[I O 1,I O u] 235)).heap.size by simp<;>omega)
 go_enter Tryz.func180,Tryz.ntmps180
 go_wp2_with (first|(at_builtin;(refine qX.append mX rfl (.tmp 21) (.tmp 23) rfl w.heap.size _ [⟨1,u⟩] ⟨2,0⟩ #[I O 2,I O 0] rfl HL rfl (by simp[Act.eval]) HS (by simp) (by decide) ?_);intro v5 w5 hO5 hap5;have HO5:=mh hO5;have HB5:=mh (HB.trans hap5.below);clear hO5 hap5)|fail)
 go_ret2
 exact As.LimG.row HO5 HB5.out
theorem aE (d u:Int)(s:Int)(a b width:Int)(w:World):Calls Tryz.prog 180 #[.agg #[I O d,I O u,I O s,I O 4,I O a,I O b],I O width] w (As.LimG [⟨1,u⟩,⟨3,0⟩] w):=by
 have HA:=mh (qK mle (brf w.heap.size w) (.cells #[I O d,I O u,I O s,I O 4,I O a,I O b] 126))
 have HL:=mh (show qX SBk ((w.alloc (.cells #[I O d,I O u,I O s,I O 4,I O a,I O b] 126)).alloc (.cells #[I O 1,I O u] 235)) 235 w.heap.size (.slice (some ⟨w.heap.size+1,0,none⟩) 1 1) [⟨1,u⟩] from by
  have h:=qX.litB (S:=SBk) (w.alloc (.cells #[I O d,I O u,I O s,I O 4,I O a,I O b] 126)) 235 [⟨1,u⟩] (by unfold maxLen;simp);rw[World.size_alloc]at h
  exact qX.mono h (by omega))
 have HB:=mh (qK mle HA (.cells #[I O 1,I O u] 235));have HS:=mh (show w.heap.size≤((w.alloc (.cells #[I O d,I O u,I O s,I O 4,I O a,I O b] 126)).alloc (.cells #[I O 1,I O u] 235)).heap.size by simp<;>omega)
 go_enter Tryz.func180,Tryz.ntmps180
 go_wp2_with (first|(at_builtin;(refine qX.append mX rfl (.tmp 27) (.tmp 29) rfl w.heap.size _ [⟨1,u⟩] ⟨3,0⟩ #[I O 3,I O 0] rfl HL rfl (by simp[Act.eval]) HS (by simp) (by decide) ?_);intro v5 w5 hO5 hap5;have HO5:=mh hO5;have HB5:=mh (HB.trans hap5.below);clear hO5 hap5)|fail)
 go_ret2
 exact As.LimG.row HO5 HB5.out
theorem aA (d u:Int)(s:Int)(a b width:Int)(w:World):Calls Tryz.prog 180 #[.agg #[I O d,I O u,I O s,I O 3,I O a,I O b],I O width] w (As.LimG [⟨1,u⟩,⟨4,0⟩] w):=by
 have HA:=mh (qK mle (brf w.heap.size w) (.cells #[I O d,I O u,I O s,I O 3,I O a,I O b] 126))
 have HL:=mh (show qX SBk ((w.alloc (.cells #[I O d,I O u,I O s,I O 3,I O a,I O b] 126)).alloc (.cells #[I O 1,I O u] 235)) 235 w.heap.size (.slice (some ⟨w.heap.size+1,0,none⟩) 1 1) [⟨1,u⟩] from by
  have h:=qX.litB (S:=SBk) (w.alloc (.cells #[I O d,I O u,I O s,I O 3,I O a,I O b] 126)) 235 [⟨1,u⟩] (by unfold maxLen;simp);rw[World.size_alloc]at h
  exact qX.mono h (by omega))
 have HB:=mh (qK mle HA (.cells #[I O 1,I O u] 235));have HS:=mh (show w.heap.size≤((w.alloc (.cells #[I O d,I O u,I O s,I O 3,I O a,I O b] 126)).alloc (.cells #[I O 1,I O u] 235)).heap.size by simp<;>omega)
 go_enter Tryz.func180,Tryz.ntmps180
 go_wp2_with (first|(at_builtin;(refine qX.append mX rfl (.tmp 33) (.tmp 35) rfl w.heap.size _ [⟨1,u⟩] ⟨4,0⟩ #[I O 4,I O 0] rfl HL rfl (by simp[Act.eval]) HS (by simp) (by decide) ?_);intro v5 w5 hO5 hap5;have HO5:=mh hO5;have HB5:=mh (HB.trans hap5.below);clear hO5 hap5)|fail)
 go_ret2
 exact As.LimG.row HO5 HB5.out
theorem gFA (d u:Int)(s:Int)(a b width:Int)(w:World):Calls Tryz.prog 180 #[.agg #[I O d,I O u,I O s,I O 2,I O a,I O b],I O width] w (As.LimG [⟨1,u⟩,⟨5,0⟩] w):=by
 have HA:=mh (qK mle (brf w.heap.size w) (.cells #[I O d,I O u,I O s,I O 2,I O a,I O b] 126))
 have HL:=mh (show qX SBk ((w.alloc (.cells #[I O d,I O u,I O s,I O 2,I O a,I O b] 126)).alloc (.cells #[I O 1,I O u] 235)) 235 w.heap.size (.slice (some ⟨w.heap.size+1,0,none⟩) 1 1) [⟨1,u⟩] from by
  have h:=qX.litB (S:=SBk) (w.alloc (.cells #[I O d,I O u,I O s,I O 2,I O a,I O b] 126)) 235 [⟨1,u⟩] (by unfold maxLen;simp);rw[World.size_alloc]at h
  exact qX.mono h (by omega))
 have HB:=mh (qK mle HA (.cells #[I O 1,I O u] 235));have HS:=mh (show w.heap.size≤((w.alloc (.cells #[I O d,I O u,I O s,I O 2,I O a,I O b] 126)).alloc (.cells #[I O 1,I O u] 235)).heap.size by simp<;>omega)
 go_enter Tryz.func180,Tryz.ntmps180
 go_wp2_with (first|(at_builtin;(refine qX.append mX rfl (.tmp 39) (.tmp 41) rfl w.heap.size _ [⟨1,u⟩] ⟨5,0⟩ #[I O 5,I O 0] rfl HL rfl (by simp[Act.eval]) HS (by simp) (by decide) ?_);intro v5 w5 hO5 hap5;have HO5:=mh hO5;have HB5:=mh (HB.trans hap5.below);clear hO5 hap5)|fail)
 go_ret2
 exact As.LimG.row HO5 HB5.out
theorem gNA (d u s:Int)(a b width:Int)(w:World)(hs:s ≠ -1):Calls Tryz.prog 180 #[.agg #[I O d,I O u,I O s,I O 0,I O a,I O b],I O width] w (As.LimG [⟨1,u⟩] w):=by
 have HA:=mh (qK mle (brf w.heap.size w) (.cells #[I O d,I O u,I O s,I O 0,I O a,I O b] 126))
 have HL:=mh (show qX SBk ((w.alloc (.cells #[I O d,I O u,I O s,I O 0,I O a,I O b] 126)).alloc (.cells #[I O 1,I O u] 235)) 235 w.heap.size (.slice (some ⟨w.heap.size+1,0,none⟩) 1 1) [⟨1,u⟩] from by
  have h:=qX.litB (S:=SBk) (w.alloc (.cells #[I O d,I O u,I O s,I O 0,I O a,I O b] 126)) 235 [⟨1,u⟩] (by unfold maxLen;simp);rw[World.size_alloc]at h
  exact qX.mono h (by omega))
 have HB:=mh (qK mle HA (.cells #[I O 1,I O u] 235));have HS:=mh (show w.heap.size≤((w.alloc (.cells #[I O d,I O u,I O s,I O 0,I O a,I O b] 126)).alloc (.cells #[I O 1,I O u] 235)).heap.size by simp<;>omega)
 go_enter Tryz.func180,Tryz.ntmps180
 go_wp2_with (fail)
 go_ret2
 exact As.LimG.row HL HB.out
theorem gHA (d u s:Int)(a b width:Int)(w:World)(hm:As.measB a b=true)(w0:0≤width)(w1:width≤200)(c0:0≤d)(c1:d≤268435456):Calls Tryz.prog 180 #[.agg #[I O d,I O u,I O s,I O 1,I O a,I O b],I O width] w (As.LimG [⟨1,u⟩,⟨6,As.accept d a b width⟩] w):=by
 have AC:=mh (fun (W:World)=>lZ d a b width W hm w0 w1 c0 c1);obtain⟨V,eV⟩:∃V,As.accept d a b width=V:=⟨_,rfl⟩;rw[eV]at AC ⊢;clear eV hm w0 w1 c0 c1;have HA:=mh (qK mle (brf w.heap.size w) (.cells #[I O d,I O u,I O s,I O 1,I O a,I O b] 126))
 have HL:=mh (show qX SBk ((w.alloc (.cells #[I O d,I O u,I O s,I O 1,I O a,I O b] 126)).alloc (.cells #[I O 1,I O u] 235)) 235 w.heap.size (.slice (some ⟨w.heap.size+1,0,none⟩) 1 1) [⟨1,u⟩] from by
  have h:=qX.litB (S:=SBk) (w.alloc (.cells #[I O d,I O u,I O s,I O 1,I O a,I O b] 126)) 235 [⟨1,u⟩] (by unfold maxLen;simp);rw[World.size_alloc]at h
  exact qX.mono h (by omega))
 have HB:=mh (qK mle HA (.cells #[I O 1,I O u] 235));have HS:=mh (show w.heap.size≤((w.alloc (.cells #[I O d,I O u,I O s,I O 1,I O a,I O b] 126)).alloc (.cells #[I O 1,I O u] 235)).heap.size by simp<;>omega)
 go_enter Tryz.func180,Tryz.ntmps180
 go_wp2_with (first
  | (go_at_call 211;(with_reducible refine cmo (AC.out _) ?_);rintro e w3 ⟨rfl,hb3⟩;have HL3:=mh (qX.below HL hb3);have HB3:=mh (qZ mle HB hb3);have HS3:=mh HB3.size;clear hb3)
  | (at_builtin;(refine qX.append mX rfl (.tmp 58) (.tmp 61) rfl w.heap.size _ [⟨1,u⟩] ⟨6,V⟩ #[I O 6,I O V] rfl HL3 rfl rfl HS3 (by simp) (by decide) ?_);intro v5 w5 hO5 hap5;have HO5:=mh hO5;have HB5:=mh (HB3.trans hap5.below);clear hO5 hap5)
  | fail)
 go_ret2
 exact As.LimG.row HO5 HB5.out
theorem rY (f:As.Fct)(width:Int)(w:World)(h:As.FactOk f)(w0:0≤width)(w1:width≤200) :
  Calls Tryz.prog 180 #[.agg #[I O f.decl,I O f.due,I O f.season,I O f.kind,I O f.area,I O f.border],I O width] w (As.LimG (As.limD f width) w):=by
 have k0:=h.k0;have k1:=h.k1;have d0:=h.d0;have d1:=h.d1;have hm:f.kind=1→As.measB f.area f.border=true:=fun _=>As.measB_iff.2 ⟨h.a0,h.a1,h.b0,h.b1⟩
 clear h;obtain⟨d,u,s,k,a,b⟩:=f;simp only at k0 k1 d0 d1 hm ⊢
 rcases (show k=0∨k=1∨k=2∨k=3∨k=4 by omega) with rfl|rfl|rfl|rfl|rfl
 ·by_cases hs:s = -1
  ·subst hs
   exact jLA d u a b width w
  ·have e:As.limD ⟨d,u,s,0,a,b⟩ width = [⟨1,u⟩]:=by simp[As.limD,As.limT,As.lim,hs]
   rw[e];exact gNA d u s a b width w hs
 ·exact gHA d u s a b width w (hm rfl) w0 w1 d0 d1
 ·exact gFA d u s a b width w
 ·exact aA d u s a b width w
 ·exact aE d u s a b width w
def As.pick (d:Int) (L:List Brk):Nat→Int × Int
 | 0=>(d,0)
 | k+1=>match L[k]? with
   | some b=>if b.rate<(As.pick d L k).1 then (b.rate,b.up) else As.pick d L k
   | none=>As.pick d L k
theorem As.pick_succ {d:Int}{L:List Brk}{k:Nat}(hk:k<L.length):As.pick d L (k+1)=if L[k].rate<(As.pick d L k).1 then (L[k].rate,L[k].up) else As.pick d L k:=by
 show(match L[k]? with|some b=>if b.rate<(As.pick d L k).1 then (b.rate,b.up) else As.pick d L k|none=>As.pick d L k)=_
 rw[List.getElem?_eq_getElem hk]
theorem As.pick_det (f:As.Fct)(width:Int):As.pick f.decl (As.limD f width) (As.limD f width).length=As.det f width:=by
 unfold As.limD As.det As.det1
 cases h:As.lim f width with
 | none=>simp[As.limT,As.pick];rfl
 | some x=>obtain⟨r,a⟩:=x;simp[As.limT,As.pick];rfl
def As.detV (f:As.Fct) (width:Int):Int × Int:=if As.chk28 f width=0 then As.det f width else (0,0)
def As.DetG (v:Int × Int) (er:Int) (w:World) (e:Ending) (w' : World):Prop:=e = .returned (.tuple #[I O v.1,I O v.2,I O er])∧Below w.heap.size w w'
theorem jAA (f:As.Fct)(width:Int)(w:World) :
  Calls Tryz.prog 141 #[.agg #[I O f.decl,I O f.due,I O f.season,I O f.kind,I O f.area,I O f.border],I O width] w (As.DetG (As.detV f width) (As.chk28 f width) w):=by
 by_cases hc:As.chk28 f width=0
 rotate_left
 ·have EV:=mh (show As.detV f width=(0,0) from by unfold As.detV;rw[if_neg hc])
  obtain⟨V,eV⟩:∃V,As.detV f width=V:=⟨_,rfl⟩;rw[eV]at EV ⊢;clear eV;obtain⟨d,u,s,k,a,b⟩:=f;have CK:=mh (fun (W:World)=>uD d u s k a b width W);have HA:=mh (qK mle (brf w.heap.size w) (.cells #[I O d,I O u,I O s,I O k,I O a,I O b] 126));obtain⟨v,ev⟩:∃v,As.chk28 ⟨d,u,s,k,a,b⟩ width=v:=⟨_,rfl⟩;rw[ev]at CK hc ⊢;clear ev;have hne:(v != 0)=true:=by simpa using hc
  clear hc
  go_enter Tryz.func141,Tryz.ntmps141
  go_wp2_with (go_at_call 129;(with_reducible refine cmo (CK.out _) ?_);rintro e w1 ⟨rfl,hb1⟩;have HB1:=mh (qZ mle HA hb1);have C0:=qJ hb1 0;have C1:=qJ hb1 1;have C2:=qJ hb1 2;have C3:=qJ hb1 3;have C4:=qJ hb1 4;have C5:=qJ hb1 5;have S1:=mh (show w.heap.size<w1.heap.size from nll (by simp) hb1.size);clear hb1)
  go_ret3
  exact⟨by rw[EV.out];rfl,HB1.out⟩
 ·obtain⟨hf,w0,w1⟩:=As.chk28_zero hc
  have EV:=mh (show As.detV f width=As.pick f.decl (As.limD f width) (As.limD f width).length from by unfold As.detV;rw[if_pos hc,As.pick_det]);have LM:=mh (fun (W:World)=>rY f width W hf w0 w1);obtain⟨D,eD⟩:∃D,As.limD f width=D:=⟨_,rfl⟩;obtain⟨V,eV⟩:∃V,As.detV f width=V:=⟨_,rfl⟩;rw[eD]at LM EV;rw[eV]at EV ⊢;clear eD eV hf w0 w1;rw[hc];obtain⟨d,u,s,k,a,b⟩:=f;have CK:=mh (fun (W:World)=>uD d u s k a b width W);rw[hc]at CK;clear hc;simp only at LM EV;have HA:=mh (qK mle (brf w.heap.size w) (.cells #[I O d,I O u,I O s,I O k,I O a,I O b] 126))
  go_enter Tryz.func141,Tryz.ntmps141
  go_wp2_with (first|(go_at_call 129;(with_reducible refine cmo (CK.out _) ?_);rintro e w1 ⟨rfl,hb1⟩;have HB1:=mh (qZ mle HA hb1);have C0:=qJ hb1 0;have C1:=qJ hb1 1;have C2:=qJ hb1 2;have C3:=qJ hb1 3;have C4:=qJ hb1 4;have C5:=qJ hb1 5;have S1:=mh (show w.heap.size<w1.heap.size from nll (by simp) hb1.size);clear hb1)|(go_at_call 180;(with_reducible refine cmo (LM.out _) ?_);rintro e w2 ⟨p,c,rfl,hr2,hb2⟩;have HR:=mh hr2;have HB2:=mh (qZ mle HB1 hb2);have D0:=(hb2.cell (p:=⟨w.heap.size,0,none⟩) S1).trans C0;clear hb2 hr2 C0 C1 C2 C3 C4 C5)|fail)
  have hlen:=HR.len
  go_loopw [10,11,33] (fun x y i wr=>∃j:Nat,j≤D.length∧i=I O j∧x=I O (As.pick d D j).1∧y=I O (As.pick d D j).2∧Below w2.heap.size w2 wr) (fun _ _ i _=>D.length - (intOf i).toNat)
  case atStart=>exact⟨0,Nat.zero_le _,rfl,rfl,rfl,brf _ _⟩
  case round =>
   obtain⟨wo,rfl⟩:∃wo:World,wo=wr:=⟨_,rfl⟩;obtain⟨j,hj,rfl,rfl,rfl,hb⟩:=hrel;have HB:=mh hb;have hj0:(0:Int)≤(j:Int):=inn _
   by_cases hlt:j<D.length
   ·have hj1:(j:Int)<(D.length:Int):=by omega
    obtain⟨bb,off,x,rfl,hbl,x0,x1,hx⟩:=dH (HR.below hb) hlt;have PS:=As.pick_succ (d:=d) hlt;rw[hx.out]at PS;obtain⟨up,rate⟩:=x;simp only at x0 x1 PS;obtain⟨A,eA⟩:∃A,(As.pick d D j).1=A:=⟨_,rfl⟩;obtain⟨R,eR⟩:∃R,(As.pick d D j).2=R:=⟨_,rfl⟩;have HBJ:=mh (qK mle hb (.cells #[I O up,I O rate] 235))
    by_cases hcmp:rate<A
    ·have P:=mh (show As.pick d D (j+1)=(rate,up) from by rw[PS,eA,if_pos hcmp])
     rw[eA,eR];clear hb hx PS eA eR
     go_wp2
     go_quiet (fail)
     go_wp2
     go_roundw
     case rel=>exact⟨j+1,by omega,by go_num,by rw[P.out],by rw[P.out],qH HBJ HBJ.size (qQ _ _)⟩
     case measure=>simp[intOf];omega
    ·have P:=mh (show As.pick d D (j+1)=As.pick d D j from by rw[PS,eA,if_neg hcmp])
     have PA:=mh eA;have PR:=mh eR;rw[eA,eR];clear hb hx PS eA eR
     go_wp2
     go_roundw
     case rel=>exact⟨j+1,by omega,by go_num,by rw[P.out,PA.out],by rw[P.out,PR.out],HBJ.out⟩
     case measure=>simp[intOf];omega
   ·obtain rfl:j=D.length:=by omega
    have HB3:=mh (qZ mle HB2 hb);clear hb
    go_wp2
    go_ret3
    exact⟨by rw[EV.out];rfl,HB3.out⟩
structure Cnt (w wr:World) (B:Nat) (e u:Int) (l:List Int) (v:Value):Prop where
 below:Below B w wr
 own:Own wr 3 (B+1+1) v (En.units u l)
 a0:wr.cell? ⟨B,0,none⟩=some (I O 0)
 a1:wr.cell? ⟨B,1,none⟩=some (.slice none 0 0)
 a2:wr.cell? ⟨B,2,none⟩=some (I O 0)
 af0:wr.frozen? ⟨B,0,none⟩=false
 af1:wr.frozen? ⟨B,1,none⟩=false
 af2:wr.frozen? ⟨B,2,none⟩=false
 b0:wr.cell? ⟨B+1,0,none⟩=some (I O (e / u))
 b1:wr.cell? ⟨B+1,1,none⟩=some v
 b2:wr.cell? ⟨B+1,2,none⟩=some (I O (En.usum u l))
 bf1:wr.frozen? ⟨B+1,1,none⟩=false
 bf2:wr.frozen? ⟨B+1,2,none⟩=false
 lt:B+1<wr.heap.size
theorem Own.ints_at {w:World}{T:TypeId}{B:Nat}{p:Option Addr}{n c:Nat}{xs:List Int}(h:Own w T B (.slice p n c) xs):qR w p xs:=by
 obtain⟨p', c', e,hI⟩:=h.ints
 cases e
 exact hI
theorem Cnt.step {w wr w1:World}{B:Nat}{e u x:Int}{l:List Int}{v v1:Value}{o:Obj}(h:Cnt w wr B e u l v)(hb:Below (B+1+1) (((wr.setCell ⟨B+1,2,none⟩ (I O (En.usum u l+x / u))).alloc o).drew.drew) w1)
  (hown:Own w1 3 (B+1+1) v1 (En.units u l ++ [x / u])):Cnt w (w1.setCell ⟨B+1,1,none⟩ v1) B e u (l ++ [x]) v1:=by
 have lt:=h.lt;have k1:=h.b1;have k2:=h.b2;have cB:∀i,w1.cell? ⟨B,i,none⟩=wr.cell? ⟨B,i,none⟩:=fun i=>(hb.cell (p:=⟨B,i,none⟩) (by simp;omega)).trans (((brf wr.heap.size _).alloc (by simp) o).cell (p:=⟨B,i,none⟩) (by simp;omega) |>.trans (by go_simp))
 have fB:∀i,w1.frozen? ⟨B,i,none⟩=wr.frozen? ⟨B,i,none⟩:=fun i=>(hb.frozen (p:=⟨B,i,none⟩) (by simp;omega)).trans (((brf wr.heap.size _).alloc (by simp) o).frozen (p:=⟨B,i,none⟩) (by simp;omega) |>.trans (by go_simp))
 have c0:w1.cell? ⟨B+1,0,none⟩=wr.cell? ⟨B+1,0,none⟩:=(hb.cell (p:=⟨B+1,0,none⟩) (by simp)).trans (((brf wr.heap.size _).alloc (by simp) o).cell (p:=⟨B+1,0,none⟩) (by simp;omega) |>.trans (by go_simp));have c1:w1.cell? ⟨B+1,1,none⟩=wr.cell? ⟨B+1,1,none⟩:=(hb.cell (p:=⟨B+1,1,none⟩) (by simp)).trans (((brf wr.heap.size _).alloc (by simp) o).cell (p:=⟨B+1,1,none⟩) (by simp;omega) |>.trans (by go_simp));have c2:w1.cell? ⟨B+1,2,none⟩=some (I O (En.usum u l+x / u)):=(hb.cell (p:=⟨B+1,2,none⟩) (by simp)).trans (((brf wr.heap.size _).alloc (by simp) o).cell (p:=⟨B+1,2,none⟩) (by simp;omega) |>.trans (by go_simp));have f1:∀i,w1.frozen? ⟨B+1,i,none⟩=wr.frozen? ⟨B+1,i,none⟩:=fun i=>(hb.frozen (p:=⟨B+1,i,none⟩) (by simp)).trans (((brf wr.heap.size _).alloc (by simp) o).frozen (p:=⟨B+1,i,none⟩) (by simp;omega) |>.trans (by go_simp))
 have hsz:=hb.size;simp only[World.size_drew,World.size_alloc,World.size_setCell]at hsz;refine⟨?_,?_,?_,?_,?_,?_,?_,?_,?_,?_,?_,?_,?_,?_⟩
 ·exact((((h.below.setCell (p:=⟨B+1,2,none⟩) (by simp) _).alloc (by simp;omega) o).drew.drew).trans (hb.mono (by omega))).setCell (by simp) _
 ·have:=ownsRow_setCell_below hown (a:=⟨B+1,1,none⟩) (by simp) v1
  rw[En.units_snoc];exact this
 ·first|(go_simp;done)|(go_simp;exact h.a0)
 ·first|(go_simp;done)|(go_simp;exact h.a1)
 ·first|(go_simp;done)|(go_simp;exact h.a2)
 ·first|(go_simp;done)|(go_simp;exact h.af0)
 ·first|(go_simp;done)|(go_simp;exact h.af1)
 ·first|(go_simp;done)|(go_simp;exact h.af2)
 ·first|(go_simp;done)|(go_simp;exact h.b0)
 ·have e1:=c1.trans k1
  go_simp
 ·rw[En.usum_snoc]
  first|(go_simp;done)|(go_simp;exact c2)
 ·first|(go_simp;done)|(go_simp;exact h.bf1)
 ·first|(go_simp;done)|(go_simp;exact h.bf2)
 ·simp;omega
theorem Own.step {P:Program}{T TS:TypeId}{i0:TypeInfo}(hi:P.info? T=some i0)(hz0:i0.zero=some (I O 0))(hz1:i0.size=1)(hz2:i0.bytes=8)(ht:P.underlying TS=some (.slice T)){w:World}{ops:Array Oper}{o:Oper}{a:Act}{K:Act→World→Prop}{Q:Exit→Act→World→Prop}{E:Prop}(hgd:o.guard=none)(s x:Operand)
  (ho:o.op = .call { callee := .builtin .append,args:=#[s,x],argTypes:=#[TS,TS] }) (B:Nat) (v:Value) (xs:List Int) (y:Int) (g:Nat) (hown:Own w T B v xs) (hs:a.eval s=v)
  (hx:a.eval x = .slice (some ⟨g,0,none⟩) 1 1) (hc:w.cell? ⟨g,0,none⟩=some (I O y)) (hB:B≤w.heap.size) (hn:xs.length<1099511627776)
  (h:∀v' w', Own w' T B v' (xs ++ [y])→Below B w w' → K (a.put o.dst v') w') :
  if Region.wanted o (yielded ops a.tmps)=true then Oper.wp P o a w K Q else E:=by
 refine step_append_lies _ hgd s x TS ho B T i0 (I O 0) 1 8 ht hi hz0 hz1 hz2 rfl (by decide) v xs.length (xs.map (Value.int .i64)) hs hown ⟨g,0,none⟩ 1 1 [I O y] hx rfl (fun j u hu=>?_) (by simp[Value.oneCell']) (by omega) (by unfold maxLen;omega) (by omega) hB _ rfl ?_
 ·match j,hu with
  | 0,hu=>simp at hu;subst hu;exact hc
 intro g cap w' h1 h2 _ _;refine h _ w' ?_ ?_
 ·unfold Own
  rw[lap,List.map_append];exact h1
 ·refine((brf B w).grown h2 hB fun k hk=>?_)
  exact(World.ownsRow.lt hown k hk).1
theorem jYA (e u:Int)(p:Option Addr)(l:List Int)(cap:Nat)(w:World)(h:qR w p l)(hg:En.Good e u l) :
  Calls Tryz.prog 94 #[I O e,I O u,.slice p l.length cap] w fun en w' => ∃q c,en = .returned (.tuple #[.agg #[I O (e / u),.slice q l.length c,I O (En.usum u l)],I O 0])∧qR w' q (En.units u l)∧Below w.heap.size w w' :=by
 have H:=mh h;have G:=mh hg;have e0:=hg.e0;have e1:=hg.e1;have u0:=hg.u0;have u1:=hg.u1;have hl:=hg.len;have q0:0≤e / u:=Int.ediv_nonneg e0 (by omega);have q1:e / u≤68719476736:=by have:=Int.ediv_le_self u e0;omega
 have hu0:¬u=0:=by omega
 clear h hg
 go_enter Tryz.func94,Tryz.ntmps94
 go_wp2
 have hst:Cnt w ((w.alloc (Obj.cells #[I O 0,.slice none 0 0,I O 0] 160)).alloc (Obj.cells #[I O (e / u),.slice none 0 0,I O 0] 160)) w.heap.size e u [] (.slice none 0 0) :=
  ⟨by go_grown,Own.nil _ _ _,by go_simp,by go_simp,by go_simp,by go_simp,by go_simp,by go_simp,by go_simp,by go_simp,(by show _=some (Value.int .i64 0);go_simp),by go_simp,by go_simp,by simp⟩
 have HST:=mh hst;clear hst;obtain⟨i0,hi,hz0,hz1,hz2⟩:=info_parts yS;have HI:=mh (And.intro hi (And.intro hz0 (And.intro hz1 hz2)));clear hi hz0 hz1 hz2
 go_loopw [39,9] (fun i s wr=>∃(k:Nat) (v:Value),k≤l.length∧i=I O k∧s=I O (Sh.sum (l.take k))∧Cnt w wr w.heap.size e u (l.take k) v) (fun i _ _=>l.length - (intOf i).toNat)
 case atStart=>exact⟨0,_,Nat.zero_le _,rfl,by simp[Sh.sum],HST.out⟩
 case round =>
  clear HST;obtain⟨k,v,hk,rfl,rfl,hC⟩:=hrel;have HC:=mh hC;have hs0:=G.sum k;have hus:=G.usum k
  by_cases hlt:k<l.length
  ·obtain⟨b,off,x,rfl,hbl,hcell0,hx⟩:=H.get hlt
   have hcell:wr.cell? ⟨b,off+k,none⟩=some (I O x):=(hC.below.cell (p:=⟨b,off+k,none⟩) hbl).trans hcell0;have hs1:=G.sum (k+1);have hus1:=G.usum (k+1);have hst:=mh (En.take_snoc hlt);rw[hst.out,hx.out,Sh.sum_snoc]at hs1;rw[hst.out,hx.out,En.usum_snoc]at hus1;have hxb:0≤x∧x≤68719476736:=by
    rw[← hx.out,List.getD_eq_getElem?_getD,List.getElem?_eq_getElem hlt];exact G.all _ (List.getElem_mem hlt)
   have c1:=hC.b1;have c2:=hC.b2;have c3:=hC.bf1;have c4:=hC.bf2;clear hC hcell0;have x0:0≤x / u:=Int.ediv_nonneg hxb.1 (by omega);have x1:x / u≤68719476736:=by have:=Int.ediv_le_self u hxb.1;omega
   go_wp2_with fail
   go_region
   go_wp2_with fail
   have hdq:IntKind.i64.wrap (x.tdiv u)=x / u:=by
    rw[Int.tdiv_eq_ediv_of_nonneg hxb.1];generalize x / u=y at x0 x1 ⊢;rw[IntKind.wrap_i64];omega
   have lt0:=HC.lt
   go_region_law ((refine Own.step HI.1 HI.2.1 HI.2.2.1 HI.2.2.2 Tryz.underlying22 (by rfl) (.tmp 61) (.tmp 65) (by rfl) (w.heap.size+1+1) v (En.units u (l.take k)) (x / u) wr.heap.size (World.ownsRow.drew (World.ownsRow.drew (World.ownsRow.alloc (ownsRow_setCell_below HC.own (by simp) _) _))) (by rfl) (by rfl) (by go_simp) (by have:=HC.lt;simp;omega) (by rw[En.units_len];simp;omega) ?_;intro v1 w1 hown1 hb1;obtain⟨p1,cc1,rfl,hI1⟩:=hown1.ints;clear hI1;have k1:=(hb1.cell (p:=⟨w.heap.size+1,1,none⟩) (by simp)).trans (show _=some v by first|(go_simp;done)|(go_simp;exact c1));have k2:=(hb1.frozen (p:=⟨w.heap.size+1,1,none⟩) (by simp)).trans (show _=false by first|(go_simp;done)|(go_simp;exact c3))))
   all_goals
    have hC2:=HC.step hb1 hown1;rw[← hx.out,← hst.out]at hC2;rw[hx.out]at hC2;have HC2:=mh hC2;clear hC2 hown1 hb1 HC
    go_wp2
    go_roundw
    case rel=>exact⟨k+1,_,by omega,by go_num,by rw[hst.out,hx.out,Sh.sum_snoc],by simpa using HC2.out⟩
    case measure=>simp[intOf];omega
  ·obtain rfl:k=l.length:=by omega
   rw[List.take_length]at hC hs0 hus;have c0:=hC.b0;have c1:=hC.b1;have c2:=hC.b2;have d0:=hC.a0;have d1:=hC.a1;have d2:=hC.a2;have g0:=hC.af0;have g1:=hC.af1;have g2:=hC.af2;have hbel:=hC.below;obtain⟨p1,cc1,rfl,hI1⟩:=hC.own.ints;have HO:=mh (ownsRow_setCell_below (ownsRow_setCell_below (ownsRow_setCell_below hC.own (a:=⟨w.heap.size,0,none⟩) (by simp;omega) (I O (e / u))) (a:=⟨w.heap.size,1,none⟩) (by simp;omega) (.slice p1 (En.units u l).length cc1)) (a:=⟨w.heap.size,2,none⟩) (by simp;omega) (I O (En.usum u l)));have HB1:=mh (((hbel.setCell (p:=⟨w.heap.size,0,none⟩) (by simp) (I O (e / u))).setCell (p:=⟨w.heap.size,1,none⟩) (by simp) (.slice p1 (En.units u l).length cc1)).setCell (p:=⟨w.heap.size,2,none⟩) (by simp) (I O (En.usum u l)));clear hI1 hbel hC HC hlt hk
   go_wp2
   refine bodyPost_ret (v := .tuple #[.agg #[I O (e / u),.slice p1 (En.units u l).length cc1,I O (En.usum u l)],I O 0]) ?_ rfl ⟨p1,cc1,by rw[En.units_len],Own.ints_at HO.out,HB1.out⟩
   rw[results_cell_tmp rfl];go_simp
theorem En.Good.snoc {e u x:Int}{l:List Int}(h:En.Good e u l)(hx:0≤x∧x≤68719476736)(hl:l.length<64):En.Good e u (l ++ [x]) :=
 ⟨h.e0,h.e1,h.u0,h.u1,by simp;omega,fun y hy=>by
  rcases List.mem_append.1 hy with h1|h1
  ·exact h.all y h1
  ·rw[List.mem_singleton.1 h1];exact hx⟩
theorem xZA (e u:Int)(p:Option Addr)(l:List Int)(cap:Nat)(w:World)(h:qR w p l)(hg:En.Good e u [])(hl:l.length≤64)(hbad:¬En.Good e u l) :
  Calls Tryz.prog 94 #[I O e,I O u,.slice p l.length cap] w fun en w' => en = .returned (.tuple #[.agg #[I O 0,.slice none 0 0,I O 0],I O 67])∧Below w.heap.size w w' :=by
 have H:=mh h;have G:=mh hg;have e0:=hg.e0;have e1:=hg.e1;have u0:=hg.u0;have u1:=hg.u1;have HBAD:=mh hbad;have q0:0≤e / u:=Int.ediv_nonneg e0 (by omega);have q1:e / u≤68719476736:=by have:=Int.ediv_le_self u e0;omega
 have hu0:¬u=0:=by omega
 clear h hg hbad
 go_enter Tryz.func94,Tryz.ntmps94
 go_wp2
 have hst:Cnt w ((w.alloc (Obj.cells #[I O 0,.slice none 0 0,I O 0] 160)).alloc (Obj.cells #[I O (e / u),.slice none 0 0,I O 0] 160)) w.heap.size e u [] (.slice none 0 0) :=
  ⟨by go_grown,Own.nil _ _ _,by go_simp,by go_simp,by go_simp,by go_simp,by go_simp,by go_simp,by go_simp,by go_simp,(by show _=some (Value.int .i64 0);go_simp),by go_simp,by go_simp,by simp⟩
 have HST:=mh hst;clear hst;obtain⟨i0,hi,hz0,hz1,hz2⟩:=info_parts yS;have HI:=mh (And.intro hi (And.intro hz0 (And.intro hz1 hz2)));clear hi hz0 hz1 hz2
 go_loopw [39,9] (fun i s wr=>∃(k:Nat) (v:Value),k≤l.length∧i=I O k∧s=I O (Sh.sum (l.take k))∧En.Good e u (l.take k)∧Cnt w wr w.heap.size e u (l.take k) v) (fun i _ _=>l.length - (intOf i).toNat)
 case atStart=>exact⟨0,_,Nat.zero_le _,rfl,by simp[Sh.sum],G.out,HST.out⟩
 case round =>
  clear HST;obtain⟨k,v,hk,rfl,rfl,hGk,hC⟩:=hrel;have GK:=mh hGk;clear hGk;have HC:=mh hC;have hs0:=GK.sum k;have hus:=GK.usum k;rw[List.take_take,Nat.min_self]at hs0 hus
  by_cases hlt:k<l.length
  ·obtain⟨b,off,x,rfl,hbl,hcell0,hx⟩:=H.get hlt
   have hcell:wr.cell? ⟨b,off+k,none⟩=some (I O x):=(hC.below.cell (p:=⟨b,off+k,none⟩) hbl).trans hcell0;have hst:=mh (En.take_snoc hlt)
   by_cases hxb:0≤x∧x≤68719476736
   case neg =>
    have hbel:=HC.below;have lt0:=HC.lt;have d0:=HC.a0;have d1:=HC.a1;have d2:=HC.a2;have g0:=HC.af0;have g1:=HC.af1;have g2:=HC.af2;have hxb' : x<0∨68719476736<x:=by omega
    clear hxb hC
    go_wp2
    all_goals
     refine bodyPost_ret (v := .tuple #[.agg #[I O 0,.slice none 0 0,I O 0],I O 67]) ?_ rfl ⟨rfl,by go_grown⟩
     rw[results_cell_tmp rfl];go_simp
   have hG1:En.Good e u (l.take k ++ [x]):=GK.snoc hxb (by rw[List.length_take];omega);have hs1:=hG1.sum (k+1);have hus1:=hG1.usum (k+1);have hlk:(l.take k ++ [x]).length=k+1:=by simp;omega
   rw[List.take_of_length_le (by omega),Sh.sum_snoc]at hs1;rw[List.take_of_length_le (by omega),En.usum_snoc]at hus1;have HG1:=mh hG1;clear hG1 hlk;have c1:=hC.b1;have c2:=hC.b2;have c3:=hC.bf1;have c4:=hC.bf2;clear hC hcell0;have x0:0≤x / u:=Int.ediv_nonneg hxb.1 (by omega);have x1:x / u≤68719476736:=by have:=Int.ediv_le_self u hxb.1;omega
   go_wp2_with fail
   go_region
   go_wp2_with fail
   have hdq:IntKind.i64.wrap (x.tdiv u)=x / u:=by
    rw[Int.tdiv_eq_ediv_of_nonneg hxb.1];generalize x / u=y at x0 x1 ⊢;rw[IntKind.wrap_i64];omega
   have lt0:=HC.lt
   go_region_law ((refine Own.step HI.1 HI.2.1 HI.2.2.1 HI.2.2.2 Tryz.underlying22 (by rfl) (.tmp 61) (.tmp 65) (by rfl) (w.heap.size+1+1) v (En.units u (l.take k)) (x / u) wr.heap.size (World.ownsRow.drew (World.ownsRow.drew (World.ownsRow.alloc (ownsRow_setCell_below HC.own (by simp) _) _))) (by rfl) (by rfl) (by go_simp) (by have:=HC.lt;simp;omega) (by rw[En.units_len];simp;omega) ?_;intro v1 w1 hown1 hb1;obtain⟨p1,cc1,rfl,hI1⟩:=hown1.ints;clear hI1;have k1:=(hb1.cell (p:=⟨w.heap.size+1,1,none⟩) (by simp)).trans (show _=some v by first|(go_simp;done)|(go_simp;exact c1));have k2:=(hb1.frozen (p:=⟨w.heap.size+1,1,none⟩) (by simp)).trans (show _=false by first|(go_simp;done)|(go_simp;exact c3))))
   all_goals
    have hC2:=HC.step hb1 hown1;rw[← hx.out,← hst.out]at hC2;rw[hx.out]at hC2;have HC2:=mh hC2;clear hC2 hown1 hb1 HC
    go_wp2
    go_roundw
    case rel=>exact⟨k+1,_,by omega,by go_num,by rw[hst.out,hx.out,Sh.sum_snoc],by rw[hst.out,hx.out];exact HG1.out,by simpa using HC2.out⟩
    case measure=>simp[intOf];omega
  ·exact absurd (by have:=GK.out;rwa [show k=l.length by omega,List.take_length]at this) HBAD.out
theorem xJA (e u:Int)(p:Option Addr)(l:List Int)(cap:Nat)(w:World)(h:qR w p l)(hg:En.err e u l≠0) :
  Calls Tryz.prog 94 #[I O e,I O u,.slice p l.length cap] w fun en w' => en = .returned (.tuple #[.agg #[I O 0,.slice none 0 0,I O 0],I O (En.err e u l)])∧Below w.heap.size w w' :=by
 by_cases h1:En.money e=false
 ·have h1' := En.money_not.1 h1
  have he:En.err e u l=67:=by unfold En.err;rw[if_pos h1]
  rw[he];clear hg
  go_enter Tryz.func94,Tryz.ntmps94
  go_wp2
  all_goals
   refine bodyPost_ret (v := .tuple #[.agg #[I O 0,.slice none 0 0,I O 0],I O 67]) ?_ rfl ⟨rfl,by go_grown⟩
   rw[results_cell_tmp rfl];go_simp
 have m:=En.money_iff.1 (show En.money e=true by simpa using h1)
 by_cases h2:u<1∨100000<u
 ·have he:En.err e u l=2:=by unfold En.err;rw[if_neg h1,if_pos h2]
  rw[he];clear hg
  go_enter Tryz.func94,Tryz.ntmps94
  go_wp2
  all_goals
   refine bodyPost_ret (v := .tuple #[.agg #[I O 0,.slice none 0 0,I O 0],I O 2]) ?_ rfl ⟨rfl,by go_grown⟩
   rw[results_cell_tmp rfl];go_simp
 by_cases h3:64<l.length
 ·have he:En.err e u l=1:=by unfold En.err;rw[if_neg h1,if_neg h2,if_pos h3]
  rw[he];have u0:1≤u:=by omega
  have u1:u≤100000:=by omega
  have hl:(64:Int)<(l.length:Int):=by omega
  clear hg h2
  go_enter Tryz.func94,Tryz.ntmps94
  go_wp2
  all_goals
   refine bodyPost_ret (v := .tuple #[.agg #[I O 0,.slice none 0 0,I O 0],I O 1]) ?_ rfl ⟨rfl,by go_grown⟩
   rw[results_cell_tmp rfl];go_simp
 have hb:¬En.Good e u l:=fun hG=>hg (En.err_of hG)
 have he:En.err e u l=67:=by
  unfold En.err at hg ⊢;rw[if_neg h1,if_neg h2,if_neg h3]at hg ⊢
  split at hg
  ·rw[if_pos (by assumption)]
  ·exact absurd rfl hg
 rw[he];exact xZA e u p l cap w h ⟨m.1,m.2,by omega,by omega,by simp,by simp⟩ (by omega) hb
theorem bL (q:Int)(v:Value)(s:Int)(w:World) :
  Calls Tryz.prog 95 #[.agg #[I O q,v,I O s]] w fun en w' => en = .returned (.bool (decide (q<s)))∧Below w.heap.size w w' :=by
 go_enter Tryz.func95,Tryz.ntmps95
 go_wp2
 go_ret
 exact⟨rfl,by go_grown⟩
end Go.Proofs.YtefcalgjnkigjaaGreat
