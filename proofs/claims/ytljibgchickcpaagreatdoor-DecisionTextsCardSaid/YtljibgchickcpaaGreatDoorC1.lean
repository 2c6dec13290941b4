/- Packed. -/
import Derived.Test.YtljibgchickcpaaGreatDoorC0
set_option maxHeartbeats 2000000
open Go.Value renaming int → I
open Go.IntKind renaming i64 → O
namespace Go.Proofs.YtljibgchickcpaaGreatDoor.Ex
def fits (a b:Int):Bool:=decide (-1125899906842624≤a)&&decide (a≤1125899906842624)&&decide (1≤b)&&decide (b≤1099511627776)
theorem fits_iff {a b:Int}:fits a b=true ↔ -1125899906842624≤a∧a≤1125899906842624∧1≤b∧b≤1099511627776:=by
 unfold fits;simp[and_assoc]
theorem fits_of {a b:Int}(h1 : -1125899906842624≤a)(h2:a≤1125899906842624)(h3:1≤b)(h4:b≤1099511627776):fits a b=true:=fits_iff.2 ⟨h1,h2,h3,h4⟩
def down (a b:Int):Int:=if fits a b=true then a / b else 0
def up (a b:Int):Int := - down (-a) b
theorem tdiv_floor {a b:Int}(hb:1≤b):(if a.tmod b<0 then a.tdiv b - 1 else a.tdiv b)=a / b:=by
 have h:=Int.tdiv_eq_ediv (a:=a) (b:=b);have h2:=Int.tmod_eq_emod (a:=a) (b:=b);have e1:=Int.emod_lt_of_pos a (show 0<b by omega);have e2:=Int.emod_nonneg a (show b≠0 by omega);have hs:b.sign=1:=Int.sign_eq_one_of_pos (by omega)
 by_cases hc:0≤a∨b ∣ a
 ·rw[if_pos hc]at h h2
  rw[h,h2,if_neg (by omega)];omega
 ·rw[if_neg hc]at h h2
  have:a % b≠0:=fun e=>hc (.inr (Int.dvd_of_emod_eq_zero e))
  have hn:((b.natAbs:Nat):Int)=b:=by omega
  rw[h,h2,if_pos (by omega),hs];omega
theorem tdiv_bd {a b:Int}(h:fits a b=true) : -1125899906842624≤a.tdiv b∧a.tdiv b≤1125899906842624:=by
 obtain⟨h1,h2,h3,h4⟩:=fits_iff.1 h;have:=Int.natAbs_tdiv_le_natAbs a b;omega
theorem tdiv_mul {a b:Int}(h:fits a b=true) : -1125899906842624≤a.tdiv b*b∧a.tdiv b*b≤1125899906842624∧(if a<a.tdiv b*b then a.tdiv b - 1 else a.tdiv b)=a / b:=by
 obtain⟨h1,h2,h3,h4⟩:=fits_iff.1 h;have e:=Int.tmod_add_tdiv_mul a b;have f:=tdiv_floor (a:=a) h3;refine⟨?_,?_,?_⟩
 ·by_cases ha:0≤a
  ·have:=Int.mul_nonneg (Int.tdiv_nonneg ha (show 0≤b by omega)) (show 0≤b by omega);omega
  ·have:=Int.tmod_nonneg (a := -a) b (by omega);rw[Int.neg_tmod]at this;omega
 ·by_cases ha:0≤a
  ·have:=Int.tmod_nonneg (a:=a) b ha;omega
  ·have h0:a.tdiv b≤0:=by have:=Int.tdiv_nonneg (show 0 ≤ -a by omega) (show 0≤b by omega);rw[Int.neg_tdiv]at this;omega
   have:=Int.mul_le_mul_of_nonneg_right h0 (show 0≤b by omega);omega
 ·rw[← f]
  by_cases hc:a<a.tdiv b*b
  ·rw[if_pos hc,if_pos (by omega)]
  ·rw[if_neg hc,if_neg (by omega)]
theorem down_bd (a b:Int) : -1125899906842624≤down a b∧down a b≤1125899906842624:=by
 unfold down
 split
 ·rename_i h
  obtain⟨h1,h2,h3,h4⟩:=fits_iff.1 h;refine⟨?_,?_⟩
  ·rw[Int.le_ediv_iff_mul_le (by omega)]
   have : -1125899906842624*b ≤ -1125899906842624*1:=Int.mul_le_mul_of_nonpos_left (by omega) h3;omega
  ·by_cases ha:0≤a
   ·have:=Int.ediv_le_self b ha;omega
   ·have:=Int.ediv_neg_of_neg_of_pos (show a<0 by omega) (show 0<b by omega);omega
 ·omega
end Go.Proofs.YtljibgchickcpaaGreatDoor.Ex
namespace Go.Proofs.YtljibgchickcpaaGreatDoor.As
/-! ### determined -/
structure Fct where
 decl:Int
 due:Int
 season:Int
 kind:Int
 area:Int
 border:Int
def measB (a b:Int):Bool:=decide (0≤a)&&(decide (a≤268435456)&&(decide (0≤b)&&decide (b≤16777216)))
def seenB (k a b:Int):Bool:=decide (0≤k)&&(decide (k≤4)&&(if k=1 then measB a b else decide (a=0)&&decide (b=0)))
def factB (f:Fct):Bool:=decide (0≤f.decl)&&(decide (f.decl≤268435456)&&(decide (0≤f.due)&&(decide (f.due≤f.decl)&&(decide (-1≤f.season)&&(decide (f.season≤1)&&seenB f.kind f.area f.border)))))
def chk28 (f:Fct) (width:Int):Int:=if factB f=false then 68 else if width<0∨200<width then 2 else 0
def margin (a b width:Int):Int:=min (Ex.up (b*width) 100) a
def accept (c a b width:Int):Int:=if max (c - a) (a - c)≤margin a b width then c else a
def lim (f:Fct) (width:Int):Option (Int × Int) :=
 if f.kind=0 then (if f.season = -1 then some (2,0) else none)
 else if f.kind=4 then some (3,0)
 else if f.kind=3 then some (4,0)
 else if f.kind=2 then some (5,0)
 else some (6,accept f.decl f.area f.border width)
def det1 (f:Fct):Int × Int:=if f.due<f.decl then (f.due,1) else (f.decl,0)
def det (f:Fct) (width:Int):Int × Int :=
 match lim f width with
 | some (r,a)=>if a<(det1 f).1 then (a,r) else det1 f
 | none=>det1 f
structure FactOk (f:Fct):Prop where
 d0:0≤f.decl
 d1:f.decl≤268435456
 u0:0≤f.due
 u1:f.due≤f.decl
 s0 : -1≤f.season
 s1:f.season≤1
 k0:0≤f.kind
 k1:f.kind≤4
 a0:0≤f.area
 a1:f.area≤268435456
 b0:0≤f.border
 b1:f.border≤16777216
 none:f.kind≠1→f.area=0∧f.border=0
theorem seenB_iff {k a b:Int}:seenB k a b=true↔0≤k∧k≤4∧(k=1→0≤a∧a≤268435456∧0≤b∧b≤16777216)∧(k≠1→a=0∧b=0):=by
 unfold seenB measB
 by_cases h:k=1
 ·rw[if_pos h]
  simp only[Bool.and_eq_true,decide_eq_true_eq]
  constructor
  ·intro hh;exact⟨hh.1,hh.2.1,fun _=>hh.2.2,fun e=>absurd h e⟩
  ·intro hh;exact⟨hh.1,hh.2.1,hh.2.2.1 h⟩
 ·rw[if_neg h]
  simp only[Bool.and_eq_true,decide_eq_true_eq]
  constructor
  ·intro hh;exact⟨hh.1,hh.2.1,fun e=>absurd e h,fun _=>hh.2.2⟩
  ·intro hh;exact⟨hh.1,hh.2.1,hh.2.2.2 h⟩
theorem factOk {f:Fct}(h:factB f=true):FactOk f:=by
 unfold factB at h;simp only[Bool.and_eq_true,decide_eq_true_eq]at h;obtain⟨h1,h2,h3,h4,h5,h6,h7⟩:=h;obtain⟨k0,k1,k2,k3⟩:=seenB_iff.1 h7
 by_cases hk:f.kind=1
 ·obtain⟨a0,a1,a2,a3⟩:=k2 hk
  exact⟨h1,h2,h3,h4,h5,h6,k0,k1,a0,a1,a2,a3,k3⟩
 ·obtain⟨a0,a1⟩:=k3 hk
  exact⟨h1,h2,h3,h4,h5,h6,k0,k1,by omega,by omega,by omega,by omega,k3⟩
theorem chk28_zero {f:Fct}{width:Int}(h:chk28 f width=0):FactOk f∧0≤width∧width≤200:=by
 unfold chk28 at h
 split at h
 ·cases h
 ·rename_i h1
  split at h
  ·cases h
  ·exact⟨factOk (by simpa using h1),by omega,by omega⟩
theorem up_bd {x:Int}(x0:0≤x)(x1:x≤1125899906842624):0≤Ex.up x 100∧Ex.up x 100≤1125899906842624∧Ex.up x 100=(x+99) / 100:=by
 have h:Ex.up x 100 = -((-x) / 100):=by
  unfold Ex.up Ex.down;rw[if_pos (Ex.fits_of (by omega) (by omega) (by omega) (by omega))]
 rw[h];omega
theorem prod_bd {b width:Int}(b0:0≤b)(b1:b≤16777216)(w0:0≤width)(w1:width≤200):0≤b*width∧b*width≤3355443200:=by
 refine⟨Int.mul_nonneg b0 w0,?_⟩
 have h1:b*width≤16777216*width:=Int.mul_le_mul_of_nonneg_right b1 w0;omega
theorem FactOk.accept {f:Fct}(h:FactOk f){width:Int}(_w0:0≤width)(_w1:width≤200):0≤accept f.decl f.area f.border width∧accept f.decl f.area f.border width≤268435456:=by
 unfold As.accept;have:=h.d0;have:=h.d1;have:=h.a0;have:=h.a1
 split<;>omega
theorem FactOk.lim {f:Fct}(h:FactOk f){width:Int}(w0:0≤width)(w1:width≤200){r a:Int}(e:lim f width=some (r,a)):2≤r∧r≤6∧0≤a∧a≤268435456:=by
 have ha:=h.accept w0 w1;unfold As.lim at e
 repeat' split at e
 all_goals first|(cases e;done)|(injection e with e;cases e;omega)
theorem FactOk.det {f:Fct}(h:FactOk f){width:Int}(w0:0≤width)(w1:width≤200):0≤(det f width).1∧(det f width).1≤f.decl∧((det f width).2=0↔(det f width).1=f.decl)∧0≤(det f width).2∧(det f width).2≤6:=by
 have h1:0≤(det1 f).1∧(det1 f).1≤f.decl∧((det1 f).2=0↔(det1 f).1=f.decl)∧0≤(det1 f).2∧(det1 f).2≤6:=by
  unfold det1;have:=h.u0;have:=h.d0
  split<;>simp<;>omega
 unfold As.det
 cases e:As.lim f width with
 | none=>exact h1
 | some x =>
   obtain⟨r,a⟩:=x;obtain⟨r0,r1,a0,a1⟩:=h.lim w0 w1 e;simp only
   split
   ·simp only;omega
   ·exact h1
/-! ### lateness -/
structure Lat where
 due:Int
 last:Int
 mille:Int
def chkL (l:Lat):Int:=if l.due<0∨l.last<l.due∨36864<l.last∨l.mille<0∨1000<l.mille then 66 else 0
def dayB (n:Int):Bool:=decide (0≤n)&&decide (n≤36864)
def bef (d:Int):Int:=d / 7*5+min (d % 7) 5
def days (a b:Int):Int:=if dayB a=false∨dayB b=false∨b≤a then 0 else bef (b+1) - bef (a+1)
theorem bef_succ {d:Int}(_h:0≤d):bef (d+1)=bef d+if d % 7<5 then 1 else 0:=by
 unfold bef
 split<;>omega
theorem days_bd (a b:Int):0≤days a b∧days a b≤36864:=by
 unfold days
 split
 ·omega
 ·rename_i h
  unfold dayB at h;simp only[Bool.and_eq_false_iff,decide_eq_false_iff_not]at h;unfold bef;omega
def left (l:Lat) (at_ amount:Int):Int :=
 if at_≤l.due then amount else if l.last<at_ then 0 else amount*max 0 (1000 - l.mille*days l.due at_) / 1000
def payE (l:Lat) (at_ amount:Int):Int:=if chkL l≠0 then 66 else if dayB at_=false then 9 else if amount<0∨68719476736<amount then 67 else 0
def payV (l:Lat) (at_ amount:Int):Int:=if payE l at_ amount≠0 then 0 else left l at_ amount
structure LatOk (l:Lat):Prop where
 d0:0≤l.due
 d1:l.due≤l.last
 d2:l.last≤36864
 m0:0≤l.mille
 m1:l.mille≤1000
theorem latOk {l:Lat}(h:chkL l=0):LatOk l:=by
 unfold chkL at h
 split at h
 ·cases h
 ·exact⟨by omega,by omega,by omega,by omega,by omega⟩
theorem share_bd {a p:Int}(a0:0≤a)(p0:0≤p)(p1:p≤1000):0≤a*p / 1000∧a*p / 1000≤a:=by
 have h1:0≤a*p:=Int.mul_nonneg a0 p0;have h2:a*p≤a*1000:=Int.mul_le_mul_of_nonneg_left p1 a0;omega
theorem LatOk.left {l:Lat}(h:LatOk l)(at_:Int){amount:Int}(a0:0≤amount):0≤left l at_ amount∧left l at_ amount≤amount:=by
 unfold As.left
 split
 ·omega
 split
 ·omega
 ·have h1:=days_bd l.due at_
  have h2:0≤l.mille*days l.due at_:=Int.mul_nonneg h.m0 h1.1;exact share_bd a0 (by omega) (by omega)
end Go.Proofs.YtljibgchickcpaaGreatDoor.As
namespace Go.Proofs.YtljibgchickcpaaGreatDoor
open Go.RowKit
theorem Calls.turn {P:Program}{f:FuncId}{args:Array Value}{w:World}{v:Value}(h:Calls P f args w fun e w' => e = .returned v∧w=w'):Calls P f args w fun e w' => e = .returned v∧w' = w :=
 h.mono fun _ _ h=>⟨h.1,h.2.symm⟩
theorem Calls.same {P:Program}{f:FuncId}{args:Array Value}{w:World}{v:Value}(h:Calls P f args w fun e w' => e = .returned v∧w' = w):Calls P f args w fun e w' => e = .returned v∧w=w' :=
 h.mono fun _ _ h=>⟨h.1,h.2.symm⟩
theorem ret_int {k:IntKind}{a b:Int}(h:a=b):Ending.returned (.int k a) = .returned (.int k b):=by rw[h]
theorem ret_bool {a b:Bool}(h:a=b):Ending.returned (.bool a) = .returned (.bool b):=by rw[h]
theorem drewN_below (w:World)(n:Nat):Below w.heap.size w (w.drewN n):=⟨rfl,rfl,rfl,Nat.le_refl _,fun _ _=>rfl⟩
theorem bnext {B:Nat}{w W w' : World}(h:Below B w W)(hB:B≤W.heap.size)(k:Below W.heap.size W w'):Below B w w' := h.trans (k.mono hB)
theorem cell_other {w:World}{a b:Addr}{v u:Value}(h:w.cell? b=some u)(hne:a.block≠b.block):(w.setCell a v).cell? b=some u :=
 (World.cell?_setCell_other _ _ _ _ (fun e=>hne (congrArg Addr.block e))).trans h
theorem drewN_two (w:World)(a b:Nat):(w.drewN a).drewN b=w.drewN (a+b):=by simp[World.drewN,Nat.add_assoc]
end Go.Proofs.YtljibgchickcpaaGreatDoor
namespace Go.Proofs.YtljibgchickcpaaGreatDoor.Kn
structure Digit (Y y1 y0 u c:Int):Prop where
 hY:Y=y1*4294967296+y0
 h0:0≤y0
 h0' : y0<4294967296
 h1:2147483648≤y1
 h1' : y1<4294967296
 hu:0≤u
 hu' : u<Y
 hc:0≤c
 hc' : c<4294967296
structure Inv (Y y1 y0 u c q r:Int):Prop where
 he:u=q*y1+r
 hr:0≤r
 hr' : r<4294967296
 hq:(u*4294967296+c) / Y≤q
 hq' : q≤4294967297
variable {Y y1 y0 u c q r:Int}
theorem Digit.pos (h:Digit Y y1 y0 u c):0<Y:=by have:=h.hY;have:=h.h1;have:=h.h0;omega
theorem Digit.q_nonneg (h:Digit Y y1 y0 u c):0≤(u*4294967296+c) / Y:=Int.ediv_nonneg (by have:=h.hu;have:=h.hc;omega) (Int.le_of_lt h.pos)
theorem Digit.q_lt (h:Digit Y y1 y0 u c):(u*4294967296+c) / Y<4294967296:=by
 rw[Int.ediv_lt_iff_lt_mul h.pos];have:=h.hu'; have:=h.hc'; omega
theorem Digit.is (h:Digit Y y1 y0 u c)(hq:(u*4294967296+c) / Y≤q)(hm:q*Y≤u*4294967296+c):(u*4294967296+c) / Y=q :=
 Int.le_antisymm hq ((Int.le_ediv_iff_mul_le h.pos).2 hm)
theorem Digit.less (h:Digit Y y1 y0 u c)(hm:u*4294967296+c<q*Y):(u*4294967296+c) / Y≤q - 1:=by
 have:=(Int.ediv_lt_iff_lt_mul h.pos).2 hm;omega
theorem Digit.start (h:Digit Y y1 y0 u c):Inv Y y1 y0 u c (u / y1) (u - u / y1*y1):=by
 have hp:0<y1:=by have:=h.h1;omega
 have e1:u / y1*y1≤u:=Int.ediv_mul_le u (by omega);have e2:u<u / y1*y1+y1:=by have:=Int.lt_ediv_add_one_mul_self u hp;rw[Int.add_mul]at this;omega
 have hq0:0≤u / y1:=Int.ediv_nonneg h.hu (by omega);refine⟨by omega,by omega,by have:=h.h1'; omega,?_,?_⟩
 ·rw[Int.le_ediv_iff_mul_le hp]
  have hQ:=Int.ediv_mul_le (u*4294967296+c) (b:=Y) (by have:=h.pos;omega);have hn:=h.q_nonneg;generalize (u*4294967296+c) / Y=Q at *;rw[h.hY,Int.mul_add]at hQ;have h3:0≤Q*y0:=Int.mul_nonneg hn h.h0;have h4:Q*(y1*4294967296)=Q*y1*4294967296:=by rw[Int.mul_assoc]
  have:=h.hc'; omega
 ·have hu' := h.hu'
  rw[h.hY]at hu'; have:=h.h0'
  apply Int.not_lt.1
  intro hlt;have h5:4294967298*y1≤u / y1*y1:=Int.mul_le_mul_of_nonneg_right (by omega) (by omega);have:=h.h1;omega
theorem Inv.num (h:Digit Y y1 y0 u c)(k:Inv Y y1 y0 u c q r):q*Y=u*4294967296 - r*4294967296+q*y0:=by
 have:=k.he;have:=h.hY
 grind
theorem Inv.step (h:Digit Y y1 y0 u c)(k:Inv Y y1 y0 u c q r)(ht:4294967296≤q∨4294967296*r+c<q*y0):(u*4294967296+c) / Y≤q - 1:=by
 rcases ht with ht|ht
 ·have:=h.q_lt;omega
 ·apply h.less
  rw[k.num h];omega
theorem Inv.next (h:Digit Y y1 y0 u c)(k:Inv Y y1 y0 u c q r)(ht:4294967296≤q∨4294967296*r+c<q*y0)(hr:r+y1<4294967296):Inv Y y1 y0 u c (q - 1) (r+y1) :=
 ⟨by have:=k.he;grind,by have:=k.hr;have:=h.h1;omega,hr,k.step h ht,by have:=k.hq'; omega⟩
theorem Inv.out (h:Digit Y y1 y0 u c)(k:Inv Y y1 y0 u c q r)(ht:4294967296≤q∨4294967296*r+c<q*y0)(hr:4294967296≤r+y1):(u*4294967296+c) / Y=q - 1:=by
 have hs:=k.step h ht
 apply h.is hs
 have hn:=h.q_nonneg;have e:(q - 1)*Y=u*4294967296 - (r+y1)*4294967296+(q - 1)*y0:=by have:=k.num h;have:=h.hY;grind
 have e2:(q - 1)*y0≤4294967296*y0:=Int.mul_le_mul_of_nonneg_right (by have:=k.hq'; omega) h.h0;have:=h.h0'; have:=h.hc;omega
theorem Inv.done (h:Digit Y y1 y0 u c)(k:Inv Y y1 y0 u c q r)(_h1:q<4294967296)(h2:q*y0≤4294967296*r+c):(u*4294967296+c) / Y=q:=by
 apply h.is k.hq
 rw[k.num h];omega
theorem Digit.rest (h:Digit Y y1 y0 u c):IntKind.u64.wrap (IntKind.u64.wrap (IntKind.u64.wrap (u*4294967296)+c) - IntKind.u64.wrap ((u*4294967296+c) / Y*Y))=(u*4294967296+c) % Y:=by
 have e:=Int.emod_add_ediv_mul (u*4294967296+c) Y;have l:=Int.emod_lt_of_pos (u*4294967296+c) h.pos;have n:=Int.emod_nonneg (u*4294967296+c) (b:=Y) (by have:=h.pos;omega);have hb:Y<18446744073709551616:=by have:=h.hY;have:=h.h1'; have:=h.h0'; omega
 generalize (u*4294967296+c) / Y*Y=p at *;generalize (u*4294967296+c) % Y=m at *;simp only[IntKind.wrap_u64];omega
theorem Inv.ways (h:Digit Y y1 y0 u c)(k:Inv Y y1 y0 u c q r) :
  (4294967296≤q∧r+y1<4294967296∧Inv Y y1 y0 u c (q - 1) (r+y1)) ∨
  (q<4294967296∧4294967296*r+c<q*y0∧r+y1<4294967296∧Inv Y y1 y0 u c (q - 1) (r+y1)) ∨
  (4294967296≤q∧4294967296≤r+y1∧q - 1=(u*4294967296+c) / Y) ∨
  (q<4294967296∧4294967296*r+c<q*y0∧4294967296≤r+y1∧q - 1=(u*4294967296+c) / Y) ∨
  (q<4294967296∧q*y0≤4294967296*r+c∧q=(u*4294967296+c) / Y):=by
 by_cases h1:4294967296≤q
 ·by_cases h2:r+y1<4294967296
  ·exact .inl ⟨h1,h2,k.next h (.inl h1) h2⟩
  ·exact .inr (.inr (.inl ⟨h1,by omega,(k.out h (.inl h1) (by omega)).symm⟩))
 ·by_cases h3:4294967296*r+c<q*y0
  ·by_cases h2:r+y1<4294967296
   ·exact .inr (.inl ⟨by omega,h3,h2,k.next h (.inr h3) h2⟩)
   ·exact .inr (.inr (.inr (.inl ⟨by omega,h3,by omega,(k.out h (.inr h3) (by omega)).symm⟩)))
  ·exact .inr (.inr (.inr (.inr ⟨by omega,by omega,(k.done h (by omega) (by omega)).symm⟩)))
theorem Inv.mul (h:Digit Y y1 y0 u c)(_k:Inv Y y1 y0 u c q r)(hq0:0≤q)(hq:q<4294967296):IntKind.u64.wrap (q*y0)=q*y0:=by
 have h1:0≤q*y0:=Int.mul_nonneg hq0 h.h0;have h2:q*y0≤4294967296*y0:=Int.mul_le_mul_of_nonneg_right (by omega) h.h0;have:=h.h0'; exact IntWalk.u64_in _ ⟨by omega,by omega⟩
theorem Digit.first (h:Digit Y y1 y0 u c):IntKind.u64.wrap (u - IntKind.u64.wrap (u / y1*y1))=u - u / y1*y1:=by
 have hp:0<y1:=by have:=h.h1;omega
 have e1:u / y1*y1≤u:=Int.ediv_mul_le u (by omega);have hq0:0≤u / y1*y1:=Int.mul_nonneg (Int.ediv_nonneg h.hu (by omega)) (by omega);have hb:Y<18446744073709551616:=by have:=h.hY;have:=h.h1'; have:=h.h0'; omega
 have:=h.hu'; rw[IntWalk.u64_in _ ⟨hq0,by omega⟩,IntWalk.u64_in _ ⟨by omega,by omega⟩]
theorem whole {Y u a b:Int}(hY:0<Y):(u*18446744073709551616+(a*4294967296+b)) / Y=(u*4294967296+a) / Y*4294967296+((u*4294967296+a) % Y*4294967296+b) / Y∧(u*18446744073709551616+(a*4294967296+b)) % Y=((u*4294967296+a) % Y*4294967296+b) % Y:=by
 have e:=Int.emod_add_ediv_mul (u*4294967296+a) Y;generalize (u*4294967296+a) / Y=p at *;generalize (u*4294967296+a) % Y=m at *;have e2:u*18446744073709551616+(a*4294967296+b)=(m*4294967296+b)+(p*4294967296)*Y:=by grind
 rw[e2,Int.add_mul_ediv_right _ _ (by omega),Int.add_mul_emod_self_right];exact⟨by omega,rfl⟩
theorem shifted {n y k:Int}(hk:0<k):n*k / (y*k)=n / y∧n*k % (y*k) / k=n % y:=by
 refine⟨Int.mul_ediv_mul_of_pos_left _ _ hk,?_⟩
 rw[Int.mul_comm n k,Int.mul_comm y k,Int.mul_emod_mul_of_pos _ _ hk];exact Int.mul_ediv_cancel_left _ (by omega)
def lz (y:Int):Nat:=64 - Lib.bitLen y.toNat
theorem lz_spec {y:Int}(h1:1≤y)(h2:y<18446744073709551616):lz y<64∧(64 - (Lib.bitLen y.toNat:Int))=(lz y:Int)∧9223372036854775808≤y*2 ^ lz y∧y*2 ^ lz y<18446744073709551616:=by
 obtain⟨n,rfl⟩:=Int.eq_ofNat_of_zero_le (show 0≤y by omega);have hn:n<2 ^ 64:=by omega
 obtain⟨b1,b2,b3⟩:=Lib.bitLenAux_bounds 64 n hn (by omega);have b4:=Lib.bitLen_le n 64 mle hn
 change 1≤Lib.bitLen n at b1
 change 2 ^ (Lib.bitLen n - 1)≤n at b2
 change n<2 ^ Lib.bitLen n at b3
 unfold lz;rw[Int.toNat_natCast];generalize Lib.bitLen n=k at *;have e1:2 ^ (k - 1)*2 ^ (64 - k)=9223372036854775808:=by rw[← Nat.pow_add,show k - 1+(64 - k)=63 by omega]
 have e2:2 ^ k*2 ^ (64 - k)=18446744073709551616:=by rw[← Nat.pow_add,show k+(64 - k)=64 by omega]
 have m1:2 ^ (k - 1)*2 ^ (64 - k)≤n*2 ^ (64 - k):=Nat.mul_le_mul_right _ b2;have m2:n*2 ^ (64 - k)<2 ^ k*2 ^ (64 - k):=Nat.mul_lt_mul_of_pos_right b3 (Nat.two_pow_pos _);have c:((n*2 ^ (64 - k):Nat):Int)=(n:Int)*2 ^ (64 - k):=by simp
 exact⟨by omega,by omega,by omega,by omega⟩
theorem pow_split (s:Nat)(h:s≤64):(2:Int) ^ s*2 ^ (64 - s)=18446744073709551616:=by
 rw[← Int.pow_add,show s+(64 - s)=64 by omega];rfl
theorem pow_pos (s:Nat):0<(2:Int) ^ s:=Int.pow_pos (by omega)
theorem and_mask (n:Int)(h0:0≤n)(h1:n<18446744073709551616):bits BinOp.and IntKind.u64 n 4294967295=n % 4294967296:=by
 rw[u64_and n 4294967295 h0 h1 (by omega) (by omega)];obtain⟨k,rfl⟩:=Int.eq_ofNat_of_zero_le h0;rw[Int.toNat_natCast,show(4294967295:Int).toNat=2 ^ 32 - 1 from rfl,Nat.and_two_pow_sub_one_eq_mod];omega
theorem or_join (hi lo y:Int)(s:Nat)(hs:s<64)(h0:0≤hi)(h1:hi<y)(h2:y*2 ^ s<18446744073709551616)(h3:0≤lo)(h4:lo<18446744073709551616) :
  IntKind.u64.wrap (hi*2 ^ s)=hi*2 ^ s∧bits BinOp.or IntKind.u64 (hi*2 ^ s) (lo / 2 ^ (64 - s))=hi*2 ^ s+lo / 2 ^ (64 - s) ∧
  0≤hi*2 ^ s+lo / 2 ^ (64 - s)∧hi*2 ^ s+lo / 2 ^ (64 - s)<y*2 ^ s ∧
  (hi*2 ^ s+lo / 2 ^ (64 - s))*18446744073709551616+IntKind.u64.wrap (lo*2 ^ s)=(hi*18446744073709551616+lo)*2 ^ s:=by
 have hp:=pow_pos s;have hq:=pow_pos (64 - s);have hm:=pow_split s (by omega);have a1:0≤hi*2 ^ s:=Int.mul_nonneg h0 (by omega);have a2:(hi+1)*2 ^ s≤y*2 ^ s:=Int.mul_le_mul_of_nonneg_right (by omega) (by omega);rw[Int.add_mul,Int.one_mul]at a2;have d0:0≤lo / 2 ^ (64 - s):=Int.ediv_nonneg h3 (by omega);have d1:lo / 2 ^ (64 - s)<2 ^ s:=by rw[Int.ediv_lt_iff_lt_mul hq,hm];exact h4
 refine⟨IntWalk.u64_in _ ⟨a1,by omega⟩,?_,by omega,by omega,?_⟩
 ·rw[u64_or _ _ a1 (by omega) d0 (by omega),nat_join s]
  ·omega
  ·have e:((2 ^ s:Nat):Int)=(2:Int) ^ s:=by simp
   have:(((hi*2 ^ s).toNat % 2 ^ s:Nat):Int)=0:=by rw[Int.natCast_emod,Int.toNat_of_nonneg a1,e];exact Int.mul_emod_left _ _
   omega
  ·have e:((2 ^ s:Nat):Int)=(2:Int) ^ s:=by simp
   omega
 ·rw[IntKind.wrap_u64]
  have e1:=Int.emod_add_ediv_mul lo (2 ^ (64 - s));generalize hA:lo / 2 ^ (64 - s)=A at *;have n1:=Int.emod_nonneg lo (b:=2 ^ (64 - s)) (by omega);have n2:=Int.emod_lt_of_pos lo hq;generalize lo % 2 ^ (64 - s)=m at *;have e2:lo*2 ^ s=m*2 ^ s+A*18446744073709551616:=by rw[← hm,← e1,Int.add_mul];congr 1;rw[Int.mul_assoc,Int.mul_comm (2 ^ (64 - s)) (2 ^ s)]
  have n3:0≤m*2 ^ s:=Int.mul_nonneg n1 (by omega);have n4:m*2 ^ s<2 ^ (64 - s)*2 ^ s:=Int.mul_lt_mul_of_pos_right n2 hp;rw[Int.mul_comm (2 ^ (64 - s)),hm]at n4;rw[Int.add_mul (hi*18446744073709551616)];have e3:hi*18446744073709551616*2 ^ s=hi*2 ^ s*18446744073709551616:=by rw[Int.mul_assoc,Int.mul_comm 18446744073709551616,Int.mul_assoc]
  rw[e3,e2];generalize m*2 ^ s=M at *;generalize hi*2 ^ s=H at *;omega
theorem digit {Y u c:Int}(h1:9223372036854775808≤Y)(h2:Y<18446744073709551616)(hu:0≤u)(hu' : u<Y)(hc:0≤c)(hc' : c<4294967296) :
  Digit Y (Y / 4294967296) (Y % 4294967296) u c:=⟨by omega,by omega,by omega,by omega,by omega,hu,hu', hc,hc'⟩
end Go.Proofs.YtljibgchickcpaaGreatDoor.Kn
namespace Go.Proofs.YtljibgchickcpaaGreatDoor
open Go.RowKit
def LzSaid:Prop:=∀(y:Int) (w:World),1≤y→y<18446744073709551616→Calls Tryz.prog 162 #[.int .u64 y] w fun e w' => e = .returned (I O (Kn.lz y:Int))∧w=w'
theorem div64_zero (lo y:Int)(w:World)(h1:0<y)(h2:y<18446744073709551616)(h3:0≤lo)(h4:lo<18446744073709551616) :
  Calls Tryz.prog 147 #[.int .u64 0,.int .u64 lo,.int .u64 y] w fun e w' => e = .returned (.tuple #[.int .u64 (lo / y),.int .u64 (lo % y)])∧∃n,w' = w.drewN n:=by
 have hy:(y==0)=false:=by rw[beq_eq_false_iff_ne];omega
 have hd:IntKind.u64.wrap (lo / y)=lo / y:=IntWalk.u64_in _ ⟨Int.ediv_nonneg h3 (by omega),by have:=Int.ediv_le_self y h3;omega⟩;have hd2:IntKind.u64.wrap (lo % y)=lo % y:=IntWalk.u64_in _ ⟨Int.emod_nonneg _ (by omega),by have:=Int.emod_lt_of_pos lo h1;omega⟩
 go_enter Tryz.func147,Tryz.ntmps147
 go_wp2
 go_quiet (fail)
 go_wp2
 go_ret2
 exact⟨rfl,_,rfl⟩
theorem div64_pos (hL:LzSaid)(hi lo y:Int)(w:World)(h0:0<hi)(h1:hi<y)(h2:y<18446744073709551616)(h3:0≤lo)(h4:lo<18446744073709551616) :
  Calls Tryz.prog 147 #[.int .u64 hi,.int .u64 lo,.int .u64 y] w fun e w' => e = .returned (.tuple #[.int .u64 ((hi*18446744073709551616+lo) / y),.int .u64 ((hi*18446744073709551616+lo) % y)])∧∃n,w' = w.drewN n:=by
 obtain⟨s1,s2,s3,s4⟩:=Kn.lz_spec (show 1≤y by omega) h2;obtain⟨j1,j2,j3,j4,j5⟩:=Kn.or_join hi lo y (Kn.lz y) s1 (by omega) h1 s4 h3 h4;have hz:=hL y w (by omega) h2;generalize hs:Kn.lz y=s at *;clear hs s2;have eY:IntKind.u64.wrap (y*2 ^ s)=y*2 ^ s:=IntWalk.u64_in _ ⟨by omega,by omega⟩;have eL0:0≤IntKind.u64.wrap (lo*2 ^ s):=by rw[IntKind.wrap_u64];omega
 have eL1:IntKind.u64.wrap (lo*2 ^ s)<18446744073709551616:=by rw[IntKind.wrap_u64];omega
 have eA1:=Kn.and_mask (y*2 ^ s) (by omega) s4;have eA2:=Kn.and_mask _ eL0 eL1;have e64:(64 - (s:Int)).toNat=64 - s:=by omega
 have hd1:=Kn.shifted (n:=hi*18446744073709551616+lo) (y:=y) (k:=2 ^ s) (Kn.pow_pos s);rw[← j5]at hd1;generalize hl:IntKind.u64.wrap (lo*2 ^ s)=un10 at *;generalize hu:hi*2 ^ s+lo / 2 ^ (64 - s)=un32 at *;generalize hY:y*2 ^ s=Y at *;have G1:=Kn.digit s3 s4 j3 j4 (c:=un10 / 4294967296) (by omega) (by omega);have W1:=Kn.whole (u:=un32) (a:=un10 / 4294967296) (b:=un10 % 4294967296) G1.pos;have e10:un10 / 4294967296*4294967296+un10 % 4294967296=un10:=by omega
 rw[e10]at W1;have G2:=Kn.digit s3 s4 (u:=(un32*4294967296+un10 / 4294967296) % Y) (Int.emod_nonneg _ (by omega)) (Int.emod_lt_of_pos _ (by omega)) (c:=un10 % 4294967296) (by omega) (by omega);have bQ1:=G1.q_nonneg;have bQ1' := G1.q_lt;have bQ0:=G2.q_nonneg;have bQ0' := G2.q_lt;have r1:=G1.rest;have r2:=G2.rest;have st1:=G1.start;have st2:=G2.start;have f1:=G1.first
 have f2:=G2.first
 rw[← hd1.1,← hd1.2,W1.1,W1.2];clear hd1 W1 e10 j5 hu;have by1:=G1.h1;have by1' := G1.h1'; have by0:=G1.h0;have by0' := G1.h0'; have bc1:=G1.hc;have bc1' := G1.hc'; have bc0:=G2.hc;have bc0' := G2.hc'; have bu1:=G1.hu;have bu2:=G2.hu;have bu2' := G2.hu'; generalize hy1:Y / 4294967296=y1 at *;generalize hc1:un10 / 4294967296=c1 at *;generalize hc0:un10 % 4294967296=c0 at *;generalize hy0:Y % 4294967296=y0 at *;generalize hu21:(un32*4294967296+c1) % Y=u21 at *;generalize hQ1:(un32*4294967296+c1) / Y=Q1 at *;generalize hQ0:(u21*4294967296+c0) / Y=Q0 at *;generalize hm2:(u21*4294967296+c0) % Y=m2 at *;generalize hr1:un32 - un32 / y1*y1=r10 at *;generalize hr2:u21 - u21 / y1*y1=r20 at *;generalize hq1:un32 / y1=q10 at *;generalize hq2:u21 / y1=q20 at *;have H1:=mh (And.intro hu21 (And.intro hQ1 (And.intro hQ0 hm2)));have HL:=mh hz;clear hu21 hQ1 hQ0 hm2 hr1 hr2 hz;have b1:=st1.hr;have b2:=st1.hr'; have b3:=st1.hq'; have b4:=st1.hq;have b5:=st2.hr;have b6:=st2.hr'; have b7:=st2.hq'; have b8:=st2.hq;rw[H1.out.2.1]at b4;rw[H1.out.2.2.1]at b8;have hyB:(y==0)=false:=by rw[beq_eq_false_iff_ne];omega
 have hhB:(hi==0)=false:=by rw[beq_eq_false_iff_ne];omega
 have hyn:¬y1=0:=by omega
 go_enter Tryz.func147,Tryz.ntmps147
 go_wp2_with (go_at_call 162;refine(HL.out).mono ?_;rintro e w' ⟨rfl,rfl⟩)
 go_loop [15,16] (fun q r=>∃a b:Int,q = .int .u64 a∧r = .int .u64 b∧Kn.Inv Y y1 y0 un32 c1 a b) (fun q _=>(intOf q).toNat)
 case atStart=>exact⟨_,_,rfl,rfl,by rw[hq1];exact st1⟩
 case round =>
  obtain⟨a,b,rfl,rfl,k⟩:=hrel;have k1:=k.hq;rw[H1.out.2.1]at k1;have k2:=k.hq'; have k3:=k.hr;have k4:=k.hr'; have kw:=k.ways G1;rw[H1.out.2.1]at kw;have km:=k.mul G1 (by omega)
  rcases kw with⟨t1,t2,t3⟩|⟨t1,t2,t3,t4⟩|⟨t1,t2,t3⟩|⟨t1,t2,t3,t4⟩|⟨t1,t2,t3⟩
  ·have T:=mh t3
   clear km k t3
   go_wp2
   go_round
   case rel=>first|exact T.out|exact⟨a - 1,b+y1,rfl,rfl,T.out⟩
   case measure=>simp[intOf];omega
  ·replace km:=km t1
   have p1:=t4.hq;rw[H1.out.2.1]at p1;have T:=mh t4;clear k t4
   go_wp2
   go_round
   case rel=>first|exact T.out|exact⟨a - 1,b+y1,rfl,rfl,T.out⟩
   case measure=>simp[intOf];omega
  ·clear km k
   go_wp2
   go_loop [18,16] (fun q r=>∃a b:Int,q = .int .u64 a∧r = .int .u64 b∧Kn.Inv Y y1 y0 u21 c0 a b) (fun q _=>(intOf q).toNat)
   case atStart=>exact⟨_,_,rfl,rfl,st2⟩
   case round =>
    obtain⟨a', b', rfl,rfl,k'⟩:=hrel;have k1' := k'.hq;rw[H1.out.2.2.1]at k1'; have k2' := k'.hq'; have k3' := k'.hr;have k4' := k'.hr'; have kw' := k'.ways G2;rw[H1.out.2.2.1]at kw'; have km' := k'.mul G2 (by omega)
    rcases kw' with⟨t1', t2', t3'⟩|⟨t1', t2', t3', t4'⟩|⟨t1', t2', t3'⟩|⟨t1', t2', t3', t4'⟩|⟨t1', t2', t3'⟩
    ·have T:=mh t3'
     clear km' k' t3'
     go_wp2
     go_round
     case rel=>first|exact T.out|exact⟨a' - 1,b' + y1,rfl,rfl,T.out⟩
     case measure=>simp[intOf];omega
    ·replace km' := km' t1'
     have p1' := t4'.hq;rw[H1.out.2.2.1]at p1'; have T:=mh t4'; clear k' t4'
     go_wp2
     go_round
     case rel=>first|exact T.out|exact⟨a' - 1,b' + y1,rfl,rfl,T.out⟩
     case measure=>simp[intOf];omega
    ·clear km' k'
     go_wp2
     go_ret2
     exact⟨rfl,0,rfl⟩
    ·replace km' := km' t1'
     clear k'
     go_wp2
     go_ret2
     exact⟨rfl,0,rfl⟩
    ·subst t3'
     replace km' := km' t1'
     clear k'
     go_wp2
     go_ret2
     exact⟨rfl,0,rfl⟩
  ·replace km:=km t1
   clear k
   go_wp2
   go_loop [18,16] (fun q r=>∃a b:Int,q = .int .u64 a∧r = .int .u64 b∧Kn.Inv Y y1 y0 u21 c0 a b) (fun q _=>(intOf q).toNat)
   case atStart=>exact⟨_,_,rfl,rfl,st2⟩
   case round =>
    obtain⟨a', b', rfl,rfl,k'⟩:=hrel;have k1' := k'.hq;rw[H1.out.2.2.1]at k1'; have k2' := k'.hq'; have k3' := k'.hr;have k4' := k'.hr'; have kw' := k'.ways G2;rw[H1.out.2.2.1]at kw'; have km' := k'.mul G2 (by omega)
    rcases kw' with⟨t1', t2', t3'⟩|⟨t1', t2', t3', t4'⟩|⟨t1', t2', t3'⟩|⟨t1', t2', t3', t4'⟩|⟨t1', t2', t3'⟩
    ·have T:=mh t3'
     clear km' k' t3'
     go_wp2
     go_round
     case rel=>first|exact T.out|exact⟨a' - 1,b' + y1,rfl,rfl,T.out⟩
     case measure=>simp[intOf];omega
    ·replace km' := km' t1'
     have p1' := t4'.hq;rw[H1.out.2.2.1]at p1'; have T:=mh t4'; clear k' t4'
     go_wp2
     go_round
     case rel=>first|exact T.out|exact⟨a' - 1,b' + y1,rfl,rfl,T.out⟩
     case measure=>simp[intOf];omega
    ·clear km' k'
     go_wp2
     go_ret2
     exact⟨rfl,0,rfl⟩
    ·replace km' := km' t1'
     clear k'
     go_wp2
     go_ret2
     exact⟨rfl,0,rfl⟩
    ·subst t3'
     replace km' := km' t1'
     clear k'
     go_wp2
     go_ret2
     exact⟨rfl,0,rfl⟩
  ·subst t3
   replace km:=km t1
   clear k
   go_wp2
   go_loop [18,16] (fun q r=>∃a b:Int,q = .int .u64 a∧r = .int .u64 b∧Kn.Inv Y y1 y0 u21 c0 a b) (fun q _=>(intOf q).toNat)
   case atStart=>exact⟨_,_,rfl,rfl,st2⟩
   case round =>
    obtain⟨a', b', rfl,rfl,k'⟩:=hrel;have k1' := k'.hq;rw[H1.out.2.2.1]at k1'; have k2' := k'.hq'; have k3' := k'.hr;have k4' := k'.hr'; have kw' := k'.ways G2;rw[H1.out.2.2.1]at kw'; have km' := k'.mul G2 (by omega)
    rcases kw' with⟨t1', t2', t3'⟩|⟨t1', t2', t3', t4'⟩|⟨t1', t2', t3'⟩|⟨t1', t2', t3', t4'⟩|⟨t1', t2', t3'⟩
    ·have T:=mh t3'
     clear km' k' t3'
     go_wp2
     go_round
     case rel=>first|exact T.out|exact⟨a' - 1,b' + y1,rfl,rfl,T.out⟩
     case measure=>simp[intOf];omega
    ·replace km' := km' t1'
     have p1' := t4'.hq;rw[H1.out.2.2.1]at p1'; have T:=mh t4'; clear k' t4'
     go_wp2
     go_round
     case rel=>first|exact T.out|exact⟨a' - 1,b' + y1,rfl,rfl,T.out⟩
     case measure=>simp[intOf];omega
    ·clear km' k'
     go_wp2
     go_ret2
     exact⟨rfl,0,rfl⟩
    ·replace km' := km' t1'
     clear k'
     go_wp2
     go_ret2
     exact⟨rfl,0,rfl⟩
    ·subst t3'
     replace km' := km' t1'
     clear k'
     go_wp2
     go_ret2
     exact⟨rfl,0,rfl⟩
theorem div64_any (hL:LzSaid)(hi lo y:Int)(w:World)(h0:0≤hi)(h1:hi<y)(h2:y<18446744073709551616)(h3:0≤lo)(h4:lo<18446744073709551616) :
  Calls Tryz.prog 147 #[.int .u64 hi,.int .u64 lo,.int .u64 y] w fun e w' => e = .returned (.tuple #[.int .u64 ((hi*18446744073709551616+lo) / y),.int .u64 ((hi*18446744073709551616+lo) % y)])∧∃n,w' = w.drewN n:=by
 by_cases hz:hi=0
 ·subst hz
  rw[Int.zero_mul,Int.zero_add];exact div64_zero lo y w h1 h2 h3 h4
 ·exact div64_pos hL hi lo y w (by omega) h1 h2 h3 h4
end Go.Proofs.YtljibgchickcpaaGreatDoor
