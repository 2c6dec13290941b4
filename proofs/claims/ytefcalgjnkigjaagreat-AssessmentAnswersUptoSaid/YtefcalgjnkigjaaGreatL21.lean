/- Packed. -/
import Derived.Test.YtefcalgjnkigjaaGreatL20
set_option maxRecDepth 100000
set_option maxHeartbeats 8000000
open Go.Value renaming int → I
open Go.IntKind renaming i64 → O
namespace Go.Proofs.YtefcalgjnkigjaaGreat
open Go.RowKit
theorem As.pay_cases (l:As.Lat)(at_ qU:Int):(As.chkL l=66∧As.payE l at_ qU=66∧As.payV l at_ qU=0)∨(As.chkL l=0∧As.dayB at_=false∧As.payE l at_ qU=9∧As.payV l at_ qU=0) ∨
  (As.chkL l=0∧As.dayB at_=true∧qU<0∧As.payE l at_ qU=67∧As.payV l at_ qU=0)∨(As.chkL l=0∧As.dayB at_=true∧¬qU<0∧68719476736<qU∧As.payE l at_ qU=67∧As.payV l at_ qU=0) ∨
  (As.chkL l=0∧As.dayB at_=true∧¬qU<0∧¬68719476736<qU∧As.payE l at_ qU=0∧As.payV l at_ qU=As.left l at_ qU):=by
 unfold As.payV As.payE
 by_cases hc:As.chkL l=0
 ·rw[if_neg (by omega)]
  cases hd:As.dayB at_
  ·exact .inr (.inl ⟨hc,rfl,rfl,rfl⟩)
  ·rw[if_neg (by decide)]
   by_cases h1:qU<0
   ·rw[if_pos (.inl h1)]
    exact .inr (.inr (.inl ⟨hc,rfl,h1,rfl,rfl⟩))
   by_cases h2:68719476736<qU
   ·rw[if_pos (.inr h2)]
    exact .inr (.inr (.inr (.inl ⟨hc,rfl,h1,h2,rfl,rfl⟩)))
   ·rw[if_neg (by omega)]
    exact .inr (.inr (.inr (.inr ⟨hc,rfl,h1,h2,rfl,rfl⟩)))
 ·have h66:As.chkL l=66:=by unfold As.chkL at hc ⊢;split at hc<;>simp_all
  rw[if_pos hc];exact .inl ⟨h66,rfl,rfl⟩
def As.PayG (v:Int × Int) (w:World) (e:Ending) (w' : World):Prop:=e = .returned (.tuple #[I O v.1,I O v.2])∧Below w.heap.size w w'
theorem vJA (d l m at_ qU:Int)(w:World):Calls Tryz.prog 145 #[.agg #[I O d,I O l,I O m],I O at_,I O qU] w (As.PayG (As.payV ⟨d,l,m⟩ at_ qU,As.payE ⟨d,l,m⟩ at_ qU) w):=by
 have HA:=mh (qK mle (brf w.heap.size w) (.cells #[I O d,I O l,I O m] 26));have CK:=mh (fun (W:World)=>bU d l m W);have D1:=mh (fun (W:World)=>dD at_ W);have DY:=mh (fun (W:World)=>jWA d at_ W)
 rcases As.pay_cases ⟨d,l,m⟩ at_ qU with⟨h1,hE,hV⟩|⟨h1,h2,hE,hV⟩|⟨h1,h2,h3,hE,hV⟩|⟨h1,h2,h3,h4,hE,hV⟩|⟨h1,h2,h3,h4,hE,hV⟩
 ·rw[hE,hV];rw[h1]at CK
  go_enter Tryz.func145,Tryz.ntmps145
  go_wp2_with (go_at_call 49;(with_reducible refine cmo (CK.out _) ?_);rintro e w1 ⟨rfl,hb1⟩;have HB1:=mh (qZ mle HA hb1);have C0:=qJ hb1 0;have C1:=qJ hb1 1;have C2:=qJ hb1 2;have S1:=mh (show w.heap.size<w1.heap.size from nll (by simp) hb1.size);clear hb1)
  go_ret2
  exact⟨rfl,HB1.out⟩
 ·rw[hE,hV];rw[h1]at CK;rw[h2]at D1
  go_enter Tryz.func145,Tryz.ntmps145
  go_wp2_with (first|(go_at_call 49;(with_reducible refine cmo (CK.out _) ?_);rintro e w1 ⟨rfl,hb1⟩;have HB1:=mh (qZ mle HA hb1);have C0:=qJ hb1 0;have C1:=qJ hb1 1;have C2:=qJ hb1 2;have S1:=mh (show w.heap.size<w1.heap.size from nll (by simp) hb1.size);clear hb1)|(go_at_call 184;(with_reducible refine cmo (D1.out _) ?_);rintro e w2 ⟨rfl,rfl⟩)|fail)
  go_ret2
  exact⟨rfl,HB1.out⟩
 ·rw[hE,hV];rw[h1]at CK;rw[h2]at D1
  go_enter Tryz.func145,Tryz.ntmps145
  go_wp2_with (first|(go_at_call 49;(with_reducible refine cmo (CK.out _) ?_);rintro e w1 ⟨rfl,hb1⟩;have HB1:=mh (qZ mle HA hb1);have C0:=qJ hb1 0;have C1:=qJ hb1 1;have C2:=qJ hb1 2;have S1:=mh (show w.heap.size<w1.heap.size from nll (by simp) hb1.size);clear hb1)|(go_at_call 184;(with_reducible refine cmo (D1.out _) ?_);rintro e w2 ⟨rfl,rfl⟩)|fail)
  go_ret2
  exact⟨rfl,HB1.out⟩
 ·rw[hE,hV];rw[h1]at CK;rw[h2]at D1
  go_enter Tryz.func145,Tryz.ntmps145
  go_wp2_with (first|(go_at_call 49;(with_reducible refine cmo (CK.out _) ?_);rintro e w1 ⟨rfl,hb1⟩;have HB1:=mh (qZ mle HA hb1);have C0:=qJ hb1 0;have C1:=qJ hb1 1;have C2:=qJ hb1 2;have S1:=mh (show w.heap.size<w1.heap.size from nll (by simp) hb1.size);clear hb1)|(go_at_call 184;(with_reducible refine cmo (D1.out _) ?_);rintro e w2 ⟨rfl,rfl⟩)|fail)
  go_ret2
  exact⟨rfl,HB1.out⟩
 have LO:=As.latOk h1;have k1:=LO.d0;have k2:=LO.d1;have k3:=LO.d2;have k4:=LO.m0;have k5:=LO.m1;simp only at k1 k2 k3 k4 k5;rw[hE,hV];rw[h1]at CK;rw[h2]at D1
 by_cases h5:at_≤d
 ·have EV:=mh (show As.left ⟨d,l,m⟩ at_ qU=qU from by unfold As.left;rw[if_pos h5])
  rw[EV.out]
  go_enter Tryz.func145,Tryz.ntmps145
  go_wp2_with (first|(go_at_call 49;(with_reducible refine cmo (CK.out _) ?_);rintro e w1 ⟨rfl,hb1⟩;have HB1:=mh (qZ mle HA hb1);have C0:=qJ hb1 0;have C1:=qJ hb1 1;have C2:=qJ hb1 2;have S1:=mh (show w.heap.size<w1.heap.size from nll (by simp) hb1.size);clear hb1)|(go_at_call 184;(with_reducible refine cmo (D1.out _) ?_);rintro e w2 ⟨rfl,rfl⟩)|fail)
  go_ret2
  exact⟨rfl,HB1.out⟩
 by_cases h6:l<at_
 ·have EV:=mh (show As.left ⟨d,l,m⟩ at_ qU=0 from by unfold As.left;rw[if_neg h5,if_pos h6])
  rw[EV.out]
  go_enter Tryz.func145,Tryz.ntmps145
  go_wp2_with (first|(go_at_call 49;(with_reducible refine cmo (CK.out _) ?_);rintro e w1 ⟨rfl,hb1⟩;have HB1:=mh (qZ mle HA hb1);have C0:=qJ hb1 0;have C1:=qJ hb1 1;have C2:=qJ hb1 2;have S1:=mh (show w.heap.size<w1.heap.size from nll (by simp) hb1.size);clear hb1)|(go_at_call 184;(with_reducible refine cmo (D1.out _) ?_);rintro e w2 ⟨rfl,rfl⟩)|fail)
  go_ret2
  exact⟨rfl,HB1.out⟩
 obtain⟨N,eN⟩:∃N,As.days d at_=N:=⟨_,rfl⟩;have hN:=As.days_bd d at_;rw[eN]at hN DY;have hm0:0≤m*N:=Int.mul_nonneg k4 hN.1;have hm1:m*N≤1000*36864:=Int.mul_le_mul k5 hN.2 hN.1 (by omega);obtain⟨X,eX⟩:∃X,m*N=X:=⟨_,rfl⟩;have EV:=mh (show As.left ⟨d,l,m⟩ at_ qU=qU*max 0 (1000 - X) / 1000 from by unfold As.left;rw[if_neg h5,if_neg h6];simp only;rw[eN,eX]);rw[eX]at hm0 hm1;have hw1:IntKind.i64.wrap (m*N)=X:=by rw[eX,IntKind.wrap_i64];omega
 have hw2:IntKind.i64.wrap (1000 - X)=1000 - X:=by rw[IntKind.wrap_i64];omega
 obtain⟨Y,eY⟩:∃Y,max 0 (1000 - X)=Y:=⟨_,rfl⟩;have hY:0≤Y∧Y≤1000:=by omega
 rw[eY]at EV;have hs:=As.share_bd (a:=qU) (p:=Y) (by omega) hY.1 hY.2;have hp:uG qU Y 1000=(qU*Y / 1000,0):=by
  unfold uG;rw[if_pos (by omega),if_neg (by omega)]
 have PA:=mh (fun (W:World)=>gTA qU Y 1000 W);rw[hp,← EV.out]at PA;obtain⟨V,eV⟩:∃V,As.left ⟨d,l,m⟩ at_ qU=V:=⟨_,rfl⟩;rw[eV]at PA ⊢;rw[← eY]at PA;clear EV eV eY hp hs hN hm0 hm1 eX eN LO hE hV
 go_enter Tryz.func145,Tryz.ntmps145
 go_wp2_with (first|(go_at_call 49;(with_reducible refine cmo (CK.out _) ?_);rintro e w1 ⟨rfl,hb1⟩;have HB1:=mh (qZ mle HA hb1);have C0:=qJ hb1 0;have C1:=qJ hb1 1;have C2:=qJ hb1 2;have S1:=mh (show w.heap.size<w1.heap.size from nll (by simp) hb1.size);clear hb1)|(go_at_call 184;(with_reducible refine cmo (D1.out _) ?_);rintro e w2 ⟨rfl,rfl⟩)|fail)
 go_region_held3 (fun w' => w'.cell? ⟨w.heap.size,0,none⟩=some (I O d)∧w'.cell? ⟨w.heap.size,2,none⟩=some (I O m)) (first|exact⟨C0,C2⟩|exact⟨D0,D2⟩|go_keep) (first
  | (go_at_call 186;(with_reducible refine cmo (DY.out _) ?_);rintro e w2 ⟨rfl,rfl⟩)
  | (go_at_call 185;(with_reducible refine cmo (PA.out _) ?_);rintro e w3 ⟨rfl,hb3⟩;have HB3:=mh (qZ mle HB1 (bdrew' hb3));have D0:=(hb3.cell (p:=⟨w.heap.size,0,none⟩) S1).trans C0;have D2:=(hb3.cell (p:=⟨w.heap.size,2,none⟩) S1).trans C2;clear hb3))
 go_wp2
 go_ret2
 exact⟨rfl,HB3.out⟩
open Sc As
structure kY (w wr:World) (t xb sb:Nat) (r:RY) (f:RF) (va vr:Value) (y:RSx) (ox:Array Value):Prop where
 ac:zD wr t r f va vr
 ob:wr.heap[xb]?=some (.cells ox 91)
 scb:wr.heap[sb]?=some (.cells #[I O y.num,.string y.nm,I O y.t.op,I O y.t.num,I O y.t.more,.slice y.t.p y.t.n y.t.c,.slice y.bp y.bn y.bc,I O y.least,I O y.ex,.bool y.needs] 81)
 but:But xb w wr
 below:Below t w wr
 ne:xb≠t
 ns:sb≠xb
section
variable {w wr w' : World} {t xb sb:Nat} {r:RY} {f:RF} {va vr:Value} {y:RSx} {ox:Array Value}
theorem kY.next (h:kY w wr t xb sb r f va vr y ox)(hb:Below wr.heap.size wr w'):kY w w' t xb sb r f va vr y ox :=
 ⟨h.ac.below hb h.ac.lt,(hb.block _ (Array.getElem?_eq_some_iff.1 h.ob).1).trans h.ob,(hb.block _ (Array.getElem?_eq_some_iff.1 h.scb).1).trans h.scb,h.but.nxt hb,h.below.trans (hb.mono (Nat.le_of_lt h.ac.lt)),h.ne,h.ns⟩
theorem kY.set (h:kY w wr t xb sb r f va vr y ox)(hx:t≤xb)(i:Nat)(u:Value):kY w (wr.setCell ⟨xb,i,none⟩ u) t xb sb r f va vr y (ox.setIfInBounds i u) :=
 ⟨h.ac.setO h.ne u,cR h.ob u,(hZ h.ns u).trans h.scb,⟨h.but.os,h.but.tape,h.but.output,by simp[World.setCell];exact h.but.size,fun j hj hn=>(hZ hn u).trans (h.but.block j hj hn)⟩,h.below.setCell hx u,h.ne,h.ns⟩
theorem kY.oc (h:kY w wr t xb sb r f va vr y ox)(i:Nat):wr.cell? ⟨xb,i,none⟩=ox[i]?:=by simp[World.cell?,h.ob]
theorem kY.of (h:kY w wr t xb sb r f va vr y ox)(i:Nat):wr.frozen? ⟨xb,i,none⟩=false:=by simp[World.frozen?,h.ob]
theorem kY.sc (h:kY w wr t xb sb r f va vr y ox)(i:Nat):wr.cell? ⟨sb,i,none⟩=(#[I O y.num,.string y.nm,I O y.t.op,I O y.t.num,I O y.t.more,.slice y.t.p y.t.n y.t.c,.slice y.bp y.bn y.bc,I O y.least,I O y.ex,.bool y.needs]:Array Value)[i]?:=by simp[World.cell?,h.scb]
end
def AmG (t xb:Nat) (r:RY) (f:RF) (va vr:Value) (ox:Array Value) (w:World) (e:Ending) (w' : World):Prop :=
 e = .returned (I O 0)∧zD w' t r f va vr∧w'.heap[xb]?=some (.cells ox 91)∧But xb w w'
theorem wZ {n:Int}(h0:0≤n)(h1:n≤268435456):Re.area n=true:=by unfold Re.area;simp[h0,h1]
theorem pY (d t xb:Nat)(r:RY)(l:YLaw)(rf:RF)(va vr:Value)(y:RSx)(s:Sch)(k:Nat)(fa nu D N:Int)(w:World)(hA:zD w t r rf va vr)(hY:YV (fun b=>b<t) w d r l)
  (hl:YOk l) (hk:l.sch[k]?=some s) (hv:SV (fun b=>b<t) w d y s) (hx:w.heap[xb]?=some (.cells #[I O fa,I O nu,I O D,I O N,I O 0,I O 0,I O 0,I O 0,I O 0] 91)) (htx:t<xb) (n0:0≤N) (nd:N≤D) (d1:D≤268435456) (hd0:0≤rf.day) (hd1:rf.day≤36864) :
  Calls Tryz.prog 100 #[.pointer (some ⟨t,0,none⟩),.pointer (some ⟨xb,0,none⟩),.agg (zN y).toArray] w (AmG t xb r rf va vr #[I O fa,I O nu,I O D,I O N,I O (zA l s D N),I O (zL s (zA l s D N)),I O (left l.late rf.day (zL s (zA l s D N))),I O 0,I O 0] w):=by
 have hxl:xb<w.heap.size:=(Array.getElem?_eq_some_iff.1 hx).1;have htl:=hA.lt;have hpb:=bJ hl s n0 nd d1;have h17:=hl.one hk;have hle:=hv.least;have hmem:s∈l.sch:=List.mem_of_getElem? hk;have hz:y.nm.size≤9223372036854775807:=by rw[hv.nm];exact hY.small s hmem
 have PD:=mh (fun (W:World) (hb:Below t w W)=>show Calls Tryz.prog 143 #[.slice r.tp l.steps.length r.tc,I O D,I O N] W fun e w' => e = .returned (.tuple #[I O (Re.paidVal l.steps D N),I O 0])∧Below W.heap.size W w' from by
  have:=gSA r.tp l.steps r.tc D N W (hY.lowB hb).steps;have e:Re.paidErr l.steps D N=0:=by
   unfold Re.paidErr;rw[if_neg (by rw[Re.chk_zero.2 hl.steps];decide),if_neg (by rw[wZ (by omega) d1,wZ n0 (by omega)];simp)]
  rw[e]at this
  exact this)
 have PV:=mh (show zA l s D N=if s.least≤N then Re.paidVal l.steps D N else 0 from rfl);obtain⟨p,ep⟩:∃p,zA l s D N=p:=⟨_,rfl⟩;rw[ep]at hpb PV ⊢;have hae:kS s p=0:=by unfold kS;rw[if_neg (by omega),if_neg (by omega)]
 have AM:=mh (fun (W:World) (hb:Below t w W)=>show Calls Tryz.prog 144 #[.agg #[I O y.num,.string y.nm,I O y.t.op,I O y.t.num,I O y.t.more,.slice y.t.p y.t.n y.t.c,.slice y.bp y.bn y.bc,I O y.least,I O y.ex,.bool y.needs],I O p] W (lQ (uK s p,0) W) from by
  have:=tS d y s p W (hv.change (Q' := fun b=>b<t) hb.size fun b q _=>⟨hb.block b q,q⟩) hz;rw[hae]at this
  exact this)
 have ha0:=fX h17 p;have ER:=mh (show zL s p=min (uK s p) 68719476736 from rfl);obtain⟨A,eA⟩:∃A,uK s p=A:=⟨_,rfl⟩;rw[eA]at AM ha0 ER;obtain⟨R,eR⟩:∃R,zL s p=R:=⟨_,rfl⟩;rw[eR]at ER ⊢;have hR:0≤R∧R≤68719476736:=by rw[ER.out];omega
 have PY:=mh (fun (W:World)=>show Calls Tryz.prog 145 #[.agg #[I O r.due,I O r.last,I O r.mille],I O rf.day,I O R] W (PayG (left l.late rf.day R,0) W) from by
  have:=vJA r.due r.last r.mille rf.day R W;have el:(⟨r.due,r.last,r.mille⟩:Lat)=l.late:=by rw[hY.due,hY.last,hY.mille]
  have hlt:=hl.late;have e:payE l.late rf.day R=0:=by
   have h1:=hlt.d0;have h2:=hlt.d1;have h3:=hlt.d2;have h4:=hlt.m0;have h5:=hlt.m1;unfold payE;rw[if_neg (by unfold chkL;rw[if_neg (by omega)];decide),if_neg (by unfold dayB;simp;omega),if_neg (by omega)]
  rw[el,e]at this;unfold payV at this;rw[if_neg (by rw[e];decide)]at this
  exact this)
 obtain⟨TM,eT⟩:∃T,left l.late rf.day R=T:=⟨_,rfl⟩;rw[eT]at PY ⊢;have HTN:=mh hY.tn;have HLE:=mh hle;obtain⟨sb,esb⟩:∃b,w.heap.size=b:=⟨_,rfl⟩
 have HM:=mh (show kY w (w.alloc (.cells #[I O y.num,.string y.nm,I O y.t.op,I O y.t.num,I O y.t.more,.slice y.t.p y.t.n y.t.c,.slice y.bp y.bn y.bc,I O y.least,I O y.ex,.bool y.needs] 81)) t xb sb r rf va vr y #[I O fa,I O nu,I O D,I O N,I O 0,I O 0,I O 0,I O 0,I O 0] from by
  have hb:=(brf w.heap.size w).alloc mle (.cells #[I O y.num,.string y.nm,I O y.t.op,I O y.t.num,I O y.t.more,.slice y.t.p y.t.n y.t.c,.slice y.bp y.bn y.bc,I O y.least,I O y.ex,.bool y.needs] 81);rw[← esb]
  exact⟨hA.below hb htl,(hb.block _ hxl).trans hx,Array.getElem?_push_size,But.of_below hb,hb.mono (by omega),by omega,by omega⟩)
 have hxt:t≤xb:=by omega
 clear hA hY hv hx hle hz hae eT eR eA ep hl hk hmem h17;simp only[zN]
 go_enter Tryz.func100,Tryz.ntmps100
 go_wp2_with fail
 generalize w.alloc (.cells #[I O y.num,.string y.nm,I O y.t.op,I O y.t.num,I O y.t.more,.slice y.t.p y.t.n y.t.c,.slice y.bp y.bn y.bc,I O y.least,I O y.ex,.bool y.needs] 81)=w1 at *;have x3:=HM.oc 3;have s7:=HM.sc 7
 by_cases hge:s.least≤N
 ·have hd:decide (y.least≤N)=true:=dqt (by rw[HLE.out];exact hge)
  have hp:Re.paidVal l.steps D N=p:=by rw[PV.out,if_pos hge]
  rw[hp]at PD;clear hge hp;refine wp_region_quiet_lit (by kernel_rfl) (by kernel_rfl) ?_
  try simp only[List.append_eq,List.cons_append,List.nil_append]
  repeat (go_big_quiet_step (fail))
  refine wpQuiet_nil ?_
  intro _ hwq;obtain⟨nq,hwr⟩:=hwq;subst hwr;obtain⟨w2,ew2⟩:∃W,w1.drewN nq=W:=⟨_,rfl⟩;rw[ew2];have HM2:=mh (show kY w w2 t xb sb r rf va vr y #[I O fa,I O nu,I O D,I O N,I O 0,I O 0,I O 0,I O 0,I O 0] from ew2▸HM.next (qQ _ _));clear ew2 x3 s7 HM;have KD3:=mh (show w2.drew.cell? ⟨t,1,none⟩=some (.slice r.tp l.steps.length r.tc)∧w2.drew.cell? ⟨xb,2,none⟩=some (I O D)∧w2.drew.cell? ⟨xb,3,none⟩=some (I O N) from⟨by rw[← HTN.out];exact HM2.ac.cell 1 _ rfl,HM2.oc 2,HM2.oc 3⟩)
  go_wp2_with fail
  go_region_held3 (fun w' => w'.cell? ⟨t,1,none⟩=some (.slice r.tp l.steps.length r.tc)∧w'.cell? ⟨xb,2,none⟩=some (I O D)∧w'.cell? ⟨xb,3,none⟩=some (I O N)) (first|with_reducible exact KD3.out|with_reducible exact K3.out|with_reducible exact K4.out|go_keep) (first
   | (go_at_call 143;(with_reducible refine cmo (PD.out _ HM2.out.below.drew) ?_);rintro e w3 ⟨rfl,hb3⟩;have HM3:=mh ((HM2.next (brf _ _).drew).next hb3);have K3:=mh (show w3.cell? ⟨t,1,none⟩=some (.slice r.tp l.steps.length r.tc)∧w3.cell? ⟨xb,2,none⟩=some (I O D)∧w3.cell? ⟨xb,3,none⟩=some (I O N) from⟨by rw[← HTN.out];exact HM3.ac.cell 1 _ rfl,HM3.oc 2,HM3.oc 3⟩);have x4:=HM3.oc 4;have x4f:=HM3.of 4;have HM4:=mh (HM3.set hxt 4 (I O p));have K4:=mh (show(w3.setCell ⟨xb,4,none⟩ (I O p)).cell? ⟨t,1,none⟩=some (.slice r.tp l.steps.length r.tc)∧(w3.setCell ⟨xb,4,none⟩ (I O p)).cell? ⟨xb,2,none⟩=some (I O D)∧(w3.setCell ⟨xb,4,none⟩ (I O p)).cell? ⟨xb,3,none⟩=some (I O N) from⟨by rw[← HTN.out];exact HM4.ac.cell 1 _ rfl,HM4.oc 2,HM4.oc 3⟩);clear hb3)
   | fail)
  have HM4' := mh (show kY w (w3.setCell ⟨xb,4,none⟩ (I O p)) t xb sb r rf va vr y #[I O fa,I O nu,I O D,I O N,I O p,I O 0,I O 0,I O 0,I O 0] from HM4.out);generalize w3.setCell ⟨xb,4,none⟩ (I O p)=w4 at *;clear x4 x4f K3 KD3;have KD6:=mh (show w4.drew.cell? ⟨xb,4,none⟩=some (I O p)∧w4.drew.cell? ⟨sb,0,none⟩=some (I O y.num)∧w4.drew.cell? ⟨sb,1,none⟩=some (.string y.nm)∧w4.drew.cell? ⟨sb,2,none⟩=some (I O y.t.op)∧w4.drew.cell? ⟨sb,3,none⟩=some (I O y.t.num)∧w4.drew.cell? ⟨sb,4,none⟩=some (I O y.t.more)∧w4.drew.cell? ⟨sb,5,none⟩=some (.slice y.t.p y.t.n y.t.c)∧w4.drew.cell? ⟨sb,6,none⟩=some (.slice y.bp y.bn y.bc)∧w4.drew.cell? ⟨sb,7,none⟩=some (I O y.least)∧w4.drew.cell? ⟨sb,8,none⟩=some (I O y.ex)∧w4.drew.cell? ⟨sb,9,none⟩=some (.bool y.needs) from⟨HM4'.oc 4,HM4'.sc 0,HM4'.sc 1,HM4'.sc 2,HM4'.sc 3,HM4'.sc 4,HM4'.sc 5,HM4'.sc 6,HM4'.sc 7,HM4'.sc 8,HM4'.sc 9⟩);have o4:=HM4'.oc 4;have x5:=HM4'.oc 5;have x5f:=HM4'.of 5
  go_wp2_with fail
  go_region_held3 (fun w' => w'.cell? ⟨xb,4,none⟩=some (I O p)∧w'.cell? ⟨sb,0,none⟩=some (I O y.num)∧w'.cell? ⟨sb,1,none⟩=some (.string y.nm)∧w'.cell? ⟨sb,2,none⟩=some (I O y.t.op)∧w'.cell? ⟨sb,3,none⟩=some (I O y.t.num)∧w'.cell? ⟨sb,4,none⟩=some (I O y.t.more)∧w'.cell? ⟨sb,5,none⟩=some (.slice y.t.p y.t.n y.t.c)∧w'.cell? ⟨sb,6,none⟩=some (.slice y.bp y.bn y.bc)∧w'.cell? ⟨sb,7,none⟩=some (I O y.least)∧w'.cell? ⟨sb,8,none⟩=some (I O y.ex)∧w'.cell? ⟨sb,9,none⟩=some (.bool y.needs)) (first|with_reducible exact KD6.out|with_reducible exact K7.out|with_reducible exact K8.out|go_keep) (first
   | (go_at_call 144;(with_reducible refine cmo (AM.out _ HM4'.out.below.drew) ?_);rintro e w7 ⟨rfl,hb7⟩;have HM7:=mh ((HM4'.next (brf _ _).drew).next hb7);have K7:=mh ((kd hb7 <| kd hb7 <| kc hb7 <| kc hb7 <| k1 hb7) KD6);have z5:=HM7.oc 5;have z5f:=HM7.of 5;have HM8:=mh (HM7.set hxt 5 (I O A));have K8:=mh (show(w7.setCell ⟨xb,5,none⟩ (I O A)).cell? ⟨xb,4,none⟩=some (I O p)∧(w7.setCell ⟨xb,5,none⟩ (I O A)).cell? ⟨sb,0,none⟩=some (I O y.num)∧(w7.setCell ⟨xb,5,none⟩ (I O A)).cell? ⟨sb,1,none⟩=some (.string y.nm)∧(w7.setCell ⟨xb,5,none⟩ (I O A)).cell? ⟨sb,2,none⟩=some (I O y.t.op)∧(w7.setCell ⟨xb,5,none⟩ (I O A)).cell? ⟨sb,3,none⟩=some (I O y.t.num)∧(w7.setCell ⟨xb,5,none⟩ (I O A)).cell? ⟨sb,4,none⟩=some (I O y.t.more)∧(w7.setCell ⟨xb,5,none⟩ (I O A)).cell? ⟨sb,5,none⟩=some (.slice y.t.p y.t.n y.t.c)∧(w7.setCell ⟨xb,5,none⟩ (I O A)).cell? ⟨sb,6,none⟩=some (.slice y.bp y.bn y.bc)∧(w7.setCell ⟨xb,5,none⟩ (I O A)).cell? ⟨sb,7,none⟩=some (I O y.least)∧(w7.setCell ⟨xb,5,none⟩ (I O A)).cell? ⟨sb,8,none⟩=some (I O y.ex)∧(w7.setCell ⟨xb,5,none⟩ (I O A)).cell? ⟨sb,9,none⟩=some (.bool y.needs) from⟨HM8.oc 4,HM8.sc 0,HM8.sc 1,HM8.sc 2,HM8.sc 3,HM8.sc 4,HM8.sc 5,HM8.sc 6,HM8.sc 7,HM8.sc 8,HM8.sc 9⟩);clear hb7)
   | fail)
  have HM8' := mh (show kY w (w7.setCell ⟨xb,5,none⟩ (I O A)) t xb sb r rf va vr y #[I O fa,I O nu,I O D,I O N,I O p,I O A,I O 0,I O 0,I O 0] from HM8.out);generalize w7.setCell ⟨xb,5,none⟩ (I O A)=w8 at *;have v5:=HM8'.oc 5;have v5f:=HM8'.of 5;clear z5 z5f K7 KD6 o4 x5 x5f
  go_wp2_with fail
  rw[show min A 68719476736=R from ER.out.symm];have HM9:=mh (show kY w (w8.setCell ⟨xb,5,none⟩ (I O R)) t xb sb r rf va vr y #[I O fa,I O nu,I O D,I O N,I O p,I O R,I O 0,I O 0,I O 0] from HM8'.set hxt 5 _);generalize w8.setCell ⟨xb,5,none⟩ (I O R)=w9 at *;clear v5 v5f;have KDA:=mh (show w9.drew.cell? ⟨t,2,none⟩=some (I O r.due)∧w9.drew.cell? ⟨t,3,none⟩=some (I O r.last)∧w9.drew.cell? ⟨t,4,none⟩=some (I O r.mille)∧w9.drew.cell? ⟨t,11,none⟩=some (I O rf.day)∧w9.drew.cell? ⟨xb,5,none⟩=some (I O R) from⟨HM9.ac.cell 2 _ rfl,HM9.ac.cell 3 _ rfl,HM9.ac.cell 4 _ rfl,HM9.ac.cell 11 _ rfl,HM9.oc 5⟩)
  go_region_held3 (fun w' => w'.cell? ⟨t,2,none⟩=some (I O r.due)∧w'.cell? ⟨t,3,none⟩=some (I O r.last)∧w'.cell? ⟨t,4,none⟩=some (I O r.mille)∧w'.cell? ⟨t,11,none⟩=some (I O rf.day)∧w'.cell? ⟨xb,5,none⟩=some (I O R)) (first|with_reducible exact KDA.out|with_reducible exact KB.out|with_reducible exact KC.out|go_keep) (first
   | (go_at_call 145;(with_reducible refine cmo (PY.out _) ?_);rintro e wa ⟨rfl,hba⟩;have HMA:=mh ((HM9.next (brf _ _).drew).next hba);have KB:=mh ((kd hba <| k1 hba) KDA);have x6:=HMA.oc 6;have x6f:=HMA.of 6;have HMB:=mh (HMA.set hxt 6 (I O TM));have KC:=mh (show(wa.setCell ⟨xb,6,none⟩ (I O TM)).cell? ⟨t,2,none⟩=some (I O r.due)∧(wa.setCell ⟨xb,6,none⟩ (I O TM)).cell? ⟨t,3,none⟩=some (I O r.last)∧(wa.setCell ⟨xb,6,none⟩ (I O TM)).cell? ⟨t,4,none⟩=some (I O r.mille)∧(wa.setCell ⟨xb,6,none⟩ (I O TM)).cell? ⟨t,11,none⟩=some (I O rf.day)∧(wa.setCell ⟨xb,6,none⟩ (I O TM)).cell? ⟨xb,5,none⟩=some (I O R) from⟨HMB.ac.cell 2 _ rfl,HMB.ac.cell 3 _ rfl,HMB.ac.cell 4 _ rfl,HMB.ac.cell 11 _ rfl,HMB.oc 5⟩);clear hba)
   | fail)
  have HMB' := mh (show kY w (wa.setCell ⟨xb,6,none⟩ (I O TM)) t xb sb r rf va vr y #[I O fa,I O nu,I O D,I O N,I O p,I O R,I O TM,I O 0,I O 0] from HMB.out);generalize wa.setCell ⟨xb,6,none⟩ (I O TM)=wb at *;clear x6 x6f KB KDA
  go_wp2
  go_ret
  exact⟨rfl,HMB'.ac,HMB'.ob,HMB'.but⟩
 ·have hd:decide (y.least≤N)=false:=dqf (by rw[HLE.out];exact hge)
  obtain rfl:p=0:=by rw[PV.out,if_neg hge]
  clear hge;refine wp_region_quiet_lit (by kernel_rfl) (by kernel_rfl) ?_
  try simp only[List.append_eq,List.cons_append,List.nil_append]
  repeat (go_big_quiet_step (fail))
  refine wpQuiet_nil ?_
  intro _ hwq;obtain⟨nq,hwr⟩:=hwq;subst hwr;obtain⟨w2,ew2⟩:∃W,w1.drewN nq=W:=⟨_,rfl⟩;rw[ew2];have HM2:=mh (show kY w w2 t xb sb r rf va vr y #[I O fa,I O nu,I O D,I O N,I O 0,I O 0,I O 0,I O 0,I O 0] from ew2▸HM.next (qQ _ _));clear ew2 x3 s7 HM
  go_wp2_with fail
  have KD6:=mh (show w2.drew.cell? ⟨xb,4,none⟩=some (I O 0)∧w2.drew.cell? ⟨sb,0,none⟩=some (I O y.num)∧w2.drew.cell? ⟨sb,1,none⟩=some (.string y.nm)∧w2.drew.cell? ⟨sb,2,none⟩=some (I O y.t.op)∧w2.drew.cell? ⟨sb,3,none⟩=some (I O y.t.num)∧w2.drew.cell? ⟨sb,4,none⟩=some (I O y.t.more)∧w2.drew.cell? ⟨sb,5,none⟩=some (.slice y.t.p y.t.n y.t.c)∧w2.drew.cell? ⟨sb,6,none⟩=some (.slice y.bp y.bn y.bc)∧w2.drew.cell? ⟨sb,7,none⟩=some (I O y.least)∧w2.drew.cell? ⟨sb,8,none⟩=some (I O y.ex)∧w2.drew.cell? ⟨sb,9,none⟩=some (.bool y.needs) from⟨HM2.oc 4,HM2.sc 0,HM2.sc 1,HM2.sc 2,HM2.sc 3,HM2.sc 4,HM2.sc 5,HM2.sc 6,HM2.sc 7,HM2.sc 8,HM2.sc 9⟩);have o4:=HM2.oc 4;have x5:=HM2.oc 5;have x5f:=HM2.of 5
  go_wp2_with fail
  go_region_held3 (fun w' => w'.cell? ⟨xb,4,none⟩=some (I O 0)∧w'.cell? ⟨sb,0,none⟩=some (I O y.num)∧w'.cell? ⟨sb,1,none⟩=some (.string y.nm)∧w'.cell? ⟨sb,2,none⟩=some (I O y.t.op)∧w'.cell? ⟨sb,3,none⟩=some (I O y.t.num)∧w'.cell? ⟨sb,4,none⟩=some (I O y.t.more)∧w'.cell? ⟨sb,5,none⟩=some (.slice y.t.p y.t.n y.t.c)∧w'.cell? ⟨sb,6,none⟩=some (.slice y.bp y.bn y.bc)∧w'.cell? ⟨sb,7,none⟩=some (I O y.least)∧w'.cell? ⟨sb,8,none⟩=some (I O y.ex)∧w'.cell? ⟨sb,9,none⟩=some (.bool y.needs)) (first|with_reducible exact KD6.out|with_reducible exact K7.out|with_reducible exact K8.out|go_keep) (first
   | (go_at_call 144;(with_reducible refine cmo (AM.out _ HM2.out.below.drew) ?_);rintro e w7 ⟨rfl,hb7⟩;have HM7:=mh ((HM2.next (brf _ _).drew).next hb7);have K7:=mh ((kd hb7 <| kd hb7 <| kc hb7 <| kc hb7 <| k1 hb7) KD6);have z5:=HM7.oc 5;have z5f:=HM7.of 5;have HM8:=mh (HM7.set hxt 5 (I O A));have K8:=mh (show(w7.setCell ⟨xb,5,none⟩ (I O A)).cell? ⟨xb,4,none⟩=some (I O 0)∧(w7.setCell ⟨xb,5,none⟩ (I O A)).cell? ⟨sb,0,none⟩=some (I O y.num)∧(w7.setCell ⟨xb,5,none⟩ (I O A)).cell? ⟨sb,1,none⟩=some (.string y.nm)∧(w7.setCell ⟨xb,5,none⟩ (I O A)).cell? ⟨sb,2,none⟩=some (I O y.t.op)∧(w7.setCell ⟨xb,5,none⟩ (I O A)).cell? ⟨sb,3,none⟩=some (I O y.t.num)∧(w7.setCell ⟨xb,5,none⟩ (I O A)).cell? ⟨sb,4,none⟩=some (I O y.t.more)∧(w7.setCell ⟨xb,5,none⟩ (I O A)).cell? ⟨sb,5,none⟩=some (.slice y.t.p y.t.n y.t.c)∧(w7.setCell ⟨xb,5,none⟩ (I O A)).cell? ⟨sb,6,none⟩=some (.slice y.bp y.bn y.bc)∧(w7.setCell ⟨xb,5,none⟩ (I O A)).cell? ⟨sb,7,none⟩=some (I O y.least)∧(w7.setCell ⟨xb,5,none⟩ (I O A)).cell? ⟨sb,8,none⟩=some (I O y.ex)∧(w7.setCell ⟨xb,5,none⟩ (I O A)).cell? ⟨sb,9,none⟩=some (.bool y.needs) from⟨HM8.oc 4,HM8.sc 0,HM8.sc 1,HM8.sc 2,HM8.sc 3,HM8.sc 4,HM8.sc 5,HM8.sc 6,HM8.sc 7,HM8.sc 8,HM8.sc 9⟩);clear hb7)
   | fail)
  have HM8' := mh (show kY w (w7.setCell ⟨xb,5,none⟩ (I O A)) t xb sb r rf va vr y #[I O fa,I O nu,I O D,I O N,I O 0,I O A,I O 0,I O 0,I O 0] from HM8.out);generalize w7.setCell ⟨xb,5,none⟩ (I O A)=w8 at *;have v5:=HM8'.oc 5;have v5f:=HM8'.of 5;clear z5 z5f K7 KD6 o4 x5 x5f
  go_wp2_with fail
  rw[show min A 68719476736=R from ER.out.symm];have HM9:=mh (show kY w (w8.setCell ⟨xb,5,none⟩ (I O R)) t xb sb r rf va vr y #[I O fa,I O nu,I O D,I O N,I O 0,I O R,I O 0,I O 0,I O 0] from HM8'.set hxt 5 _);generalize w8.setCell ⟨xb,5,none⟩ (I O R)=w9 at *;clear v5 v5f;have KDA:=mh (show w9.drew.cell? ⟨t,2,none⟩=some (I O r.due)∧w9.drew.cell? ⟨t,3,none⟩=some (I O r.last)∧w9.drew.cell? ⟨t,4,none⟩=some (I O r.mille)∧w9.drew.cell? ⟨t,11,none⟩=some (I O rf.day)∧w9.drew.cell? ⟨xb,5,none⟩=some (I O R) from⟨HM9.ac.cell 2 _ rfl,HM9.ac.cell 3 _ rfl,HM9.ac.cell 4 _ rfl,HM9.ac.cell 11 _ rfl,HM9.oc 5⟩)
  go_region_held3 (fun w' => w'.cell? ⟨t,2,none⟩=some (I O r.due)∧w'.cell? ⟨t,3,none⟩=some (I O r.last)∧w'.cell? ⟨t,4,none⟩=some (I O r.mille)∧w'.cell? ⟨t,11,none⟩=some (I O rf.day)∧w'.cell? ⟨xb,5,none⟩=some (I O R)) (first|with_reducible exact KDA.out|with_reducible exact KB.out|with_reducible exact KC.out|go_keep) (first
   | (go_at_call 145;(with_reducible refine cmo (PY.out _) ?_);rintro e wa ⟨rfl,hba⟩;have HMA:=mh ((HM9.next (brf _ _).drew).next hba);have KB:=mh ((kd hba <| k1 hba) KDA);have x6:=HMA.oc 6;have x6f:=HMA.of 6;have HMB:=mh (HMA.set hxt 6 (I O TM));have KC:=mh (show(wa.setCell ⟨xb,6,none⟩ (I O TM)).cell? ⟨t,2,none⟩=some (I O r.due)∧(wa.setCell ⟨xb,6,none⟩ (I O TM)).cell? ⟨t,3,none⟩=some (I O r.last)∧(wa.setCell ⟨xb,6,none⟩ (I O TM)).cell? ⟨t,4,none⟩=some (I O r.mille)∧(wa.setCell ⟨xb,6,none⟩ (I O TM)).cell? ⟨t,11,none⟩=some (I O rf.day)∧(wa.setCell ⟨xb,6,none⟩ (I O TM)).cell? ⟨xb,5,none⟩=some (I O R) from⟨HMB.ac.cell 2 _ rfl,HMB.ac.cell 3 _ rfl,HMB.ac.cell 4 _ rfl,HMB.ac.cell 11 _ rfl,HMB.oc 5⟩);clear hba)
   | fail)
  have HMB' := mh (show kY w (wa.setCell ⟨xb,6,none⟩ (I O TM)) t xb sb r rf va vr y #[I O fa,I O nu,I O D,I O N,I O 0,I O R,I O TM,I O 0,I O 0] from HMB.out);generalize wa.setCell ⟨xb,6,none⟩ (I O TM)=wb at *;clear x6 x6f KB KDA
  go_wp2
  go_ret
  exact⟨rfl,HMB'.ac,HMB'.ob,HMB'.but⟩
end Go.Proofs.YtefcalgjnkigjaaGreat
namespace Go.Proofs.YtefcalgjnkigjaaGreat
open Go.RowKit Sc As
def SI:jJ Int:=⟨1,fun n => [I O n],fun _=>rfl,by decide,fun a u hu=>by
 simp only[List.mem_cons,List.not_mem_nil,or_false]at hu
 rw[hu];rfl⟩
theorem jTA:(Tryz.prog.info? 3).map (fun i=>(i.zero,i.size,i.bytes))=some (some (I O 0),1,8):=by kernel_rfl
theorem xR:fP SI Tryz.prog 3 22 8:=by
 obtain⟨i0,h1,h2,h3,h4⟩:=info_parts jTA;exact⟨⟨i0,_,h1,h2,h3,h4,rfl⟩,Tryz.underlying22⟩
theorem SI.flat_map (L:List Int):SI.flat L=L.map (Value.int .i64):=by
 induction L with
 | nil=>rfl
 | cons x L ih =>
   show [Value.int .i64 x]++SI.flat L=_
   rw[ih];rfl
theorem qD.ints {w:World}{p:Option Addr}{L:List Int}(h:qD SI w p L):qR w p L:=by
 refine⟨h.1,?_⟩
 rcases h.2 with e|⟨b,off,e,hl,hc⟩
 ·exact .inl e
 ·refine .inr ⟨b,off,e,hl,fun j hj=>hc j _ ?_⟩
  rw[SI.flat_map]
  simp[hj]
theorem qR.recs {w:World}{p:Option Addr}{L:List Int}(h:qR w p L):qD SI w p L:=by
 refine⟨h.1,?_⟩
 rcases h.2 with e|⟨b,off,e,hl,hc⟩
 ·exact .inl e
 ·refine .inr ⟨b,off,e,hl,fun j u hu=>?_⟩
  rw[SI.flat_map]at hu;have hj:j<L.length:=by
   have:=(List.getElem?_eq_some_iff.1 hu).1
   simpa using this
  rw[hc j hj]
  simp[hj]at hu
  simp[hj,hu]
theorem yN.symm {u v:Value}(h:yN u v):yN v u:=fun g hg e=>h g e hg
theorem yN.nil (u:Value):yN u (.slice none 0 0):=fun _ _ e=>by cases e
structure gK (w wr:World) (t:Nat) (r:RY) (f:RF) (va vr v:Value) (A:List Awd) (R:List Rsn) (X:List Int):Prop where
 ac:zD wr t r f va vr
 oa:qX SA wr 91 (t+1) va A
 or:qX SRn wr 129 (t+1) vr R
 ot:qX SI wr 3 (t+1) v X
 low:Below t w wr
 d1:yN va vr
 d2:yN va v
 d3:yN vr v
section
variable {w wr w' : World} {t:Nat} {r:RY} {f:RF} {va vr v u:Value} {A A' : List Awd} {R R' : List Rsn} {X X' : List Int}
theorem gK.below (h:gK w wr t r f va vr v A R X)(hb:Below wr.heap.size wr w'):gK w w' t r f va vr v A R X :=
 ⟨h.ac.below hb h.ac.lt,h.oa.below hb,h.or.below hb,h.ot.below hb,h.low.trans (hb.mono (Nat.le_of_lt h.ac.lt)),h.d1,h.d2,h.d3⟩
theorem gK.rsn (h:gK w wr t r f va vr v A R X)(ha:zD w' t r f va u)(ho:qX SRn w' 129 (t+1) u R')(hc:Chg t vr u wr w'):gK w w' t r f va u v A R' X:=by
 obtain⟨k1,k2⟩:=hc.keep h.oa (Nat.lt_succ_self t) h.d1;obtain⟨k3,k4⟩:=hc.keep h.ot (Nat.lt_succ_self t) h.d3.symm;exact⟨ha,k1,ho,k3,h.low.trans (hc.low mle (Nat.le_of_lt h.ac.lt) fun g hg=>Nat.le_of_lt (h.or.lt hg).1),k2,h.d2,k4.symm⟩
theorem gK.far (h:gK w wr t r f va vr v A R X){xb:Nat}(hb:But xb wr w')(hx:t<xb)(n1:va.ownBlock≠some xb)(n2:vr.ownBlock≠some xb)(n3:v.ownBlock≠some xb):gK w w' t r f va vr v A R X:=by
 have k:∀i,i<wr.heap.size→i≠xb→w'.heap[i]?=wr.heap[i]?:=hb.block
 exact⟨h.ac.same (k t h.ac.lt (by omega)),h.oa.blocks fun g hg _ hl=>k g hl (fun e=>n1 (e▸hg)),h.or.blocks fun g hg _ hl=>k g hl (fun e=>n2 (e▸hg)),h.ot.blocks fun g hg _ hl=>k g hl (fun e=>n3 (e▸hg)),
  h.low.trans ⟨hb.os,hb.tape,hb.output,hb.size,fun i hi=>k i (Nat.lt_trans hi h.ac.lt) (by omega)⟩,h.d1,h.d2,h.d3⟩
theorem xC {w w' : World}{B H:Nat}{u u' x:Value}(h:jN w w' B H u u')(hd:yN u x)(hx:∀g,x.ownBlock=some g→g<w.heap.size)(hH:w.heap.size≤H):yN u' x:=fun g hg e=>by
 rcases h.block with k|k
 ·exact hd g (k▸hg) e
 ·have:=hx g e
  rw[k]at hg
  cases hg
  omega
structure fD (w wr:World) (t:Nat) (r:RY) (f:RF) (va vr v u:Value) (A:List Awd) (R:List Rsn) (X:List Int):Prop where
 ac:zD wr t r f va vr
 oa:qX SA wr 91 (t+1) u A
 or:qX SRn wr 129 (t+1) vr R
 ot:qX SI wr 3 (t+1) v X
 low:Below t w wr
 d1:yN u vr
 d2:yN u v
 d3:yN vr v
theorem gK.appA (h:gK w wr t r f va vr v A R X){H:Nat}(ho:qX SA w' 91 (t+1) u A')(ha:jN wr w' (t+1) H va u)(hH:wr.heap.size≤H):fD w w' t r f va vr v u A' R X:=by
 have e1:vr.ownBlock=none∨vr.ownBlock≠va.ownBlock:=by
  cases e:vr.ownBlock with
  | none=>exact .inl rfl
  | some g=>exact .inr fun k=>h.d1 g k.symm e
 have e2:v.ownBlock=none∨v.ownBlock≠va.ownBlock:=by
  cases e:v.ownBlock with
  | none=>exact .inl rfl
  | some g=>exact .inr fun k=>h.d2 g k.symm e
 exact⟨h.ac.below ha.below (Nat.lt_succ_self t),ho,ha.keep h.or e1,ha.keep h.ot e2,h.low.trans (ha.below.mono (Nat.le_succ t)),xC ha h.d1 (fun g hg=>(h.or.lt hg).2) hH,xC ha h.d2 (fun g hg=>(h.ot.lt hg).2) hH,h.d3⟩
theorem fD.below (h:fD w wr t r f va vr v u A R X)(hb:Below wr.heap.size wr w'):fD w w' t r f va vr v u A R X :=
 ⟨h.ac.below hb h.ac.lt,h.oa.below hb,h.or.below hb,h.ot.below hb,h.low.trans (hb.mono (Nat.le_of_lt h.ac.lt)),h.d1,h.d2,h.d3⟩
theorem fD.appT {u' : Value}(h:fD w wr t r f va vr v u A R X){H:Nat}(ho:qX SI w' 3 (t+1) u' X')(ha:jN wr w' (t+1) H v u')(hH:wr.heap.size≤H):fD w w' t r f va vr u' u A R X' :=by
 have e1:u.ownBlock=none∨u.ownBlock≠v.ownBlock:=by
  cases e:u.ownBlock with
  | none=>exact .inl rfl
  | some g=>exact .inr fun k=>h.d2 g e k.symm
 have e2:vr.ownBlock=none∨vr.ownBlock≠v.ownBlock:=by
  cases e:vr.ownBlock with
  | none=>exact .inl rfl
  | some g=>exact .inr fun k=>h.d3 g e k.symm
 exact⟨h.ac.below ha.below (Nat.lt_succ_self t),ha.keep h.oa e1,ha.keep h.or e2,ho,h.low.trans (ha.below.mono (Nat.le_succ t)),h.d1,(xC ha h.d2.symm (fun g hg=>(h.oa.lt hg).2) hH).symm,(xC ha h.d3.symm (fun g hg=>(h.or.lt hg).2) hH).symm⟩
theorem fD.done (h:fD w wr t r f va vr v u A R X):gK w (wr.setCell ⟨t,13,none⟩ u) t r f u vr v A R X :=
 ⟨h.ac.setA u,h.oa.setOther (fun e=>by have:=(h.oa.lt e).1;omega) u,h.or.setOther (fun e=>by have:=(h.or.lt e).1;omega) u,h.ot.setOther (fun e=>by have:=(h.ot.lt e).1;omega) u,h.low.setCell mle u,h.d1,h.d2,h.d3⟩
end
/-! ### awards, a scheme at a time -/
theorem As.awardsN_succ {l:YLaw}{f:FarmF}{k:Nat}(hk:k<l.sch.length):qW l f (k+1)=qW l f k++if kM l.sch[k] f.lines=true then [uF l f k l.sch[k]] else []:=by
 show qW l f k++fV l f k=_
 unfold fV;rw[List.getElem?_eq_getElem hk]
theorem As.awardsN_le (l:YLaw)(f:FarmF)(k:Nat):(qW l f k).length≤k:=uN l f k
end Go.Proofs.YtefcalgjnkigjaaGreat
