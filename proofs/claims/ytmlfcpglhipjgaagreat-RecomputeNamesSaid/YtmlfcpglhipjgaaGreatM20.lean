/-
  PACKED (pack8.py): what is needed of the texts Ah, Ln, Ai, Cb, Ap, Cd, Stp.
-/
import Derived.Test.YtmlfcpglhipjgaaGreatM17
import Derived.Test.YtmlfcpglhipjgaaGreatM19
set_option maxRecDepth 100000
set_option maxHeartbeats 8000000
open Go.Value renaming int → I
open Go.IntKind renaming i64 → O
namespace Go.Proofs.YtmlfcpglhipjgaaGreat
open Go.RowKit Sc As
structure AmAt (w wr : World) (t xb sb : Nat) (r : RY) (f : RF) (va vr : Value) (y : RSx) (ox : Array Value) : Prop where
 ac : AcAt wr t r f va vr
 ob : wr.heap[xb]? = some (.cells ox 60)
 scb : wr.heap[sb]? = some (.cells #[I O y.num, .string y.nm, I O y.t.op, I O y.t.num, I O y.t.more, .slice y.t.p y.t.n y.t.c, .slice y.bp y.bn y.bc, I O y.least, I O y.ex, .bool y.needs] 101)
 but : But xb w wr
 below : Below t w wr
 ne : xb ≠ t
 ns : sb ≠ xb
section
variable {w wr w' : World} {t xb sb : Nat} {r : RY} {f : RF} {va vr : Value} {y : RSx} {ox : Array Value}
theorem AmAt.next (h : AmAt w wr t xb sb r f va vr y ox) (hb : Below wr.heap.size wr w') : AmAt w w' t xb sb r f va vr y ox :=
 ⟨h.ac.below hb h.ac.lt, (hb.block _ (Array.getElem?_eq_some_iff.1 h.ob).1).trans h.ob, (hb.block _ (Array.getElem?_eq_some_iff.1 h.scb).1).trans h.scb, h.but.nxt hb, h.below.trans (hb.mono (Nat.le_of_lt h.ac.lt)), h.ne, h.ns⟩
theorem AmAt.set (h : AmAt w wr t xb sb r f va vr y ox) (hx : t ≤ xb) (i : Nat) (u : Value) : AmAt w (wr.setCell ⟨xb, i, none⟩ u) t xb sb r f va vr y (ox.setIfInBounds i u) :=
 ⟨h.ac.setO h.ne u, setC h.ob u, (setC_far h.ns u).trans h.scb, ⟨h.but.os, h.but.tape, h.but.output, by simp [World.setCell]; exact h.but.size, fun j hj hn => (setC_far hn u).trans (h.but.block j hj hn)⟩, h.below.setCell hx u, h.ne, h.ns⟩
theorem AmAt.oc (h : AmAt w wr t xb sb r f va vr y ox) (i : Nat) : wr.cell? ⟨xb, i, none⟩ = ox[i]? := by simp [World.cell?, h.ob]
theorem AmAt.of (h : AmAt w wr t xb sb r f va vr y ox) (i : Nat) : wr.frozen? ⟨xb, i, none⟩ = false := by simp [World.frozen?, h.ob]
theorem AmAt.sc (h : AmAt w wr t xb sb r f va vr y ox) (i : Nat) : wr.cell? ⟨sb, i, none⟩ = (#[I O y.num, .string y.nm, I O y.t.op, I O y.t.num, I O y.t.more, .slice y.t.p y.t.n y.t.c, .slice y.bp y.bn y.bc, I O y.least, I O y.ex, .bool y.needs] : Array Value)[i]? := by simp [World.cell?, h.scb]
end
def AmG (t xb : Nat) (r : RY) (f : RF) (va vr : Value) (ox : Array Value) (w : World) (e : Ending) (w' : World) : Prop :=
 e = .returned (I O 0) ∧ AcAt w' t r f va vr ∧ w'.heap[xb]? = some (.cells ox 60) ∧ But xb w w'
theorem area_true {n : Int} (h0 : 0 ≤ n) (h1 : n ≤ 268435456) : Re.area n = true := by unfold Re.area; simp [h0, h1]
theorem amounts34_any (d t xb : Nat) (r : RY) (l : YLaw) (rf : RF) (va vr : Value) (y : RSx) (s : Sch) (k : Nat) (fa nu D N : Int) (w : World) (hA : AcAt w t r rf va vr) (hY : YV (fun b => b < t) w d r l)
  (hl : YOk l) (hk : l.sch[k]? = some s) (hv : SV (fun b => b < t) w d y s) (hx : w.heap[xb]? = some (.cells #[I O fa, I O nu, I O D, I O N, I O 0, I O 0, I O 0, I O 0, I O 0] 60)) (htx : t < xb) (n0 : 0 ≤ N) (nd : N ≤ D) (d1 : D ≤ 268435456) (hd0 : 0 ≤ rf.day) (hd1 : rf.day ≤ 36864) :
  Calls Tryz.prog 111 #[.pointer (some ⟨t, 0, none⟩), .pointer (some ⟨xb, 0, none⟩), .agg (sCells y).toArray] w (AmG t xb r rf va vr #[I O fa, I O nu, I O D, I O N, I O (paidOf l s D N), I O (ratedOf s (paidOf l s D N)), I O (left l.late rf.day (ratedOf s (paidOf l s D N))), I O 0, I O 0] w) := by
 have hxl : xb < w.heap.size := (Array.getElem?_eq_some_iff.1 hx).1; have htl := hA.lt; have hpb := paidOf_bd hl s n0 nd d1; have h17 := hl.one hk; have hle := hv.least; have hmem : s ∈ l.sch := List.mem_of_getElem? hk; have hz : y.nm.size ≤ 9223372036854775807 := by rw [hv.nm]; exact hY.small s hmem
 have PD := mh (fun (W : World) (hb : Below t w W) => show Calls Tryz.prog 154 #[.slice r.tp l.steps.length r.tc, I O D, I O N] W fun e w' => e = .returned (.tuple #[I O (Re.paidVal l.steps D N), I O 0]) ∧ Below W.heap.size W w' from by
  have := paid_any r.tp l.steps r.tc D N W (hY.lowB hb).steps; have e : Re.paidErr l.steps D N = 0 := by
   unfold Re.paidErr; rw [if_neg (by rw [Re.chk_zero.2 hl.steps]; decide), if_neg (by rw [area_true (by omega) d1, area_true n0 (by omega)]; simp)]
  rw [e] at this
  exact this)
 have PV := mh (show paidOf l s D N = if s.least ≤ N then Re.paidVal l.steps D N else 0 from rfl); obtain ⟨p, ep⟩ : ∃ p, paidOf l s D N = p := ⟨_, rfl⟩; rw [ep] at hpb PV ⊢; have hae : amtE s p = 0 := by unfold amtE; rw [if_neg (by omega), if_neg (by omega)]
 have AM := mh (fun (W : World) (hb : Below t w W) => show Calls Tryz.prog 155 #[.agg #[I O y.num, .string y.nm, I O y.t.op, I O y.t.num, I O y.t.more, .slice y.t.p y.t.n y.t.c, .slice y.bp y.bn y.bc, I O y.least, I O y.ex, .bool y.needs], I O p] W (ChkG (amtV s p, 0) W) from by
  have := amount17_any d y s p W (hv.change (Q' := fun b => b < t) hb.size fun b q _ => ⟨hb.block b q, q⟩) hz; rw [hae] at this
  exact this)
 have ha0 := amt_nonneg h17 p; have ER := mh (show ratedOf s p = min (amtV s p) 68719476736 from rfl); obtain ⟨A, eA⟩ : ∃ A, amtV s p = A := ⟨_, rfl⟩; rw [eA] at AM ha0 ER; obtain ⟨R, eR⟩ : ∃ R, ratedOf s p = R := ⟨_, rfl⟩; rw [eR] at ER ⊢; have hR : 0 ≤ R ∧ R ≤ 68719476736 := by rw [ER.out]; omega
 have PY := mh (fun (W : World) => show Calls Tryz.prog 156 #[.agg #[I O r.due, I O r.last, I O r.mille], I O rf.day, I O R] W (PayG (left l.late rf.day R, 0) W) from by
  have := pay30_any r.due r.last r.mille rf.day R W; have el : (⟨r.due, r.last, r.mille⟩ : Lat) = l.late := by rw [hY.due, hY.last, hY.mille]
  have hlt := hl.late; have e : payE l.late rf.day R = 0 := by
   have h1 := hlt.d0; have h2 := hlt.d1; have h3 := hlt.d2; have h4 := hlt.m0; have h5 := hlt.m1; unfold payE; rw [if_neg (by unfold chkL; rw [if_neg (by omega)]; decide), if_neg (by unfold dayB; simp; omega), if_neg (by omega)]
  rw [el, e] at this; unfold payV at this; rw [if_neg (by rw [e]; decide)] at this
  exact this)
 obtain ⟨TM, eT⟩ : ∃ T, left l.late rf.day R = T := ⟨_, rfl⟩; rw [eT] at PY ⊢; have HTN := mh hY.tn; have HLE := mh hle; obtain ⟨sb, esb⟩ : ∃ b, w.heap.size = b := ⟨_, rfl⟩
 have HM := mh (show AmAt w (w.alloc (.cells #[I O y.num, .string y.nm, I O y.t.op, I O y.t.num, I O y.t.more, .slice y.t.p y.t.n y.t.c, .slice y.bp y.bn y.bc, I O y.least, I O y.ex, .bool y.needs] 101)) t xb sb r rf va vr y #[I O fa, I O nu, I O D, I O N, I O 0, I O 0, I O 0, I O 0, I O 0] from by
  have hb := (brf w.heap.size w).alloc mle (.cells #[I O y.num, .string y.nm, I O y.t.op, I O y.t.num, I O y.t.more, .slice y.t.p y.t.n y.t.c, .slice y.bp y.bn y.bc, I O y.least, I O y.ex, .bool y.needs] 101); rw [← esb]
  exact ⟨hA.below hb htl, (hb.block _ hxl).trans hx, Array.getElem?_push_size, But.of_below hb, hb.mono (by omega), by omega, by omega⟩)
 have hxt : t ≤ xb := by omega
 clear hA hY hv hx hle hz hae eT eR eA ep hl hk hmem h17; simp only [sCells]
 go_enter Tryz.func111, Tryz.ntmps111
 go_wp2_with fail
 generalize w.alloc (.cells #[I O y.num, .string y.nm, I O y.t.op, I O y.t.num, I O y.t.more, .slice y.t.p y.t.n y.t.c, .slice y.bp y.bn y.bc, I O y.least, I O y.ex, .bool y.needs] 101) = w1 at *; have x3 := HM.out.oc 3; have s7 := HM.out.sc 7
 by_cases hge : s.least ≤ N
 ·have hd : decide (y.least ≤ N) = true := dqt (by rw [HLE.out]; exact hge)
  have hp : Re.paidVal l.steps D N = p := by rw [PV.out, if_pos hge]
  rw [hp] at PD; clear hge hp; refine wp_region_quiet_lit (by kernel_rfl) (by kernel_rfl) ?_
  try simp only [List.append_eq, List.cons_append, List.nil_append]
  repeat (go_big_quiet_step (fail))
  refine wpQuiet_nil ?_
  intro _ hwq; obtain ⟨nq, hwr⟩ := hwq; subst hwr; obtain ⟨w2, ew2⟩ : ∃ W, w1.drewN nq = W := ⟨_, rfl⟩; rw [ew2]; have HM2 := mh (show AmAt w w2 t xb sb r rf va vr y #[I O fa, I O nu, I O D, I O N, I O 0, I O 0, I O 0, I O 0, I O 0] from ew2 ▸ HM.out.next (drewN_below _ _)); clear ew2 x3 s7 HM; have KD3 := mh (show w2.drew.cell? ⟨t, 1, none⟩ = some (.slice r.tp l.steps.length r.tc) ∧ w2.drew.cell? ⟨xb, 2, none⟩ = some (I O D) ∧ w2.drew.cell? ⟨xb, 3, none⟩ = some (I O N) from ⟨by rw [← HTN.out]; exact HM2.out.ac.cell 1 _ rfl, HM2.out.oc 2, HM2.out.oc 3⟩)
  go_wp2_with fail
  go_region_held3 (fun w' => w'.cell? ⟨t, 1, none⟩ = some (.slice r.tp l.steps.length r.tc) ∧ w'.cell? ⟨xb, 2, none⟩ = some (I O D) ∧ w'.cell? ⟨xb, 3, none⟩ = some (I O N)) (first | with_reducible exact KD3.out | with_reducible exact K3.out | with_reducible exact K4.out | go_keep) (first
   | (go_at_call 154; (with_reducible refine cmo (PD.out _ HM2.out.below.drew) ?_); rintro e w3 ⟨rfl, hb3⟩; have HM3 := mh ((HM2.out.next (brf _ _).drew).next hb3); have K3 := mh (show w3.cell? ⟨t, 1, none⟩ = some (.slice r.tp l.steps.length r.tc) ∧ w3.cell? ⟨xb, 2, none⟩ = some (I O D) ∧ w3.cell? ⟨xb, 3, none⟩ = some (I O N) from ⟨by rw [← HTN.out]; exact HM3.out.ac.cell 1 _ rfl, HM3.out.oc 2, HM3.out.oc 3⟩); have x4 := HM3.out.oc 4; have x4f := HM3.out.of 4; have HM4 := mh (HM3.out.set hxt 4 (I O p)); have K4 := mh (show (w3.setCell ⟨xb, 4, none⟩ (I O p)).cell? ⟨t, 1, none⟩ = some (.slice r.tp l.steps.length r.tc) ∧ (w3.setCell ⟨xb, 4, none⟩ (I O p)).cell? ⟨xb, 2, none⟩ = some (I O D) ∧ (w3.setCell ⟨xb, 4, none⟩ (I O p)).cell? ⟨xb, 3, none⟩ = some (I O N) from ⟨by rw [← HTN.out]; exact HM4.out.ac.cell 1 _ rfl, HM4.out.oc 2, HM4.out.oc 3⟩); clear hb3)
   | fail)
  have HM4' := mh (show AmAt w (w3.setCell ⟨xb, 4, none⟩ (I O p)) t xb sb r rf va vr y #[I O fa, I O nu, I O D, I O N, I O p, I O 0, I O 0, I O 0, I O 0] from HM4.out); generalize w3.setCell ⟨xb, 4, none⟩ (I O p) = w4 at *; clear x4 x4f K3 KD3; have KD6 := mh (show w4.drew.cell? ⟨xb, 4, none⟩ = some (I O p) ∧ w4.drew.cell? ⟨sb, 0, none⟩ = some (I O y.num) ∧ w4.drew.cell? ⟨sb, 1, none⟩ = some (.string y.nm) ∧ w4.drew.cell? ⟨sb, 2, none⟩ = some (I O y.t.op) ∧ w4.drew.cell? ⟨sb, 3, none⟩ = some (I O y.t.num) ∧ w4.drew.cell? ⟨sb, 4, none⟩ = some (I O y.t.more) ∧ w4.drew.cell? ⟨sb, 5, none⟩ = some (.slice y.t.p y.t.n y.t.c) ∧ w4.drew.cell? ⟨sb, 6, none⟩ = some (.slice y.bp y.bn y.bc) ∧ w4.drew.cell? ⟨sb, 7, none⟩ = some (I O y.least) ∧ w4.drew.cell? ⟨sb, 8, none⟩ = some (I O y.ex) ∧ w4.drew.cell? ⟨sb, 9, none⟩ = some (.bool y.needs) from ⟨HM4'.out.oc 4, HM4'.out.sc 0, HM4'.out.sc 1, HM4'.out.sc 2, HM4'.out.sc 3, HM4'.out.sc 4, HM4'.out.sc 5, HM4'.out.sc 6, HM4'.out.sc 7, HM4'.out.sc 8, HM4'.out.sc 9⟩); have o4 := HM4'.out.oc 4; have x5 := HM4'.out.oc 5; have x5f := HM4'.out.of 5
  go_wp2_with fail
  go_region_held3 (fun w' => w'.cell? ⟨xb, 4, none⟩ = some (I O p) ∧ w'.cell? ⟨sb, 0, none⟩ = some (I O y.num) ∧ w'.cell? ⟨sb, 1, none⟩ = some (.string y.nm) ∧ w'.cell? ⟨sb, 2, none⟩ = some (I O y.t.op) ∧ w'.cell? ⟨sb, 3, none⟩ = some (I O y.t.num) ∧ w'.cell? ⟨sb, 4, none⟩ = some (I O y.t.more) ∧ w'.cell? ⟨sb, 5, none⟩ = some (.slice y.t.p y.t.n y.t.c) ∧ w'.cell? ⟨sb, 6, none⟩ = some (.slice y.bp y.bn y.bc) ∧ w'.cell? ⟨sb, 7, none⟩ = some (I O y.least) ∧ w'.cell? ⟨sb, 8, none⟩ = some (I O y.ex) ∧ w'.cell? ⟨sb, 9, none⟩ = some (.bool y.needs)) (first | with_reducible exact KD6.out | with_reducible exact K7.out | with_reducible exact K8.out | go_keep) (first
   | (go_at_call 155; (with_reducible refine cmo (AM.out _ HM4'.out.below.drew) ?_); rintro e w7 ⟨rfl, hb7⟩; have HM7 := mh ((HM4'.out.next (brf _ _).drew).next hb7); have K7 := mh ((kd hb7 <| kd hb7 <| kc hb7 <| kc hb7 <| k1 hb7) KD6.out); have z5 := HM7.out.oc 5; have z5f := HM7.out.of 5; have HM8 := mh (HM7.out.set hxt 5 (I O A)); have K8 := mh (show (w7.setCell ⟨xb, 5, none⟩ (I O A)).cell? ⟨xb, 4, none⟩ = some (I O p) ∧ (w7.setCell ⟨xb, 5, none⟩ (I O A)).cell? ⟨sb, 0, none⟩ = some (I O y.num) ∧ (w7.setCell ⟨xb, 5, none⟩ (I O A)).cell? ⟨sb, 1, none⟩ = some (.string y.nm) ∧ (w7.setCell ⟨xb, 5, none⟩ (I O A)).cell? ⟨sb, 2, none⟩ = some (I O y.t.op) ∧ (w7.setCell ⟨xb, 5, none⟩ (I O A)).cell? ⟨sb, 3, none⟩ = some (I O y.t.num) ∧ (w7.setCell ⟨xb, 5, none⟩ (I O A)).cell? ⟨sb, 4, none⟩ = some (I O y.t.more) ∧ (w7.setCell ⟨xb, 5, none⟩ (I O A)).cell? ⟨sb, 5, none⟩ = some (.slice y.t.p y.t.n y.t.c) ∧ (w7.setCell ⟨xb, 5, none⟩ (I O A)).cell? ⟨sb, 6, none⟩ = some (.slice y.bp y.bn y.bc) ∧ (w7.setCell ⟨xb, 5, none⟩ (I O A)).cell? ⟨sb, 7, none⟩ = some (I O y.least) ∧ (w7.setCell ⟨xb, 5, none⟩ (I O A)).cell? ⟨sb, 8, none⟩ = some (I O y.ex) ∧ (w7.setCell ⟨xb, 5, none⟩ (I O A)).cell? ⟨sb, 9, none⟩ = some (.bool y.needs) from ⟨HM8.out.oc 4, HM8.out.sc 0, HM8.out.sc 1, HM8.out.sc 2, HM8.out.sc 3, HM8.out.sc 4, HM8.out.sc 5, HM8.out.sc 6, HM8.out.sc 7, HM8.out.sc 8, HM8.out.sc 9⟩); clear hb7)
   | fail)
  have HM8' := mh (show AmAt w (w7.setCell ⟨xb, 5, none⟩ (I O A)) t xb sb r rf va vr y #[I O fa, I O nu, I O D, I O N, I O p, I O A, I O 0, I O 0, I O 0] from HM8.out); generalize w7.setCell ⟨xb, 5, none⟩ (I O A) = w8 at *; have v5 := HM8'.out.oc 5; have v5f := HM8'.out.of 5; clear z5 z5f K7 KD6 o4 x5 x5f
  go_wp2_with fail
  rw [show min A 68719476736 = R from ER.out.symm]; have HM9 := mh (show AmAt w (w8.setCell ⟨xb, 5, none⟩ (I O R)) t xb sb r rf va vr y #[I O fa, I O nu, I O D, I O N, I O p, I O R, I O 0, I O 0, I O 0] from HM8'.out.set hxt 5 _); generalize w8.setCell ⟨xb, 5, none⟩ (I O R) = w9 at *; clear v5 v5f; have KDA := mh (show w9.drew.cell? ⟨t, 2, none⟩ = some (I O r.due) ∧ w9.drew.cell? ⟨t, 3, none⟩ = some (I O r.last) ∧ w9.drew.cell? ⟨t, 4, none⟩ = some (I O r.mille) ∧ w9.drew.cell? ⟨t, 11, none⟩ = some (I O rf.day) ∧ w9.drew.cell? ⟨xb, 5, none⟩ = some (I O R) from ⟨HM9.out.ac.cell 2 _ rfl, HM9.out.ac.cell 3 _ rfl, HM9.out.ac.cell 4 _ rfl, HM9.out.ac.cell 11 _ rfl, HM9.out.oc 5⟩)
  go_region_held3 (fun w' => w'.cell? ⟨t, 2, none⟩ = some (I O r.due) ∧ w'.cell? ⟨t, 3, none⟩ = some (I O r.last) ∧ w'.cell? ⟨t, 4, none⟩ = some (I O r.mille) ∧ w'.cell? ⟨t, 11, none⟩ = some (I O rf.day) ∧ w'.cell? ⟨xb, 5, none⟩ = some (I O R)) (first | with_reducible exact KDA.out | with_reducible exact KB.out | with_reducible exact KC.out | go_keep) (first
   | (go_at_call 156; (with_reducible refine cmo (PY.out _) ?_); rintro e wa ⟨rfl, hba⟩; have HMA := mh ((HM9.out.next (brf _ _).drew).next hba); have KB := mh ((kd hba <| k1 hba) KDA.out); have x6 := HMA.out.oc 6; have x6f := HMA.out.of 6; have HMB := mh (HMA.out.set hxt 6 (I O TM)); have KC := mh (show (wa.setCell ⟨xb, 6, none⟩ (I O TM)).cell? ⟨t, 2, none⟩ = some (I O r.due) ∧ (wa.setCell ⟨xb, 6, none⟩ (I O TM)).cell? ⟨t, 3, none⟩ = some (I O r.last) ∧ (wa.setCell ⟨xb, 6, none⟩ (I O TM)).cell? ⟨t, 4, none⟩ = some (I O r.mille) ∧ (wa.setCell ⟨xb, 6, none⟩ (I O TM)).cell? ⟨t, 11, none⟩ = some (I O rf.day) ∧ (wa.setCell ⟨xb, 6, none⟩ (I O TM)).cell? ⟨xb, 5, none⟩ = some (I O R) from ⟨HMB.out.ac.cell 2 _ rfl, HMB.out.ac.cell 3 _ rfl, HMB.out.ac.cell 4 _ rfl, HMB.out.ac.cell 11 _ rfl, HMB.out.oc 5⟩); clear hba)
   | fail)
  have HMB' := mh (show AmAt w (wa.setCell ⟨xb, 6, none⟩ (I O TM)) t xb sb r rf va vr y #[I O fa, I O nu, I O D, I O N, I O p, I O R, I O TM, I O 0, I O 0] from HMB.out); generalize wa.setCell ⟨xb, 6, none⟩ (I O TM) = wb at *; clear x6 x6f KB KDA
  go_wp2
  go_ret
  exact ⟨rfl, HMB'.out.ac, HMB'.out.ob, HMB'.out.but⟩
 ·have hd : decide (y.least ≤ N) = false := dqf (by rw [HLE.out]; exact hge)
  obtain rfl : p = 0 := by rw [PV.out, if_neg hge]
  clear hge; refine wp_region_quiet_lit (by kernel_rfl) (by kernel_rfl) ?_
  try simp only [List.append_eq, List.cons_append, List.nil_append]
  repeat (go_big_quiet_step (fail))
  refine wpQuiet_nil ?_
  intro _ hwq; obtain ⟨nq, hwr⟩ := hwq; subst hwr; obtain ⟨w2, ew2⟩ : ∃ W, w1.drewN nq = W := ⟨_, rfl⟩; rw [ew2]; have HM2 := mh (show AmAt w w2 t xb sb r rf va vr y #[I O fa, I O nu, I O D, I O N, I O 0, I O 0, I O 0, I O 0, I O 0] from ew2 ▸ HM.out.next (drewN_below _ _)); clear ew2 x3 s7 HM
  go_wp2_with fail
  have KD6 := mh (show w2.drew.cell? ⟨xb, 4, none⟩ = some (I O 0) ∧ w2.drew.cell? ⟨sb, 0, none⟩ = some (I O y.num) ∧ w2.drew.cell? ⟨sb, 1, none⟩ = some (.string y.nm) ∧ w2.drew.cell? ⟨sb, 2, none⟩ = some (I O y.t.op) ∧ w2.drew.cell? ⟨sb, 3, none⟩ = some (I O y.t.num) ∧ w2.drew.cell? ⟨sb, 4, none⟩ = some (I O y.t.more) ∧ w2.drew.cell? ⟨sb, 5, none⟩ = some (.slice y.t.p y.t.n y.t.c) ∧ w2.drew.cell? ⟨sb, 6, none⟩ = some (.slice y.bp y.bn y.bc) ∧ w2.drew.cell? ⟨sb, 7, none⟩ = some (I O y.least) ∧ w2.drew.cell? ⟨sb, 8, none⟩ = some (I O y.ex) ∧ w2.drew.cell? ⟨sb, 9, none⟩ = some (.bool y.needs) from ⟨HM2.out.oc 4, HM2.out.sc 0, HM2.out.sc 1, HM2.out.sc 2, HM2.out.sc 3, HM2.out.sc 4, HM2.out.sc 5, HM2.out.sc 6, HM2.out.sc 7, HM2.out.sc 8, HM2.out.sc 9⟩); have o4 := HM2.out.oc 4; have x5 := HM2.out.oc 5; have x5f := HM2.out.of 5
  go_wp2_with fail
  go_region_held3 (fun w' => w'.cell? ⟨xb, 4, none⟩ = some (I O 0) ∧ w'.cell? ⟨sb, 0, none⟩ = some (I O y.num) ∧ w'.cell? ⟨sb, 1, none⟩ = some (.string y.nm) ∧ w'.cell? ⟨sb, 2, none⟩ = some (I O y.t.op) ∧ w'.cell? ⟨sb, 3, none⟩ = some (I O y.t.num) ∧ w'.cell? ⟨sb, 4, none⟩ = some (I O y.t.more) ∧ w'.cell? ⟨sb, 5, none⟩ = some (.slice y.t.p y.t.n y.t.c) ∧ w'.cell? ⟨sb, 6, none⟩ = some (.slice y.bp y.bn y.bc) ∧ w'.cell? ⟨sb, 7, none⟩ = some (I O y.least) ∧ w'.cell? ⟨sb, 8, none⟩ = some (I O y.ex) ∧ w'.cell? ⟨sb, 9, none⟩ = some (.bool y.needs)) (first | with_reducible exact KD6.out | with_reducible exact K7.out | with_reducible exact K8.out | go_keep) (first
   | (go_at_call 155; (with_reducible refine cmo (AM.out _ HM2.out.below.drew) ?_); rintro e w7 ⟨rfl, hb7⟩; have HM7 := mh ((HM2.out.next (brf _ _).drew).next hb7); have K7 := mh ((kd hb7 <| kd hb7 <| kc hb7 <| kc hb7 <| k1 hb7) KD6.out); have z5 := HM7.out.oc 5; have z5f := HM7.out.of 5; have HM8 := mh (HM7.out.set hxt 5 (I O A)); have K8 := mh (show (w7.setCell ⟨xb, 5, none⟩ (I O A)).cell? ⟨xb, 4, none⟩ = some (I O 0) ∧ (w7.setCell ⟨xb, 5, none⟩ (I O A)).cell? ⟨sb, 0, none⟩ = some (I O y.num) ∧ (w7.setCell ⟨xb, 5, none⟩ (I O A)).cell? ⟨sb, 1, none⟩ = some (.string y.nm) ∧ (w7.setCell ⟨xb, 5, none⟩ (I O A)).cell? ⟨sb, 2, none⟩ = some (I O y.t.op) ∧ (w7.setCell ⟨xb, 5, none⟩ (I O A)).cell? ⟨sb, 3, none⟩ = some (I O y.t.num) ∧ (w7.setCell ⟨xb, 5, none⟩ (I O A)).cell? ⟨sb, 4, none⟩ = some (I O y.t.more) ∧ (w7.setCell ⟨xb, 5, none⟩ (I O A)).cell? ⟨sb, 5, none⟩ = some (.slice y.t.p y.t.n y.t.c) ∧ (w7.setCell ⟨xb, 5, none⟩ (I O A)).cell? ⟨sb, 6, none⟩ = some (.slice y.bp y.bn y.bc) ∧ (w7.setCell ⟨xb, 5, none⟩ (I O A)).cell? ⟨sb, 7, none⟩ = some (I O y.least) ∧ (w7.setCell ⟨xb, 5, none⟩ (I O A)).cell? ⟨sb, 8, none⟩ = some (I O y.ex) ∧ (w7.setCell ⟨xb, 5, none⟩ (I O A)).cell? ⟨sb, 9, none⟩ = some (.bool y.needs) from ⟨HM8.out.oc 4, HM8.out.sc 0, HM8.out.sc 1, HM8.out.sc 2, HM8.out.sc 3, HM8.out.sc 4, HM8.out.sc 5, HM8.out.sc 6, HM8.out.sc 7, HM8.out.sc 8, HM8.out.sc 9⟩); clear hb7)
   | fail)
  have HM8' := mh (show AmAt w (w7.setCell ⟨xb, 5, none⟩ (I O A)) t xb sb r rf va vr y #[I O fa, I O nu, I O D, I O N, I O 0, I O A, I O 0, I O 0, I O 0] from HM8.out); generalize w7.setCell ⟨xb, 5, none⟩ (I O A) = w8 at *; have v5 := HM8'.out.oc 5; have v5f := HM8'.out.of 5; clear z5 z5f K7 KD6 o4 x5 x5f
  go_wp2_with fail
  rw [show min A 68719476736 = R from ER.out.symm]; have HM9 := mh (show AmAt w (w8.setCell ⟨xb, 5, none⟩ (I O R)) t xb sb r rf va vr y #[I O fa, I O nu, I O D, I O N, I O 0, I O R, I O 0, I O 0, I O 0] from HM8'.out.set hxt 5 _); generalize w8.setCell ⟨xb, 5, none⟩ (I O R) = w9 at *; clear v5 v5f; have KDA := mh (show w9.drew.cell? ⟨t, 2, none⟩ = some (I O r.due) ∧ w9.drew.cell? ⟨t, 3, none⟩ = some (I O r.last) ∧ w9.drew.cell? ⟨t, 4, none⟩ = some (I O r.mille) ∧ w9.drew.cell? ⟨t, 11, none⟩ = some (I O rf.day) ∧ w9.drew.cell? ⟨xb, 5, none⟩ = some (I O R) from ⟨HM9.out.ac.cell 2 _ rfl, HM9.out.ac.cell 3 _ rfl, HM9.out.ac.cell 4 _ rfl, HM9.out.ac.cell 11 _ rfl, HM9.out.oc 5⟩)
  go_region_held3 (fun w' => w'.cell? ⟨t, 2, none⟩ = some (I O r.due) ∧ w'.cell? ⟨t, 3, none⟩ = some (I O r.last) ∧ w'.cell? ⟨t, 4, none⟩ = some (I O r.mille) ∧ w'.cell? ⟨t, 11, none⟩ = some (I O rf.day) ∧ w'.cell? ⟨xb, 5, none⟩ = some (I O R)) (first | with_reducible exact KDA.out | with_reducible exact KB.out | with_reducible exact KC.out | go_keep) (first
   | (go_at_call 156; (with_reducible refine cmo (PY.out _) ?_); rintro e wa ⟨rfl, hba⟩; have HMA := mh ((HM9.out.next (brf _ _).drew).next hba); have KB := mh ((kd hba <| k1 hba) KDA.out); have x6 := HMA.out.oc 6; have x6f := HMA.out.of 6; have HMB := mh (HMA.out.set hxt 6 (I O TM)); have KC := mh (show (wa.setCell ⟨xb, 6, none⟩ (I O TM)).cell? ⟨t, 2, none⟩ = some (I O r.due) ∧ (wa.setCell ⟨xb, 6, none⟩ (I O TM)).cell? ⟨t, 3, none⟩ = some (I O r.last) ∧ (wa.setCell ⟨xb, 6, none⟩ (I O TM)).cell? ⟨t, 4, none⟩ = some (I O r.mille) ∧ (wa.setCell ⟨xb, 6, none⟩ (I O TM)).cell? ⟨t, 11, none⟩ = some (I O rf.day) ∧ (wa.setCell ⟨xb, 6, none⟩ (I O TM)).cell? ⟨xb, 5, none⟩ = some (I O R) from ⟨HMB.out.ac.cell 2 _ rfl, HMB.out.ac.cell 3 _ rfl, HMB.out.ac.cell 4 _ rfl, HMB.out.ac.cell 11 _ rfl, HMB.out.oc 5⟩); clear hba)
   | fail)
  have HMB' := mh (show AmAt w (wa.setCell ⟨xb, 6, none⟩ (I O TM)) t xb sb r rf va vr y #[I O fa, I O nu, I O D, I O N, I O 0, I O R, I O TM, I O 0, I O 0] from HMB.out); generalize wa.setCell ⟨xb, 6, none⟩ (I O TM) = wb at *; clear x6 x6f KB KDA
  go_wp2
  go_ret
  exact ⟨rfl, HMB'.out.ac, HMB'.out.ob, HMB'.out.but⟩
end Go.Proofs.YtmlfcpglhipjgaaGreat
namespace Go.Proofs.YtmlfcpglhipjgaaGreat
open Go.RowKit
theorem OwnR.stepAp {α : Type} {S : Shape α} {P : Program} {T TS : TypeId} {bytes : Nat} (he : Elem S P T TS bytes) {w : World} {ops : Array Oper} {o : Oper} {a : Act} {K : Act → World → Prop} {Q : Exit → Act → World → Prop} {E : Prop} (hgd : o.guard = none) (s x : Operand)
  (ho : o.op = .call { callee := .builtin .append, args := #[s, x], argTypes := #[TS, TS] }) (B : Nat) (v : Value) (L M : List α) (p : Option Addr) (c n : Nat) (hM : M.length = n) (hown : OwnR S w T B v L) (hsrc : Recs S w p M) (hp : p = none → c = 0) (hs : a.eval s = v)
  (hx : a.eval x = .slice p n c) (hB : B ≤ w.heap.size) (hn : L.length + n < 1073741824) (hby : bytes ≤ 65536)
  (h : ∀ v' w', OwnR S w' T B v' (L ++ M) → Appends w w' B w.heap.size v v' → K (a.put o.dst v') w') : if Region.wanted o (yielded ops a.tmps) = true then Oper.wp P o a w K Q else E := by
 subst hM; have hw : Region.wanted o (yielded ops a.tmps) = true := by simp [Region.wanted, hgd]
 rw [if_pos hw]; obtain ⟨i0, z, e1, e2, e3, e4, e5⟩ := he.ex; have hb2 : (L.length + M.length) * bytes ≤ 1073741824 * 65536 := Nat.mul_le_mul (by omega) hby
 cases p with
 | none =>
   obtain rfl := hp rfl; have hM : M = [] := by
    rcases hsrc.2 with h | ⟨b, off, h, _⟩
    ·exact h
    ·cases h
   subst hM; have hrun := run_append_owned_none (P := P) (w := w) B TS o.type T i0 S.k he.ts e1 v L.length (S.flat L) hown; unfold Oper.wp
   simp [execOp, ho, resolve, invoke, builtin, hs, hx, hrun, Result.andThen]
   exact h _ _ (by rw [List.append_nil]; exact hown) ⟨brf _ _, Nat.le_refl _, fun _ _ _ => rfl, .inl rfl⟩
 | some ad =>
   obtain ⟨v', w', hr, h2, h3, -, h4⟩ := run_append_own_at (P := P) w B TS o.type T i0 z S.k bytes he.ts e1 e2 e3 e4 e5 S.pos v L.length (S.flat L) hown ad M.length c (S.flat M) (S.flat_len M) (fun j u hu => by
    rcases hsrc.2 with rfl | ⟨b', off', hp', hl, hc⟩
    ·simp [Shape.flat] at hu
    ·cases hp'
     rw [Go.WideShapes.add_plain]
     exact hc j u hu) (S.flat_ones M) (by unfold maxLen; omega) (by omega) hB
   unfold Oper.wp execOp; simp only [ho, resolve, invoke, builtin, Sem.run_bind, Sem.run_pure, Result.andThen_ok, List.map_toArray, List.map_cons, List.map_nil, hs, hx, hr]; refine h v' w' ?_ ⟨(brf B w).grown h3 hB fun k hk => (World.ownsRow.lt hown k hk).1, h3.size, fun k hk hne => h3.block k hk (fun e => hne e.symm), h4⟩; unfold OwnR; rw [lap, S.flat_append]; exact h2
open Sc As
def SI : Shape Int := ⟨1, fun n => [I O n], fun _ => rfl, by decide, fun a u hu => by
 simp only [List.mem_cons, List.not_mem_nil, or_false] at hu
 rw [hu]; rfl⟩
theorem info_int64 : (Tryz.prog.info? 3).map (fun i => (i.zero, i.size, i.bytes)) = some (some (I O 0), 1, 8) := by kernel_rfl
theorem el_int : Elem SI Tryz.prog 3 22 8 := by
 obtain ⟨i0, h1, h2, h3, h4⟩ := info_parts info_int64; exact ⟨⟨i0, _, h1, h2, h3, h4, rfl⟩, Tryz.underlying22⟩
theorem SI.flat_map (L : List Int) : SI.flat L = L.map (Value.int .i64) := by
 induction L with
 | nil => rfl
 | cons x L ih =>
   show [Value.int .i64 x] ++ SI.flat L = _
   rw [ih]; rfl
theorem Recs.ints {w : World} {p : Option Addr} {L : List Int} (h : Recs SI w p L) : Ints w p L := by
 refine ⟨h.1, ?_⟩
 rcases h.2 with e | ⟨b, off, e, hl, hc⟩
 ·exact .inl e
 ·refine .inr ⟨b, off, e, hl, fun j hj => hc j _ ?_⟩
  rw [SI.flat_map]
  simp [hj]
theorem Ints.recs {w : World} {p : Option Addr} {L : List Int} (h : Ints w p L) : Recs SI w p L := by
 refine ⟨h.1, ?_⟩
 rcases h.2 with e | ⟨b, off, e, hl, hc⟩
 ·exact .inl e
 ·refine .inr ⟨b, off, e, hl, fun j u hu => ?_⟩
  rw [SI.flat_map] at hu; have hj : j < L.length := by
   have := (List.getElem?_eq_some_iff.1 hu).1
   simpa using this
  rw [hc j hj]
  simp [hj] at hu
  simp [hj, hu]
theorem Apart.symm {u v : Value} (h : Apart u v) : Apart v u := fun g hg e => h g e hg
theorem Apart.nil (u : Value) : Apart u (.slice none 0 0) := fun _ _ e => by cases e
structure CmAt (w wr : World) (t : Nat) (r : RY) (f : RF) (va vr v : Value) (A : List Awd) (R : List Rsn) (X : List Int) : Prop where
 ac : AcAt wr t r f va vr
 oa : OwnR SA wr 60 (t + 1) va A
 or : OwnR SRn wr 70 (t + 1) vr R
 ot : OwnR SI wr 3 (t + 1) v X
 low : Below t w wr
 d1 : Apart va vr
 d2 : Apart va v
 d3 : Apart vr v
section
variable {w wr w' : World} {t : Nat} {r : RY} {f : RF} {va vr v u : Value} {A A' : List Awd} {R R' : List Rsn} {X X' : List Int}
theorem CmAt.below (h : CmAt w wr t r f va vr v A R X) (hb : Below wr.heap.size wr w') : CmAt w w' t r f va vr v A R X :=
 ⟨h.ac.below hb h.ac.lt, h.oa.below hb, h.or.below hb, h.ot.below hb, h.low.trans (hb.mono (Nat.le_of_lt h.ac.lt)), h.d1, h.d2, h.d3⟩
theorem CmAt.rsn (h : CmAt w wr t r f va vr v A R X) (ha : AcAt w' t r f va u) (ho : OwnR SRn w' 70 (t + 1) u R') (hc : Chg t vr u wr w') : CmAt w w' t r f va u v A R' X := by
 obtain ⟨k1, k2⟩ := hc.keep h.oa (Nat.lt_succ_self t) h.d1; obtain ⟨k3, k4⟩ := hc.keep h.ot (Nat.lt_succ_self t) h.d3.symm; exact ⟨ha, k1, ho, k3, h.low.trans (hc.low mle (Nat.le_of_lt h.ac.lt) fun g hg => Nat.le_of_lt (h.or.lt hg).1), k2, h.d2, k4.symm⟩
theorem CmAt.far (h : CmAt w wr t r f va vr v A R X) {xb : Nat} (hb : But xb wr w') (hx : t < xb) (n1 : va.ownBlock ≠ some xb) (n2 : vr.ownBlock ≠ some xb) (n3 : v.ownBlock ≠ some xb) : CmAt w w' t r f va vr v A R X := by
 have k : ∀ i, i < wr.heap.size → i ≠ xb → w'.heap[i]? = wr.heap[i]? := hb.block
 exact ⟨h.ac.same (k t h.ac.lt (by omega)), h.oa.blocks fun g hg _ hl => k g hl (fun e => n1 (e ▸ hg)), h.or.blocks fun g hg _ hl => k g hl (fun e => n2 (e ▸ hg)), h.ot.blocks fun g hg _ hl => k g hl (fun e => n3 (e ▸ hg)),
  h.low.trans ⟨hb.os, hb.tape, hb.output, hb.size, fun i hi => k i (Nat.lt_trans hi h.ac.lt) (by omega)⟩, h.d1, h.d2, h.d3⟩
theorem apart_app {w w' : World} {B H : Nat} {u u' x : Value} (h : Appends w w' B H u u') (hd : Apart u x) (hx : ∀ g, x.ownBlock = some g → g < w.heap.size) (hH : w.heap.size ≤ H) : Apart u' x := fun g hg e => by
 rcases h.block with k | k
 ·exact hd g (k ▸ hg) e
 ·have := hx g e
  rw [k] at hg
  cases hg
  omega
structure CmPre (w wr : World) (t : Nat) (r : RY) (f : RF) (va vr v u : Value) (A : List Awd) (R : List Rsn) (X : List Int) : Prop where
 ac : AcAt wr t r f va vr
 oa : OwnR SA wr 60 (t + 1) u A
 or : OwnR SRn wr 70 (t + 1) vr R
 ot : OwnR SI wr 3 (t + 1) v X
 low : Below t w wr
 d1 : Apart u vr
 d2 : Apart u v
 d3 : Apart vr v
theorem CmAt.appA (h : CmAt w wr t r f va vr v A R X) {H : Nat} (ho : OwnR SA w' 60 (t + 1) u A') (ha : Appends wr w' (t + 1) H va u) (hH : wr.heap.size ≤ H) : CmPre w w' t r f va vr v u A' R X := by
 have e1 : vr.ownBlock = none ∨ vr.ownBlock ≠ va.ownBlock := by
  cases e : vr.ownBlock with
  | none => exact .inl rfl
  | some g => exact .inr fun k => h.d1 g k.symm e
 have e2 : v.ownBlock = none ∨ v.ownBlock ≠ va.ownBlock := by
  cases e : v.ownBlock with
  | none => exact .inl rfl
  | some g => exact .inr fun k => h.d2 g k.symm e
 exact ⟨h.ac.below ha.below (Nat.lt_succ_self t), ho, ha.keep h.or e1, ha.keep h.ot e2, h.low.trans (ha.below.mono (Nat.le_succ t)), apart_app ha h.d1 (fun g hg => (h.or.lt hg).2) hH, apart_app ha h.d2 (fun g hg => (h.ot.lt hg).2) hH, h.d3⟩
theorem CmPre.below (h : CmPre w wr t r f va vr v u A R X) (hb : Below wr.heap.size wr w') : CmPre w w' t r f va vr v u A R X :=
 ⟨h.ac.below hb h.ac.lt, h.oa.below hb, h.or.below hb, h.ot.below hb, h.low.trans (hb.mono (Nat.le_of_lt h.ac.lt)), h.d1, h.d2, h.d3⟩
theorem CmPre.appT {u' : Value} (h : CmPre w wr t r f va vr v u A R X) {H : Nat} (ho : OwnR SI w' 3 (t + 1) u' X') (ha : Appends wr w' (t + 1) H v u') (hH : wr.heap.size ≤ H) : CmPre w w' t r f va vr u' u A R X' := by
 have e1 : u.ownBlock = none ∨ u.ownBlock ≠ v.ownBlock := by
  cases e : u.ownBlock with
  | none => exact .inl rfl
  | some g => exact .inr fun k => h.d2 g e k.symm
 have e2 : vr.ownBlock = none ∨ vr.ownBlock ≠ v.ownBlock := by
  cases e : vr.ownBlock with
  | none => exact .inl rfl
  | some g => exact .inr fun k => h.d3 g e k.symm
 exact ⟨h.ac.below ha.below (Nat.lt_succ_self t), ha.keep h.oa e1, ha.keep h.or e2, ho, h.low.trans (ha.below.mono (Nat.le_succ t)), h.d1, (apart_app ha h.d2.symm (fun g hg => (h.oa.lt hg).2) hH).symm, (apart_app ha h.d3.symm (fun g hg => (h.or.lt hg).2) hH).symm⟩
theorem CmPre.done (h : CmPre w wr t r f va vr v u A R X) : CmAt w (wr.setCell ⟨t, 13, none⟩ u) t r f u vr v A R X :=
 ⟨h.ac.setA u, h.oa.setOther (fun e => by have := (h.oa.lt e).1; omega) u, h.or.setOther (fun e => by have := (h.or.lt e).1; omega) u, h.ot.setOther (fun e => by have := (h.ot.lt e).1; omega) u, h.low.setCell mle u, h.d1, h.d2, h.d3⟩
end
/-! ### awards, a scheme at a time -/
theorem As.awardsN_succ {l : YLaw} {f : FarmF} {k : Nat} (hk : k < l.sch.length) : awardsN l f (k + 1) = awardsN l f k ++ if someN l.sch[k] f.lines = true then [award l f k l.sch[k]] else [] := by
 show awardsN l f k ++ awStep l f k = _
 unfold awStep; rw [List.getElem?_eq_getElem hk]
theorem As.awardsN_le (l : YLaw) (f : FarmF) (k : Nat) : (awardsN l f k).length ≤ k := awardsN_len l f k
end Go.Proofs.YtmlfcpglhipjgaaGreat
namespace Go.Proofs.YtmlfcpglhipjgaaGreat
open Go.RowKit
theorem fr_eq {D : List (Int × Int)} {k : Nat} {x y : Int} (h : D.getD k (0, 0) = (x, y)) : Ce.fr D k = x := by unfold Ce.fr; rw [h]
theorem mi_eq {D : List (Int × Int)} {k : Nat} {x y : Int} (h : D.getD k (0, 0) = (x, y)) : Ce.mi D k = y := by unfold Ce.mi; rw [h]
theorem cut_facts {D : List (Int × Int)} {k : Nat} {x y a : Int} (hR : Ce.Right D) (hk : k < D.length) (h : D.getD k (0, 0) = (x, y)) (a0 : 0 ≤ a) (a1 : a ≤ 68719476736) :
  (0 ≤ x ∧ x ≤ 68719476736) ∧ (0 ≤ y ∧ y ≤ 1000) ∧ (0 ≤ Ce.span D a k ∧ Ce.span D a k ≤ 68719476736) ∧ (0 ≤ Ce.span D a k * y ∧ Ce.span D a k * y ≤ 68719476736000) ∧ Ce.cut D a k = Ex.up (Ce.span D a k * y) 1000 ∧ Ce.span D a k = max 0 (Ce.till D a k - x) := by
 have h1 := hR.fr0 hk; have h2 := hR.mi0 hk; have h3 := hR.span_bd a0 a1 hk; have h4 : Ce.cut D a k = Ex.up (Ce.span D a k * Ce.mi D k) 1000 := rfl; have h5 : Ce.span D a k = max 0 (Ce.till D a k - Ce.fr D k) := rfl; rw [fr_eq h] at h1 h5; rw [mi_eq h] at h2 h4; refine ⟨h1, h2, h3, ⟨Int.mul_nonneg h3.1 h2.1, ?_⟩, h4, h5⟩; have := Int.mul_le_mul h3.2 h2.2 h2.1 (show (0 : Int) ≤ 68719476736 by omega); omega
theorem reduced_any (p : Option Addr) (D : List (Int × Int)) (cap : Nat) (a : Int) (w : World) (h : Pairs w p D) (hR : Ce.Right D) (a0 : 0 ≤ a) (a1 : a ≤ 68719476736) :
  Calls Tryz.prog 158 #[.slice p D.length cap, I O a] w fun e w' => e = .returned (I O (Ce.red D a)) ∧ Below w.heap.size w w' := by
 have H := mh h; have R := mh hR; have h6 := hR.len; clear h hR
 go_enter Tryz.func158, Tryz.ntmps158
 go_wp2
 go_loopw [12, 5] (fun i o wr => ∃ k : Nat, k ≤ D.length ∧ i = I O k ∧ o = I O (a - Ce.cuts D a k) ∧ Below w.heap.size w wr) (fun i _ _ => D.length - (intOf i).toNat)
 case atStart => exact ⟨0, Nat.zero_le _, rfl, by simp [Ce.cuts], brf _ _⟩
 case round =>
  obtain ⟨k, hk, rfl, rfl, hb⟩ := hrel; have HB := mh hb; have hsz := hb.size; have hp := R.out.red_part a0 a1 hk
  by_cases hlt : k < D.length
  ·obtain ⟨b, off, x, y, rfl, hbl, hx0, hy0, hxy⟩ := H.out.get hlt
   have hx1 := (hb.cell (p := ⟨b, off + k * 2, none⟩) hbl).trans hx0; have hy1 := (hb.cell (p := ⟨b, off + k * 2 + 1, none⟩) hbl).trans hy0; have hbl2 : b < wr.heap.size := nll hbl hsz; obtain ⟨f1, f2, f3, f4, f5, f6⟩ := cut_facts R.out hlt hxy.out a0 a1; have hp2 := R.out.red_part (k := k + 1) a0 a1 (by omega); have hcs : Ce.cuts D a (k + 1) = Ce.cuts D a k + Ce.cut D a k := rfl; rw [hcs] at hp2; have CS := mh hcs
   by_cases hlt2 : k + 1 < D.length
   ·obtain ⟨b', off', x2, y2, e, -, hx2, hy2, hxy2⟩ := H.out.get hlt2
    simp only [Option.some.injEq, Addr.mk.injEq] at e; obtain ⟨rfl, rfl, -⟩ := e; have hx3 := (hb.cell (p := ⟨b, off + (k + 1) * 2, none⟩) hbl).trans hx2; have ht : Ce.till D a k = min a x2 := by unfold Ce.till; rw [if_pos hlt2, fr_eq hxy2.out]
    have hfr2 := R.out.fr0 hlt2; rw [fr_eq hxy2.out] at hfr2; clear hb hx0 hy0 hx2 hy2 hcs; rw [ht] at f6; generalize Ce.span D a k = S at *; have f6' := f6.symm; have hmw : IntKind.i64.wrap (S * y) = S * y := by
     generalize S * y = q at f4 ⊢; rw [IntKind.wrap_i64]; omega
    have f5' := f5.symm; generalize Ce.cut D a k = C at *; generalize Ce.cuts D a k = Q at *; have hsw : IntKind.i64.wrap (a - Q - C) = a - Q - C := by rw [IntKind.wrap_i64]; omega
    clear f5 f6 ht
    go_wp2_with (first | (go_at_call 198; refine (up_all _ _ _ (by omega) (by omega)).mono ?_; rintro e w' ⟨rfl, rfl⟩))
    go_roundw
    case rel => exact ⟨k + 1, by omega, by go_num, by rw [CS.out]; congr 1; omega, HB.out.alloc hsz _⟩
    case measure => simp [intOf]; omega
   ·have ht : Ce.till D a k = a := by unfold Ce.till; rw [if_neg hlt2]
    clear hb hx0 hy0 hcs; rw [ht] at f6; generalize Ce.span D a k = S at *; have f6' := f6.symm; have hmw : IntKind.i64.wrap (S * y) = S * y := by
     generalize S * y = q at f4 ⊢; rw [IntKind.wrap_i64]; omega
    have f5' := f5.symm; generalize Ce.cut D a k = C at *; generalize Ce.cuts D a k = Q at *; have hsw : IntKind.i64.wrap (a - Q - C) = a - Q - C := by rw [IntKind.wrap_i64]; omega
    clear f5 f6 ht
    go_wp2_with (first | (go_at_call 198; refine (up_all _ _ _ (by omega) (by omega)).mono ?_; rintro e w' ⟨rfl, rfl⟩))
    go_roundw
    case rel => exact ⟨k + 1, by omega, by go_num, by rw [CS.out]; congr 1; omega, HB.out.alloc hsz _⟩
    case measure => simp [intOf]; omega
  ·obtain rfl : k = D.length := by omega
   clear hb hlt hk
   go_wp2
   go_ret
   exact ⟨rfl, HB.out⟩
theorem Own.copyOf {P : Program} {T TS : TypeId} {i0 : TypeInfo} (hi : P.info? T = some i0) (hz0 : i0.zero = some (I O 0)) (hz1 : i0.size = 1) (hz2 : i0.bytes = 8) (ht : P.underlying TS = some (.slice T)) {w : World} {ops : Array Oper} {rest : List Oper} {o : Oper} {a : Act} {Q : Exit → Act → World → Prop} (hgd : o.guard = none) (s x : Operand)
  (ho : o.op = .call { callee := .builtin .append, args := #[s, x], argTypes := #[TS, TS] }) (xs : List Int) (p : Option Addr) (cap : Nat) (hI : Ints w p xs) (hs : a.eval s = .slice none 0 0)
  (hx : a.eval x = .slice p xs.length cap) (hn : xs.length < 1099511627776)
  (h : ∀ v' w', Own w' T w.heap.size v' xs → Below w.heap.size w w' → wpList P ops Q rest (a.put o.dst v') w') : wpList P ops Q (o :: rest) a w := by
 cases p with
 | none =>
   have hxs : xs = [] := by
    rcases hI.2 with h | ⟨b, off, hp, _⟩
    ·exact h
    ·cases hp
   subst hxs; refine wpList_plain hgd fun K hK => ?_
   have hrun : (Builtin.append_ #[TS, TS] o.type #[.slice none 0 0, .slice none 0 cap]).run P w = .ok (.slice none 0 0) w := by
    simp [Builtin.append_, run_underlying ht, sizeOf, typeInfo, hi, Builtin.lenOf, Builtin.firstCells]
   have hx' : a.eval x = .slice none 0 cap := hx; unfold Oper.wp
   simp [execOp, ho, resolve, invoke, builtin, hs, hx', hrun, Result.andThen]
   exact hK _ _ (h _ _ (Own.nil _ _ _) (brf _ _))
 | some ad =>
   have hc : ∀ j u, (xs.map (Value.int .i64))[j]? = some u → w.cell? (ad.add j) = some u := fun j u hu => by
    have hj : j < xs.length := by
     have := (List.getElem?_eq_some_iff.1 hu).1
     simpa using this
    rcases hI.2 with h | ⟨b, off, hp, hl, hcell⟩
    ·subst h; simp at hj
    ·cases hp
     rw [Go.WideShapes.add_plain, hcell j hj]; rw [List.getElem?_map, List.getElem?_eq_getElem hj] at hu; rw [List.getD_eq_getElem?_getD, List.getElem?_eq_getElem hj]
     simpa using hu
   refine wpList_append_own _ hgd s x TS ho w.heap.size T i0 (I O 0) 1 8 ht hi hz0 hz1 hz2 rfl (by decide) (.slice none 0 0) 0 [] hs (World.ownsRow_nil w _ T 1) ad xs.length cap (xs.map (Value.int .i64)) hx (by simp) hc (by simp [Value.oneCell']) (by unfold maxLen; omega) (by omega) mle ?_
   intro v' w' h1 h2 _; refine h v' w' ?_ ?_
   ·unfold Own
    simpa using h1
   ·exact ((brf _ w).grown h2 mle fun k hk => by cases hk)
def sumVal (xs : List Int) : Int := if Ce.sumErr xs = 0 then Sh.sum xs else 0
theorem sumErr_odd {xs : List Int} {k : Nat} (hk : k < xs.length) {x : Int} (hx : xs.getD k 0 = x) (h : En.money x = false) : Ce.sumErr xs = 67 := by
 unfold Ce.sumErr; rw [if_pos]
 left
 rw [List.any_eq_true]; refine ⟨x, ?_, by rw [h]; rfl⟩; rw [← hx, List.getD_eq_getElem?_getD, List.getElem?_eq_getElem hk]; exact List.getElem_mem hk
theorem sumErr_of {xs : List Int} (h : ∀ j, j < xs.length → En.money (xs.getD j 0) = true) : (En.money (Sh.sum xs) = true → Ce.sumErr xs = 0) ∧ (En.money (Sh.sum xs) = false → Ce.sumErr xs = 67) := by
 have h4 : (xs.any fun x => !En.money x) = false := by
  rw [List.any_eq_false]; intro x hx; obtain ⟨j, hj, rfl⟩ := List.getElem_of_mem hx; have := h j hj; rw [List.getD_eq_getElem?_getD, List.getElem?_eq_getElem hj] at this; have e : En.money xs[j] = true := this; rw [e]
  simp
 unfold Ce.sumErr; rw [h4]; refine ⟨fun h => ?_, fun h => ?_⟩
 ·rw [h]; simp
 ·rw [h]; simp
theorem sum_pre {xs : List Int} {k : Nat} (hk : k ≤ xs.length) (h16 : xs.length ≤ 16) (h : ∀ j, j < k → En.money (xs.getD j 0) = true) : 0 ≤ Sh.sum (xs.take k) ∧ Sh.sum (xs.take k) ≤ 1099511627776 := by
 have hx : ∀ x ∈ xs.take k, 0 ≤ x ∧ x ≤ 68719476736 := fun x hx => by
  obtain ⟨j, hj, rfl⟩ := List.getElem_of_mem hx; rw [List.length_take] at hj; have := h j (by omega); rw [List.getD_eq_getElem?_getD, List.getElem?_eq_getElem (by omega)] at this; rw [List.getElem_take]; exact En.money_iff.1 this
 refine ⟨Sh.sum_nonneg fun x m => (hx x m).1, ?_⟩
 have := Sh.sum_le_len fun x m => (hx x m).2
 have hl : (xs.take k).length ≤ xs.length := List.length_take_le' _ _; omega
theorem csum_any (p : Option Addr) (xs : List Int) (cap : Nat) (w : World) (h : Ints w p xs) (h16 : xs.length ≤ 16) :
  Calls Tryz.prog 157 #[.slice p xs.length cap] w fun e w' => e = .returned (.tuple #[I O (sumVal xs), I O (Ce.sumErr xs)]) ∧ w = w' := by
 have H := mh h; clear h
 go_enter Tryz.func157, Tryz.ntmps157
 go_wp2
 go_loop [9, 4] (fun i s => ∃ k : Nat, k ≤ xs.length ∧ i = I O k ∧ s = I O (Sh.sum (xs.take k)) ∧ ∀ j, j < k → En.money (xs.getD j 0) = true) (fun i _ => xs.length - (intOf i).toNat)
 case atStart => exact ⟨0, Nat.zero_le _, rfl, by simp [Sh.sum], fun j hj => absurd hj (Nat.not_lt_zero j)⟩
 case round =>
  obtain ⟨k, hk, rfl, rfl, hok⟩ := hrel; have HOK := mh hok; have hs := sum_pre hk h16 hok; clear hok
  by_cases hlt : k < xs.length
  ·obtain ⟨b, off, x, rfl, hbl, hcell, hx⟩ := H.out.get hlt
   by_cases hm : En.money x = true
   ·have m := En.money_iff.1 hm
    have hst := mh (sum_take_succ hlt); have hok' : ∀ j, j < k + 1 → En.money (xs.getD j 0) = true := fun j hj => by
     by_cases e : j = k
     ·rw [e, hx.out]; exact hm
     ·exact HOK.out j (by omega)
    have HOK' := mh hok'; clear hok'
    go_wp2_with (first | (go_at_call 99; refine (money_any _ _).mono ?_; rintro e w' ⟨rfl, rfl⟩))
    go_round
    case rel => exact ⟨k + 1, by omega, by go_num, by rw [hst.out, hx.out], HOK'.out⟩
    case measure => simp [intOf]; omega
   ·have hm' : En.money x = false := by simpa using hm
    have he := sumErr_odd hlt hx.out hm'; have hv : sumVal xs = 0 := by unfold sumVal; rw [if_neg (by rw [he]; decide)]
    have HE := mh (And.intro hv he); clear he hv hm
    go_wp2_with (first | (go_at_call 99; refine (money_any _ _).mono ?_; rintro e w' ⟨rfl, rfl⟩))
    go_ret2
    exact ⟨by rw [HE.out.1, HE.out.2]; rfl, rfl⟩
  ·obtain rfl : k = xs.length := by omega
   obtain ⟨h1, h2⟩ := sumErr_of HOK.out; rw [List.take_length] at hs; rw [List.take_length]
   cases hm : En.money (Sh.sum xs)
   ·have he := h2 hm
    have hv : sumVal xs = 0 := by unfold sumVal; rw [if_neg (by rw [he]; decide)]
    have HE := mh (And.intro hv he); clear h1 h2 he hv hlt hk
    go_wp2_with (first | (go_at_call 99; refine (money_any _ _).mono ?_; rintro e w' ⟨rfl, rfl⟩))
    go_ret2
    exact ⟨by rw [HE.out.1, HE.out.2]; rfl, rfl⟩
   ·have he := h1 hm
    have hv : sumVal xs = Sh.sum xs := by unfold sumVal; rw [if_pos he]
    have HE := mh (And.intro hv he); clear h1 h2 he hv hlt hk
    go_wp2_with (first | (go_at_call 99; refine (money_any _ _).mono ?_; rintro e w' ⟨rfl, rfl⟩))
    go_ret2
    exact ⟨by rw [HE.out.1, HE.out.2]; rfl, rfl⟩
theorem farm_cases (D : List (Int × Int)) (m : Int) (xs : List Int) :
  (¬ Ce.Right D ∧ Ce.chk D = 66 ∧ Ce.farmErr D m xs = 66) ∨ (Ce.chk D = 0 ∧ En.money m = false ∧ Ce.farmErr D m xs = 67) ∨ (Ce.chk D = 0 ∧ En.money m = true ∧ 16 < xs.length ∧ Ce.farmErr D m xs = 1) ∨
  (Ce.chk D = 0 ∧ En.money m = true ∧ xs.length ≤ 16 ∧ Ce.sumErr xs = 67 ∧ Ce.farmErr D m xs = 67) ∨ (Ce.chk D = 0 ∧ En.money m = true ∧ Ce.Fine D m xs) := by
 by_cases h1 : Ce.Right D
 ·have c := Ce.chk_zero.2 h1
  cases h2 : En.money m
  ·exact .inr (.inl ⟨c, rfl, by unfold Ce.farmErr; rw [if_neg (by rw [c]; simp), if_pos h2]⟩)
  ·by_cases h3 : 16 < xs.length
   ·exact .inr (.inr (.inl ⟨c, rfl, h3, by unfold Ce.farmErr; rw [if_neg (by rw [c]; simp), if_neg (by rw [h2]; simp), if_pos h3]⟩))
   ·have e : Ce.farmErr D m xs = Ce.sumErr xs := by unfold Ce.farmErr; rw [if_neg (by rw [c]; simp), if_neg (by rw [h2]; simp), if_neg h3]
    by_cases h4 : Ce.sumErr xs = 0
    ·exact .inr (.inr (.inr (.inr ⟨c, rfl, Ce.fine_of (by rw [e, h4])⟩)))
    ·have h5 : Ce.sumErr xs = 67 := by unfold Ce.sumErr at h4 ⊢; split at h4 <;> simp_all
     exact .inr (.inr (.inr (.inl ⟨c, rfl, by omega, h5, by rw [e, h5]⟩)))
 ·have c := Ce.chk_not h1
  exact .inl ⟨h1, c, by unfold Ce.farmErr; rw [if_pos (by rw [c]; decide)]⟩
theorem farm_bad {D : List (Int × Int)} {m : Int} {xs : List Int} {r : Int} (h : Ce.farmErr D m xs = r) (hr : r ≠ 0) : Ce.farm D m xs = [] := by
 unfold Ce.farm; rw [if_pos (by rw [h]; exact hr)]
theorem farm_new (p : Option Addr) (D : List (Int × Int)) (cap : Nat) (m : Int) (q : Option Addr) (xs : List Int) (capx : Nat) (w : World) (hP : Pairs w p D) (hI : Ints w q xs) :
  Calls Tryz.prog 112 #[.slice p D.length cap, I O m, .slice q xs.length capx] w (GivesNew w (Ce.farm D m xs) (Ce.farmErr D m xs)) := by
 have hc := check_any p D cap w hP; have hlen := hI.len
 rcases farm_cases D m xs with ⟨_, c, e⟩ | ⟨c, hm, e⟩ | ⟨c, hm, h16, e⟩ | ⟨c, hm, h16, hs, e⟩ | ⟨c, hm, hF⟩
 ·rw [c] at hc
  rw [e, farm_bad e (by decide)]; have HC := mh hc; clear hP hI hc c e
  go_enter Tryz.func112, Tryz.ntmps112
  go_wp2_with (first | (go_at_call 61; refine (HC.out).mono ?_; rintro e w1 ⟨rfl, hb1⟩))
  go_ret2
  exact ⟨none, 0, rfl, Ints.nil _ _, hb1, fun _ h => by cases h⟩
 ·rw [c] at hc
  rw [e, farm_bad e (by decide)]; have HC := mh hc; clear hP hI hc c e
  go_enter Tryz.func112, Tryz.ntmps112
  go_wp2_with (first | (go_at_call 61; refine (HC.out).mono ?_; rintro e w1 ⟨rfl, hb1⟩) | (go_at_call 99; refine (money_any _ _).mono ?_; rintro e w' ⟨rfl, rfl⟩))
  go_ret2
  exact ⟨none, 0, rfl, Ints.nil _ _, hb1, fun _ h => by cases h⟩
 ·rw [c] at hc
  rw [e, farm_bad e (by decide)]; have HC := mh hc; clear hP hI hc c e
  go_enter Tryz.func112, Tryz.ntmps112
  go_wp2_with (first | (go_at_call 61; refine (HC.out).mono ?_; rintro e w1 ⟨rfl, hb1⟩) | (go_at_call 99; refine (money_any _ _).mono ?_; rintro e w' ⟨rfl, rfl⟩))
  go_ret2
  exact ⟨none, 0, rfl, Ints.nil _ _, hb1, fun _ h => by cases h⟩
 ·rw [c] at hc
  rw [e, farm_bad e (by decide)]; have hsu := fun (W : World) (h : Ints W q xs) => csum_any q xs capx W h h16
  rw [hs] at hsu; have HSU := mh hsu; have HC := mh hc; have HI := mh hI; clear hP hI hc c e hsu hs
  go_enter Tryz.func112, Tryz.ntmps112
  go_wp2_with (first | (go_at_call 61; refine (HC.out).mono ?_; rintro e w1 ⟨rfl, hb1⟩) | (go_at_call 99; refine (money_any _ _).mono ?_; rintro e w' ⟨rfl, rfl⟩) | (go_at_call 157; refine (HSU.out _ (HI.out.below hb1)).mono ?_; rintro e w' ⟨rfl, rfl⟩))
  go_ret2
  exact ⟨none, 0, rfl, Ints.nil _ _, hb1, fun _ h => by cases h⟩
 ·rw [c] at hc
  have F := mh hF; have h16 := hF.len; have hs0 := hF.sum0; have hs1 := hF.sum; have hsu := fun (W : World) (h : Ints W q xs) => csum_any q xs capx W h h16
  rw [hF.sumErr, show sumVal xs = Sh.sum xs by unfold sumVal; rw [if_pos hF.sumErr]] at hsu; have hr := fun (W : World) (h : Pairs W p D) => reduced_any p D cap (Sh.sum xs) W h hF.right hs0 hs1
  rw [hF.err]; have hleft : Ce.farmLeft D m xs = min m (Ce.red D (Sh.sum xs)) := rfl; have HSU := mh hsu; have HR := mh hr; have HC := mh hc; have HI := mh hI; have HP := mh hP
  by_cases heq : Ce.farmLeft D m xs = Sh.sum xs
  ·rw [hF.same heq]
   rw [hleft] at heq; have hbq : (Sh.sum xs == Sh.sum xs) = true := by simp
   obtain ⟨i0, hi, hz0, hz1, hz2⟩ := info_parts info_int; have HIN := mh (And.intro hi (And.intro hz0 (And.intro hz1 hz2))); clear hP hI hc c hsu hr hF hleft hi hz0 hz1 hz2
   go_enter Tryz.func112, Tryz.ntmps112
   go_wp2_with (first | (go_at_call 61; refine (HC.out).mono ?_; rintro e w1 ⟨rfl, hb1⟩) | (go_at_call 99; refine (money_any _ _).mono ?_; rintro e w' ⟨rfl, rfl⟩) | (go_at_call 157; refine (HSU.out _ (HI.out.below hb1)).mono ?_; rintro e w' ⟨rfl, rfl⟩) | (go_at_call 158; refine (HR.out _ (HP.out.below hb1)).mono ?_; rintro e w2 ⟨rfl, hb2⟩) | (at_builtin; (refine Own.copyOf HIN.out.1 HIN.out.2.1 HIN.out.2.2.1 HIN.out.2.2.2 Tryz.underlying22 rfl (.const (.slice none 0 0)) (.tmp 41) rfl xs q capx ((HI.out.below hb1).below hb2) rfl rfl (by omega) ?_); intro v3 w3 hown3 hb3))
   obtain ⟨p3, c3, rfl, hI3, hn3⟩ := hown3.intsN
   go_ret2
   exact ⟨p3, c3, rfl, hI3, bnext (bnext hb1 hb1.size hb2) (Nat.le_trans hb1.size hb2.size) hb3, fun a h => Nat.le_trans (Nat.le_trans hb1.size hb2.size) (hn3 a h)⟩
  ·have hfa : Ce.farm D m xs = shList (Ce.farmLeft D m xs) xs := by unfold Ce.farm; rw [if_neg (by rw [hF.err]; simp), if_neg heq]
   have hsh := fun (W : World) (h : Ints W q xs) => shares_new (Ce.farmLeft D m xs) q xs capx W h
   rw [hF.shErr] at hsh; rw [hfa]; rw [hleft] at heq hsh ⊢; have hbq : (min m (Ce.red D (Sh.sum xs)) == Sh.sum xs) = false := by simpa using heq
   have HSH := mh hsh; clear hP hI hc c hsu hr hF hleft hfa hsh heq
   go_enter Tryz.func112, Tryz.ntmps112
   go_wp2_with (first | (go_at_call 61; refine (HC.out).mono ?_; rintro e w1 ⟨rfl, hb1⟩) | (go_at_call 99; refine (money_any _ _).mono ?_; rintro e w' ⟨rfl, rfl⟩) | (go_at_call 157; refine (HSU.out _ (HI.out.below hb1)).mono ?_; rintro e w' ⟨rfl, rfl⟩) | (go_at_call 158; refine (HR.out _ (HP.out.below hb1)).mono ?_; rintro e w2 ⟨rfl, hb2⟩) | (go_at_call 107; refine (HSH.out _ ((HI.out.below hb1).below hb2)).mono ?_; rintro e w3 ⟨p3, c3, rfl, hI3, hb3, hn3⟩))
   go_ret2
   exact ⟨p3, c3, rfl, hI3, bnext (bnext hb1 hb1.size hb2) (Nat.le_trans hb1.size hb2.size) hb3, fun a h => Nat.le_trans (Nat.le_trans hb1.size hb2.size) (hn3 a h)⟩
open Go.Shelf
theorem stepCall {P : Program} {ops : Array Oper} {o : Oper} {a : Act} {w : World} {K : Act → World → Prop} {Q : Exit → Act → World → Prop} {E : Prop} (hgd : o.guard = none) (f : FuncId) (xs : Array Operand) (ts : Array TypeId) (args : Array Value)
  (ho : o.op = .call { callee := .value (.func f), args := xs, argTypes := ts }) (he : ∀ args w, (callFunc f args).run P w = .ok (.enter f args) w) (ha : xs.map a.eval = args) {R : Ending → World → Prop} (hc : Calls P f args w R)
  (h : ∀ e w', R e w' → ∃ v, e = .returned v ∧ K (a.put o.dst v) w') : if Region.wanted o (yielded ops a.tmps) = true then Oper.wp P o a w K Q else E := by
 have hw : Region.wanted o (yielded ops a.tmps) = true := by simp [Region.wanted, hgd]
 rw [if_pos hw]; have hrun : (execOp a.eval o).run P w = .ok (.enter f args) w := by
  subst ha
  simp [execOp, ho, resolve, invoke, Act.eval, Deferred.ofValue, he]
 unfold Oper.wp; rw [hrun, Oper.upon_enter]; refine hc.mono fun e w' hR => ?_
 obtain ⟨v, rfl, k⟩ := h e w' hR; exact k
end Go.Proofs.YtmlfcpglhipjgaaGreat
