/-
  PACKED (pack8.py): what is needed of the texts Xi.
-/
import Derived.Test.YtmlfcpglhipjgaaGreatM32
set_option maxRecDepth 100000
set_option maxHeartbeats 8000000
open Go.Value renaming int → I
open Go.IntKind renaming i64 → O
namespace Go.Proofs.YtmlfcpglhipjgaaGreat
open Go.RowKit Sc As
namespace Re
def lineB (x y : LineF) : List Bool := [x.decl != y.decl, x.sch != y.sch, decide (x.due ≠ y.due), x.season != y.season, decide (¬ (x.kind = y.kind ∧ x.area = y.area ∧ x.border = y.border))]
def chTake (bs : List Bool) (i : Int) : Nat → List Chg
 | 0 => []
 | k + 1 => chTake bs i k ++ (if bs.getD k false then [⟨2 + k, i⟩] else [])
def lineCh (x y : LineF) (i : Int) : List Chg := chTake (lineB x y) i 5
theorem chTake_len (bs : List Bool) (i : Int) : ∀ k, (chTake bs i k).length ≤ k
 | 0 => Nat.le_refl _
 | k + 1 => by
   have := chTake_len bs i k; unfold chTake; rw [lap]
   cases bs.getD k false <;> simp <;> omega
end Re
theorem Re.bools5 {w : World} {bs : List Bool} {b0 b1 b2 b3 b4 : Bool} (h : bs = [b0, b1, b2, b3, b4]) (w2_ : World) (hb : Below w.heap.size w w2_) : ∃ gb : Nat, Value.slice (some ⟨w2_.heap.size, 0, none⟩) 5 5 = .slice (some ⟨gb, 0, none⟩) 5 5 ∧ gb < (w2_.alloc (.cells #[.bool b0, .bool b1, .bool b2, .bool b3, .bool b4] 4)).heap.size ∧
  (∀ k, k < 5 → (w2_.alloc (.cells #[.bool b0, .bool b1, .bool b2, .bool b3, .bool b4] 4)).cell? ⟨gb, k, none⟩ = some (.bool (bs.getD k false))) ∧ Below w.heap.size w (w2_.alloc (.cells #[.bool b0, .bool b1, .bool b2, .bool b3, .bool b4] 4)) := by
 subst h; have BW := Blk.new w2_ #[.bool b0, .bool b1, .bool b2, .bool b3, .bool b4] 4; refine ⟨_, rfl, BW.lt, fun k hk => ?_, hb.alloc hb.size _⟩; rw [BW.cell k]
 match k, hk with
 | 0, _ => rfl
 | 1, _ => rfl
 | 2, _ => rfl
 | 3, _ => rfl
 | 4, _ => rfl
def Re.ChG (L : List Re.Chg) (w : World) (e : Ending) (w' : World) : Prop := ∃ v, e = .returned v ∧ OwnR Re.SCh w' 91 w.heap.size v L ∧ Below w.heap.size w w'
theorem line38_any {Q Q2 : Nat → Prop} (r s : RL) (x y : LineF) (i : Int) (w : World) (hx : LV Q w r x) (hy : LV Q2 w s y) :
  Calls Tryz.prog 80 #[.agg (lCells r).toArray, .agg (lCells s).toArray, I O i] w (Re.ChG (Re.lineCh x y i) w) := by
 have HX := mh hx; have HY := mh hy; obtain ⟨adl, asc, adp, adn, adc, ase, aki, aar, abo⟩ := r; obtain ⟨bdl, bsc, bdp, bdn, bdc, bse, bki, bar, bbo⟩ := s; have e2 := hx.dn; have e3 := hy.dn; simp only at e2 e3; subst e2 e3; simp only [lCells]; obtain ⟨g, eg⟩ : ∃ g, w.heap.size = g := ⟨_, rfl⟩; have hA1 := (brf w.heap.size w).alloc mle (.cells #[I O adl, I O asc, .slice adp x.due.length adc, I O ase, I O aki, I O aar, I O abo] 68); have hs1 : (w.alloc (.cells #[I O adl, I O asc, .slice adp x.due.length adc, I O ase, I O aki, I O aar, I O abo] 68)).heap.size = g + 1 := by rw [World.size_alloc, eg]
 have hA2 := (brf (w.alloc (.cells #[I O adl, I O asc, .slice adp x.due.length adc, I O ase, I O aki, I O aar, I O abo] 68)).heap.size (w.alloc (.cells #[I O adl, I O asc, .slice adp x.due.length adc, I O ase, I O aki, I O aar, I O abo] 68))).alloc mle (.cells #[I O bdl, I O bsc, .slice bdp y.due.length bdc, I O bse, I O bki, I O bar, I O bbo] 68); have HB0 := mh (hA1.trans (hA2.mono hA1.size)); have GB := mh (hs1 ▸ Blk.new (w.alloc (.cells #[I O adl, I O asc, .slice adp x.due.length adc, I O ase, I O aki, I O aar, I O abo] 68)) #[I O bdl, I O bsc, .slice bdp y.due.length bdc, I O bse, I O bki, I O bar, I O bbo] 68); have GA := mh ((eg ▸ Blk.new w #[I O adl, I O asc, .slice adp x.due.length adc, I O ase, I O aki, I O aar, I O abo] 68 : Blk (w.alloc (.cells #[I O adl, I O asc, .slice adp x.due.length adc, I O ase, I O aki, I O aar, I O abo] 68)) g #[I O adl, I O asc, .slice adp x.due.length adc, I O ase, I O aki, I O aar, I O abo] 68).below hA2); clear hx hy hA1 hA2 hs1; obtain ⟨b0, eb0⟩ : ∃ b, (x.decl != y.decl) = b := ⟨_, rfl⟩; obtain ⟨b1, eb1⟩ : ∃ b, (x.sch != y.sch) = b := ⟨_, rfl⟩; obtain ⟨b3, eb3⟩ : ∃ b, (x.season != y.season) = b := ⟨_, rfl⟩
 have LBE := mh (show ∀ eq sn : Bool, (eq = true ↔ x.due = y.due) → (sn = true ↔ ¬ (aki = bki ∧ aar = bar ∧ abo = bbo)) → Re.lineB x y = [b0, b1, !eq, b3, sn] from fun eq sn h1 h2 => by
  unfold Re.lineB; rw [eb0, eb1, eb3, ← HX.out.kind, ← HX.out.area, ← HX.out.border, ← HY.out.kind, ← HY.out.area, ← HY.out.border]; have e1 : decide (x.due ≠ y.due) = !eq := by cases eq <;> simp at h1 <;> simp [h1]
  have e2 : decide (¬ (aki = bki ∧ aar = bar ∧ abo = bbo)) = sn := by
   cases sn
   ·exact dqf (fun h => by have := h2.2 h; cases this)
   ·exact dqt (h2.1 rfl)
  rw [e1]
  exact congrArg (fun z => [b0, b1, !eq, b3, z]) e2)
 rw [← HX.out.decl, ← HY.out.decl] at eb0; rw [← HX.out.sch, ← HY.out.sch] at eb1; rw [← HX.out.season, ← HY.out.season] at eb3; simp only at eb0 eb1 eb3
 go_enter Tryz.func80, Tryz.ntmps80
 go_upto_region 2 with fail
 clear eg; generalize (w.alloc (.cells #[I O adl, I O asc, .slice adp x.due.length adc, I O ase, I O aki, I O aar, I O abo] 68)).alloc (.cells #[I O bdl, I O bsc, .slice bdp y.due.length bdc, I O bse, I O bki, I O bar, I O bbo] 68) = w0 at *; have HBD := mh (HB0.out.trans ((brf w0.heap.size w0).drew.mono HB0.out.size)); have GA1 := mh (GA.out.below (brf w0.heap.size w0).drew); have GB1 := mh (GB.out.below (brf w0.heap.size w0).drew); have EQ := mh (eqints_any adp bdp x.due y.due adc bdc w0.drew (HX.out.due.below HBD.out) (HY.out.due.below HBD.out))
 go_cut [8] (fun s W => ∃ gb : Nat, s = .slice (some ⟨gb, 0, none⟩) 5 5 ∧ gb < W.heap.size ∧ (∀ k, k < 5 → W.cell? ⟨gb, k, none⟩ = some (.bool ((Re.lineB x y).getD k false))) ∧ Below w.heap.size w W)
 case first =>
  by_cases c1 : aki = bki
  rotate_left
  ·have hc1 : (aki == bki) = false := by simpa using c1
   have hc2 : (aki != bki) = true := by simpa using c1
   have SN := mh (fun eq h => LBE.out eq true h ⟨fun _ h => c1 h.1, fun _ => rfl⟩); clear c1; have KD := mh (show w0.drew.cell? ⟨g, 0, none⟩ = some (I O adl) ∧ w0.drew.cell? ⟨g, 1, none⟩ = some (I O asc) ∧ w0.drew.cell? ⟨g, 2, none⟩ = some (.slice adp x.due.length adc) ∧ w0.drew.cell? ⟨g, 3, none⟩ = some (I O ase) ∧ w0.drew.cell? ⟨g, 4, none⟩ = some (I O aki) ∧ w0.drew.cell? ⟨g, 5, none⟩ = some (I O aar) ∧ w0.drew.cell? ⟨g, 6, none⟩ = some (I O abo) ∧ w0.drew.cell? ⟨g + 1, 0, none⟩ = some (I O bdl) ∧ w0.drew.cell? ⟨g + 1, 1, none⟩ = some (I O bsc) ∧ w0.drew.cell? ⟨g + 1, 2, none⟩ = some (.slice bdp y.due.length bdc) ∧ w0.drew.cell? ⟨g + 1, 3, none⟩ = some (I O bse) ∧ w0.drew.cell? ⟨g + 1, 4, none⟩ = some (I O bki) ∧ w0.drew.cell? ⟨g + 1, 5, none⟩ = some (I O bar) ∧ w0.drew.cell? ⟨g + 1, 6, none⟩ = some (I O bbo) from ⟨GA1.out.cell 0, GA1.out.cell 1, GA1.out.cell 2, GA1.out.cell 3, GA1.out.cell 4, GA1.out.cell 5, GA1.out.cell 6, GB1.out.cell 0, GB1.out.cell 1, GB1.out.cell 2, GB1.out.cell 3, GB1.out.cell 4, GB1.out.cell 5, GB1.out.cell 6⟩)
   go_wp2_with fail
   go_region_held3 (fun w' => w'.cell? ⟨g, 0, none⟩ = some (I O adl) ∧ w'.cell? ⟨g, 1, none⟩ = some (I O asc) ∧ w'.cell? ⟨g, 2, none⟩ = some (.slice adp x.due.length adc) ∧ w'.cell? ⟨g, 3, none⟩ = some (I O ase) ∧ w'.cell? ⟨g, 4, none⟩ = some (I O aki) ∧ w'.cell? ⟨g, 5, none⟩ = some (I O aar) ∧ w'.cell? ⟨g, 6, none⟩ = some (I O abo) ∧ w'.cell? ⟨g + 1, 0, none⟩ = some (I O bdl) ∧ w'.cell? ⟨g + 1, 1, none⟩ = some (I O bsc) ∧ w'.cell? ⟨g + 1, 2, none⟩ = some (.slice bdp y.due.length bdc) ∧ w'.cell? ⟨g + 1, 3, none⟩ = some (I O bse) ∧ w'.cell? ⟨g + 1, 4, none⟩ = some (I O bki) ∧ w'.cell? ⟨g + 1, 5, none⟩ = some (I O bar) ∧ w'.cell? ⟨g + 1, 6, none⟩ = some (I O bbo)) (first | with_reducible exact KD.out | with_reducible exact K2.out | with_reducible exact K3.out | go_keep) (first | (go_at_call 118; (with_reducible refine cmo EQ.out ?_); rintro e w2 ⟨eq, rfl, heq, hb2⟩; have HB2 := mh (HBD.out.trans (hb2.mono HBD.out.size)); have HQ := mh heq; have GA2 := mh (GA1.out.below hb2); have GB2 := mh (GB1.out.below hb2); have K2 := mh ((kd hb2 <| kd hb2 <| kd hb2 <| kc hb2 <| k1 hb2) KD.out); clear heq hb2) | fail)
   have LE := mh (SN.out eq HQ.out)
   go_wp2_with fail
   go_meet
   exact Re.bools5 LE.out w2 HB2.out
  subst c1
  by_cases c2 : aar = bar
  rotate_left
  ·have hc1 : (aar == bar) = false := by simpa using c2
   have hc2 : (aar != bar) = true := by simpa using c2
   have SN := mh (fun eq h => LBE.out eq true h ⟨fun _ h => c2 h.2.1, fun _ => rfl⟩); clear c2; have KD := mh (show w0.drew.cell? ⟨g, 0, none⟩ = some (I O adl) ∧ w0.drew.cell? ⟨g, 1, none⟩ = some (I O asc) ∧ w0.drew.cell? ⟨g, 2, none⟩ = some (.slice adp x.due.length adc) ∧ w0.drew.cell? ⟨g, 3, none⟩ = some (I O ase) ∧ w0.drew.cell? ⟨g, 4, none⟩ = some (I O aki) ∧ w0.drew.cell? ⟨g, 5, none⟩ = some (I O aar) ∧ w0.drew.cell? ⟨g, 6, none⟩ = some (I O abo) ∧ w0.drew.cell? ⟨g + 1, 0, none⟩ = some (I O bdl) ∧ w0.drew.cell? ⟨g + 1, 1, none⟩ = some (I O bsc) ∧ w0.drew.cell? ⟨g + 1, 2, none⟩ = some (.slice bdp y.due.length bdc) ∧ w0.drew.cell? ⟨g + 1, 3, none⟩ = some (I O bse) ∧ w0.drew.cell? ⟨g + 1, 4, none⟩ = some (I O aki) ∧ w0.drew.cell? ⟨g + 1, 5, none⟩ = some (I O bar) ∧ w0.drew.cell? ⟨g + 1, 6, none⟩ = some (I O bbo) from ⟨GA1.out.cell 0, GA1.out.cell 1, GA1.out.cell 2, GA1.out.cell 3, GA1.out.cell 4, GA1.out.cell 5, GA1.out.cell 6, GB1.out.cell 0, GB1.out.cell 1, GB1.out.cell 2, GB1.out.cell 3, GB1.out.cell 4, GB1.out.cell 5, GB1.out.cell 6⟩)
   go_wp2_with fail
   go_region_held3 (fun w' => w'.cell? ⟨g, 0, none⟩ = some (I O adl) ∧ w'.cell? ⟨g, 1, none⟩ = some (I O asc) ∧ w'.cell? ⟨g, 2, none⟩ = some (.slice adp x.due.length adc) ∧ w'.cell? ⟨g, 3, none⟩ = some (I O ase) ∧ w'.cell? ⟨g, 4, none⟩ = some (I O aki) ∧ w'.cell? ⟨g, 5, none⟩ = some (I O aar) ∧ w'.cell? ⟨g, 6, none⟩ = some (I O abo) ∧ w'.cell? ⟨g + 1, 0, none⟩ = some (I O bdl) ∧ w'.cell? ⟨g + 1, 1, none⟩ = some (I O bsc) ∧ w'.cell? ⟨g + 1, 2, none⟩ = some (.slice bdp y.due.length bdc) ∧ w'.cell? ⟨g + 1, 3, none⟩ = some (I O bse) ∧ w'.cell? ⟨g + 1, 4, none⟩ = some (I O aki) ∧ w'.cell? ⟨g + 1, 5, none⟩ = some (I O bar) ∧ w'.cell? ⟨g + 1, 6, none⟩ = some (I O bbo)) (first | with_reducible exact KD.out | with_reducible exact K2.out | with_reducible exact K3.out | go_keep) (first | (go_at_call 118; (with_reducible refine cmo EQ.out ?_); rintro e w2 ⟨eq, rfl, heq, hb2⟩; have HB2 := mh (HBD.out.trans (hb2.mono HBD.out.size)); have HQ := mh heq; have GA2 := mh (GA1.out.below hb2); have GB2 := mh (GB1.out.below hb2); have K2 := mh ((kd hb2 <| kd hb2 <| kd hb2 <| kc hb2 <| k1 hb2) KD.out); clear heq hb2) | fail)
   have LE := mh (SN.out eq HQ.out)
   go_wp2_with fail
   go_meet
   exact Re.bools5 LE.out w2 HB2.out
  subst c2
  by_cases c3 : abo = bbo
  rotate_left
  ·have hc1 : (abo == bbo) = false := by simpa using c3
   have hc2 : (abo != bbo) = true := by simpa using c3
   have SN := mh (fun eq h => LBE.out eq true h ⟨fun _ h => c3 h.2.2, fun _ => rfl⟩); clear c3; have KD := mh (show w0.drew.cell? ⟨g, 0, none⟩ = some (I O adl) ∧ w0.drew.cell? ⟨g, 1, none⟩ = some (I O asc) ∧ w0.drew.cell? ⟨g, 2, none⟩ = some (.slice adp x.due.length adc) ∧ w0.drew.cell? ⟨g, 3, none⟩ = some (I O ase) ∧ w0.drew.cell? ⟨g, 4, none⟩ = some (I O aki) ∧ w0.drew.cell? ⟨g, 5, none⟩ = some (I O aar) ∧ w0.drew.cell? ⟨g, 6, none⟩ = some (I O abo) ∧ w0.drew.cell? ⟨g + 1, 0, none⟩ = some (I O bdl) ∧ w0.drew.cell? ⟨g + 1, 1, none⟩ = some (I O bsc) ∧ w0.drew.cell? ⟨g + 1, 2, none⟩ = some (.slice bdp y.due.length bdc) ∧ w0.drew.cell? ⟨g + 1, 3, none⟩ = some (I O bse) ∧ w0.drew.cell? ⟨g + 1, 4, none⟩ = some (I O aki) ∧ w0.drew.cell? ⟨g + 1, 5, none⟩ = some (I O aar) ∧ w0.drew.cell? ⟨g + 1, 6, none⟩ = some (I O bbo) from ⟨GA1.out.cell 0, GA1.out.cell 1, GA1.out.cell 2, GA1.out.cell 3, GA1.out.cell 4, GA1.out.cell 5, GA1.out.cell 6, GB1.out.cell 0, GB1.out.cell 1, GB1.out.cell 2, GB1.out.cell 3, GB1.out.cell 4, GB1.out.cell 5, GB1.out.cell 6⟩)
   go_wp2_with fail
   go_region_held3 (fun w' => w'.cell? ⟨g, 0, none⟩ = some (I O adl) ∧ w'.cell? ⟨g, 1, none⟩ = some (I O asc) ∧ w'.cell? ⟨g, 2, none⟩ = some (.slice adp x.due.length adc) ∧ w'.cell? ⟨g, 3, none⟩ = some (I O ase) ∧ w'.cell? ⟨g, 4, none⟩ = some (I O aki) ∧ w'.cell? ⟨g, 5, none⟩ = some (I O aar) ∧ w'.cell? ⟨g, 6, none⟩ = some (I O abo) ∧ w'.cell? ⟨g + 1, 0, none⟩ = some (I O bdl) ∧ w'.cell? ⟨g + 1, 1, none⟩ = some (I O bsc) ∧ w'.cell? ⟨g + 1, 2, none⟩ = some (.slice bdp y.due.length bdc) ∧ w'.cell? ⟨g + 1, 3, none⟩ = some (I O bse) ∧ w'.cell? ⟨g + 1, 4, none⟩ = some (I O aki) ∧ w'.cell? ⟨g + 1, 5, none⟩ = some (I O aar) ∧ w'.cell? ⟨g + 1, 6, none⟩ = some (I O bbo)) (first | with_reducible exact KD.out | with_reducible exact K2.out | with_reducible exact K3.out | go_keep) (first | (go_at_call 118; (with_reducible refine cmo EQ.out ?_); rintro e w2 ⟨eq, rfl, heq, hb2⟩; have HB2 := mh (HBD.out.trans (hb2.mono HBD.out.size)); have HQ := mh heq; have GA2 := mh (GA1.out.below hb2); have GB2 := mh (GB1.out.below hb2); have K2 := mh ((kd hb2 <| kd hb2 <| kd hb2 <| kc hb2 <| k1 hb2) KD.out); clear heq hb2) | fail)
   have LE := mh (SN.out eq HQ.out)
   go_wp2_with fail
   go_meet
   exact Re.bools5 LE.out w2 HB2.out
  subst c3; have SN := mh (fun eq h => LBE.out eq false h ⟨fun h => (by cases h), fun h => absurd ⟨rfl, rfl, rfl⟩ h⟩); have KD := mh (show w0.drew.cell? ⟨g, 0, none⟩ = some (I O adl) ∧ w0.drew.cell? ⟨g, 1, none⟩ = some (I O asc) ∧ w0.drew.cell? ⟨g, 2, none⟩ = some (.slice adp x.due.length adc) ∧ w0.drew.cell? ⟨g, 3, none⟩ = some (I O ase) ∧ w0.drew.cell? ⟨g, 4, none⟩ = some (I O aki) ∧ w0.drew.cell? ⟨g, 5, none⟩ = some (I O aar) ∧ w0.drew.cell? ⟨g, 6, none⟩ = some (I O abo) ∧ w0.drew.cell? ⟨g + 1, 0, none⟩ = some (I O bdl) ∧ w0.drew.cell? ⟨g + 1, 1, none⟩ = some (I O bsc) ∧ w0.drew.cell? ⟨g + 1, 2, none⟩ = some (.slice bdp y.due.length bdc) ∧ w0.drew.cell? ⟨g + 1, 3, none⟩ = some (I O bse) ∧ w0.drew.cell? ⟨g + 1, 4, none⟩ = some (I O aki) ∧ w0.drew.cell? ⟨g + 1, 5, none⟩ = some (I O aar) ∧ w0.drew.cell? ⟨g + 1, 6, none⟩ = some (I O abo) from ⟨GA1.out.cell 0, GA1.out.cell 1, GA1.out.cell 2, GA1.out.cell 3, GA1.out.cell 4, GA1.out.cell 5, GA1.out.cell 6, GB1.out.cell 0, GB1.out.cell 1, GB1.out.cell 2, GB1.out.cell 3, GB1.out.cell 4, GB1.out.cell 5, GB1.out.cell 6⟩)
  go_wp2_with fail
  go_region_held3 (fun w' => w'.cell? ⟨g, 0, none⟩ = some (I O adl) ∧ w'.cell? ⟨g, 1, none⟩ = some (I O asc) ∧ w'.cell? ⟨g, 2, none⟩ = some (.slice adp x.due.length adc) ∧ w'.cell? ⟨g, 3, none⟩ = some (I O ase) ∧ w'.cell? ⟨g, 4, none⟩ = some (I O aki) ∧ w'.cell? ⟨g, 5, none⟩ = some (I O aar) ∧ w'.cell? ⟨g, 6, none⟩ = some (I O abo) ∧ w'.cell? ⟨g + 1, 0, none⟩ = some (I O bdl) ∧ w'.cell? ⟨g + 1, 1, none⟩ = some (I O bsc) ∧ w'.cell? ⟨g + 1, 2, none⟩ = some (.slice bdp y.due.length bdc) ∧ w'.cell? ⟨g + 1, 3, none⟩ = some (I O bse) ∧ w'.cell? ⟨g + 1, 4, none⟩ = some (I O aki) ∧ w'.cell? ⟨g + 1, 5, none⟩ = some (I O aar) ∧ w'.cell? ⟨g + 1, 6, none⟩ = some (I O abo)) (first | with_reducible exact KD.out | with_reducible exact K2.out | with_reducible exact K3.out | go_keep) (first | (go_at_call 118; (with_reducible refine cmo EQ.out ?_); rintro e w2 ⟨eq, rfl, heq, hb2⟩; have HB2 := mh (HBD.out.trans (hb2.mono HBD.out.size)); have HQ := mh heq; have GA2 := mh (GA1.out.below hb2); have GB2 := mh (GB1.out.below hb2); have K2 := mh ((kd hb2 <| kd hb2 <| kd hb2 <| kc hb2 <| k1 hb2) KD.out); clear heq hb2) | fail)
  have LE := mh (SN.out eq HQ.out)
  go_wp2_with fail
  go_meet
  exact Re.bools5 LE.out w2 HB2.out
 case rest =>
  obtain ⟨gb, rfl, hgb, hcb, hbw⟩ := hcut; obtain ⟨w3, rfl⟩ : ∃ W : World, W = wc := ⟨_, rfl⟩; have HGB := mh hgb; have CB := mh hcb; have HB3 := mh hbw; clear hgb hcb hbw; obtain ⟨bs, ebs⟩ : ∃ bs, Re.lineB x y = bs := ⟨_, rfl⟩; rw [ebs] at CB; have EBS := mh ebs; clear ebs
  go_wp2_with fail
  go_loopw [7, 40] (fun v iv W => ∃ k : Nat, k ≤ 5 ∧ iv = I O k ∧ OwnR Re.SCh W 91 w3.heap.size v (Re.chTake bs i k) ∧ Below w3.heap.size w3 W) (fun _ iv _ => 5 - (intOf iv).toNat)
  case atStart => exact ⟨0, Nat.zero_le _, rfl, OwnR.nil _ _ _, brf _ _⟩
  case round =>
   obtain ⟨wo, rfl⟩ : ∃ wo : World, wo = wr := ⟨_, rfl⟩; obtain ⟨k, hk, rfl, hO, hb⟩ := hrel; have HO := mh hO; have HBO := mh hb; have hk0 : (0 : Int) ≤ (k : Int) := inn _
   by_cases hlt : k < 5
   ·have hk1 : (k : Int) < 5 := by omega
    have hc := (hb.cell (p := ⟨gb, k, none⟩) HGB.out).trans (CB.out k hlt); have HL := mh (Re.chTake_len bs i k); have ST := mh (show Re.chTake bs i (k + 1) = Re.chTake bs i k ++ (if bs.getD k false then [⟨2 + k, i⟩] else []) from rfl); obtain ⟨b, eb⟩ : ∃ b, bs.getD k false = b := ⟨_, rfl⟩; rw [eb] at hc ST; clear eb hO hb; have hw : IntKind.i64.wrap (2 + (k : Int)) = 2 + (k : Int) := by rw [IntKind.wrap_i64]; omega
    cases b
    ·go_wp2_with fail
     go_roundw
     case rel => exact ⟨k + 1, by omega, by go_num, by rw [ST.out, if_neg (by simp), List.append_nil]; exact HO.out, HBO.out⟩
     case measure => simp [intOf]; omega
    ·go_wp2_with (first | (at_builtin; (refine OwnR.append Re.el_chg rfl (.tmp 46) (.tmp 51) rfl w3.heap.size _ (Re.chTake bs i k) ⟨2 + k, i⟩ #[I O (2 + k), I O i] rfl HO.out rfl rfl HBO.out.size (by have := HL.out; omega) (by decide) ?_); intro v5 w5 hO5 hap5; have HO5 := mh hO5; have HB5 := mh (HBO.out.trans hap5.below); clear hO5 hap5) | fail)
     go_roundw
     case rel => exact ⟨k + 1, by omega, by go_num, by rw [ST.out, if_pos rfl]; exact HO5.out, HB5.out⟩
     case measure => simp [intOf]; omega
   ·obtain rfl : k = 5 := by omega
    clear hb hO
    go_wp2_with fail
    go_ret
    exact ⟨_, rfl, by show OwnR _ _ _ _ _ (Re.chTake (Re.lineB x y) i 5); rw [EBS.out]; exact HO.out.mono HB3.out.size, HB3.out.trans (HBO.out.mono HB3.out.size)⟩
end Go.Proofs.YtmlfcpglhipjgaaGreat
