/-
  THE WALK over landaidsecond.Steps: a right law, in a slice of the call's own.
-/
import Derived.Test.YtmgdbbmheiligaaKp
import Derived.Test.YtmgdbbmheiligaaDq
import Derived.Test.YtmgdbbmheiligaaPr
namespace Go.Proofs.Ytmgdbbmheiligaa
open Go.RowKit

theorem OwnP.pairs_at2 {w : World} {T : TypeId} {B n c : Nat} {p : Option Addr} {D : List (Int × Int)} (h : OwnP w T B (.slice p n c) D) : Pairs w p D := by
  obtain ⟨p', c', e, hP⟩ := h.pairs
  cases e
  exact hP

/-- A law whose steps all multiply. -/
structure Pre (D : List (Int × Int)) : Prop where
  len : D.length ≤ 4
  ok : ∀ i, i < D.length → (0 ≤ Re.ab D i ∧ Re.ab D i ≤ 100000) ∧ (i = 0 ∨ Re.ab D (i - 1) < Re.ab D i) ∧ (0 ≤ Re.ti D i ∧ Re.ti D i ≤ 10) ∧ (i = 0 ∨ Re.ti D (i - 1) ≤ Re.ti D i)

theorem Pre.nil : Pre [] := ⟨by simp, fun i hi => absurd hi (Nat.not_lt_zero i)⟩

theorem Pre.right {D : List (Int × Int)} (h : Pre D) (h1 : 1 ≤ D.length) : Re.Right D :=
  ⟨h1, by have := h.len; omega, fun i hi => Re.okAt_iff.2 ⟨(h.ok i hi).1, (h.ok i hi).2.1, .inr ⟨(h.ok i hi).2.2.1, (h.ok i hi).2.2.2⟩⟩⟩

theorem Pre.snoc {D : List (Int × Int)} {x y : Int} (h : Pre D) (hl : D.length < 4) (hx : 0 ≤ x ∧ x ≤ 100000) (hy : 0 ≤ y ∧ y ≤ 10) (hp : D.length ≠ 0 → Re.ab D (D.length - 1) < x ∧ Re.ti D (D.length - 1) ≤ y) : Pre (D ++ [(x, y)]) := by
  have gl : (D ++ [(x, y)]).getD D.length (0, 0) = (x, y) := by simp [List.getD_eq_getElem?_getD]
  have gs : ∀ i, i < D.length → (D ++ [(x, y)]).getD i (0, 0) = D.getD i (0, 0) := fun i hi => by simp [List.getD_eq_getElem?_getD, List.getElem?_append_left hi]
  refine ⟨by rw [List.length_append]; simp; omega, fun i hi => ?_⟩
  rw [List.length_append, List.length_singleton] at hi
  unfold Re.ab Re.ti at *
  by_cases e : i = D.length
  · subst e
    rw [gl]
    by_cases hz : D.length = 0
    · exact ⟨hx, .inl hz, hy, .inl hz⟩
    · rw [gs _ (by omega)]
      exact ⟨hx, .inr (hp hz).1, hy, .inr (hp hz).2⟩
  · have hk := h.ok i (by omega)
    unfold Re.ab Re.ti at hk
    rw [gs i (by omega), gs (i - 1) (by omega)]
    exact hk

/-- The last step takes everything. -/
theorem Pre.last {D : List (Int × Int)} (h : Pre D) (h1 : 1 ≤ D.length) : Re.Right (D.set (D.length - 1) ((D.getD (D.length - 1) (0, 0)).1, -1)) := by
  have gs : ∀ i, i < D.length → (D.set (D.length - 1) ((D.getD (D.length - 1) (0, 0)).1, -1)).getD i (0, 0) = if i = D.length - 1 then ((D.getD (D.length - 1) (0, 0)).1, -1) else D.getD i (0, 0) := fun i hi => by
    rw [List.getD_eq_getElem?_getD, List.getElem?_set]
    by_cases e : D.length - 1 = i
    · rw [if_pos e, if_pos (by omega), if_pos e.symm]; rfl
    · rw [if_neg e, if_neg (fun h => e h.symm), ← List.getD_eq_getElem?_getD]
  refine ⟨by rw [List.length_set]; exact h1, by rw [List.length_set]; have := h.len; omega, fun i hi => ?_⟩
  rw [List.length_set] at hi
  have hk := h.ok i hi
  rw [Re.okAt_iff, List.length_set]
  unfold Re.ab Re.ti at *
  rw [gs i hi, gs (i - 1) (by omega)]
  by_cases e : i = D.length - 1
  · rw [if_pos e]
    subst e
    by_cases hz : D.length - 1 = 0
    · exact ⟨hk.1, .inl hz, .inl ⟨rfl, by omega⟩⟩
    · rw [if_neg (by omega)]
      refine ⟨hk.1, ?_, .inl ⟨rfl, by omega⟩⟩
      exact hk.2.1
  · rw [if_neg e]
    by_cases hz : i = 0
    · exact ⟨hk.1, .inl hz, .inr ⟨hk.2.2.1, .inl hz⟩⟩
    · rw [if_neg (by omega)]
      exact ⟨hk.1, hk.2.1, .inr ⟨hk.2.2.1, hk.2.2.2⟩⟩

theorem one_any (t : Nat) (l : List Int) (k : Nat) (w : World) (h : TapeAt w t l k) :
    Calls Try.prog 73 #[.pointer (some ⟨t, 0, none⟩), .int .i64 2] w fun e w' => e = .returned (.bool (gives l k 2 == 1)) ∧ TapeAt w' t l (taken l k) ∧ But t w w' := by
  have HN := Lib.hid (next_any t l k 2 w h (by omega))
  clear h
  go_enter Try.func73, Try.ntmps73
  go_wp2_with (first | (go_at_call 17; refine (HN.out).mono ?_; rintro e w1 ⟨rfl, ht, hb⟩))
  go_ret
  exact ⟨rfl, ht, hb⟩

/-- The end of 'Steps'. -/
def StepGive (w : World) (t : Nat) (l : List Int) (e : Ending) (w' : World) : Prop :=
  ∃ p cap D q, e = .returned (.slice p D.length cap) ∧ OwnP w' 67 w.heap.size (.slice p D.length cap) D ∧ Re.Right D ∧ TapeAt w' t l q ∧ But t w w'

theorem info_stp : (Try.prog.info? 67).map (fun i => (i.zero, i.size, i.bytes)) = some (some (.agg #[.int .i64 0, .int .i64 0]), 2, 16) := by kernel_rfl

structure StpAt (w wr : World) (t : Nat) (l : List Int) (k : Nat) (v : Value) (D : List (Int × Int)) (x y : Int) (q : Nat) : Prop where
  len : D.length = k
  pre : Pre D
  x0 : 0 ≤ x ∧ x ≤ 300 * ((k : Int) + 1)
  y0 : 0 ≤ y ∧ y ≤ 2 * ((k : Int) + 1)
  last : k ≠ 0 → Re.ab D (k - 1) < x ∧ Re.ti D (k - 1) ≤ y
  own : OwnP wr 67 w.heap.size v D
  tape : TapeAt wr t l q
  but : But t w wr

set_option maxRecDepth 100000 in
set_option maxHeartbeats 4000000 in
theorem steps_any (t : Nat) (l : List Int) (a : Nat) (w : World) (h : TapeAt w t l a) :
    Calls Try.prog 44 #[.pointer (some ⟨t, 0, none⟩)] w (StepGive w t l) := by
  obtain ⟨gx, ex⟩ : ∃ g, gives l a 60 = g := ⟨_, rfl⟩
  obtain ⟨gy, ey⟩ : ∃ g, gives l (taken l a) 3 = g := ⟨_, rfl⟩
  obtain ⟨gn, en⟩ : ∃ g, gives l (taken l (taken l a)) (4 - 1 + 1) = g := ⟨_, rfl⟩
  obtain ⟨x1, x2⟩ := gives_bd l a (n := 60) (by omega)
  obtain ⟨y1, y2⟩ := gives_bd l (taken l a) (n := 3) (by omega)
  obtain ⟨n1, n2⟩ := gives_bd l (taken l (taken l a)) (n := 4 - 1 + 1) (by omega)
  rw [ex] at x1 x2
  rw [ey] at y1 y2
  rw [en] at n1 n2
  obtain ⟨M, rfl⟩ : ∃ M : Nat, gn = (M : Int) := Int.eq_ofNat_of_zero_le n1
  obtain ⟨N, hN⟩ : ∃ N : Nat, (N : Int) = 1 + (M : Int) := ⟨1 + M, by omega⟩
  have T1 := Lib.hid (ex ▸ next_any t l a 60 w h (by omega))
  have T2 := Lib.hid (fun (W : World) (h : TapeAt W t l (taken l a)) => ey ▸ next_any t l _ 3 W h (by omega))
  have T3 := Lib.hid (fun (W : World) (h : TapeAt W t l (taken l (taken l a))) => hN ▸ (en ▸ range_any t l _ 1 4 W h (by omega) (by omega) (by omega)))
  have HN := Lib.hid (fun (W : World) (q : Nat) (h : TapeAt W t l q) => next_any t l q 3 W h (by omega))
  have HR := Lib.hid (fun (W : World) (q : Nat) (h : TapeAt W t l q) => range_any t l q 1 300 W h (by omega) (by omega) (by omega))
  have HO := Lib.hid (fun (W : World) (q : Nat) (h : TapeAt W t l q) => one_any t l q W h)
  obtain ⟨i0, hi, hz0, hz1, hz2⟩ := info_parts info_stp
  have HI := Lib.hid (And.intro hi (And.intro hz0 (And.intro hz1 hz2)))
  have hlt := h.lt
  have hN1 : 1 ≤ N := by omega
  have hN4 : N ≤ 4 := by omega
  clear h hi hz0 hz1 hz2 ex ey en n1 n2 hN
  go_enter Try.func44, Try.ntmps44
  go_wp2_with (first | (go_at_call 17; first | (with_reducible refine Calls.mono T1.out ?_; rintro e w1 ⟨rfl, ht1, hb1⟩) | (with_reducible refine Calls.mono (T2.out _ ht1) ?_; rintro e w2 ⟨rfl, ht2, hb2⟩)) | (go_at_call 18; refine (T3.out _ ht2).mono ?_; rintro e w3 ⟨rfl, ht3, hb3⟩))
  have HST := Lib.hid (show StpAt w w3 t l 0 (.slice none 0 0) [] gx gy _ from ⟨rfl, Pre.nil, by omega, by omega, fun h => absurd rfl h, OwnP.nil _ _ _, ht3, (hb1.trans hb2).trans hb3⟩)
  clear ht1 ht2 ht3 hb1 hb2 hb3 T1 T2 T3
  go_loopw [3, 4, 5, 6] (fun v a m c wr => ∃ (k : Nat) (D : List (Int × Int)) (x y : Int) (q : Nat), k ≤ N ∧ c = .int .i64 ((N : Int) - k) ∧ a = .int .i64 x ∧ m = .int .i64 y ∧ StpAt w wr t l k v D x y q) (fun _ _ _ c _ => (intOf c).toNat)
  case atStart => exact ⟨0, [], gx, gy, _, Nat.zero_le _, by simp, rfl, rfl, HST.out⟩
  case round =>
    clear HST
    obtain ⟨k, D, x, y, q, hk, rfl, rfl, rfl, hD⟩ := hrel
    have H := Lib.hid hD
    have x0 := hD.x0
    have y0 := hD.y0
    have hsz := hD.but.size
    have hDl := hD.len
    clear hD
    by_cases hkN : k < N
    · obtain ⟨g, eg⟩ : ∃ g, gives l q (300 - 1 + 1) = g := ⟨_, rfl⟩
      obtain ⟨g', eg'⟩ : ∃ g, gives l (taken l q) 3 = g := ⟨_, rfl⟩
      obtain ⟨g1, g2⟩ := gives_bd l q (n := 300 - 1 + 1) (by omega)
      obtain ⟨g3, g4⟩ := gives_bd l (taken l q) (n := 3) (by omega)
      rw [eg] at g1 g2
      rw [eg'] at g3 g4
      have HR1 := Lib.hid (fun (W : World) (h : TapeAt W t l q) => eg ▸ HR.out W q h)
      have HN1 := Lib.hid (fun (W : World) (h : TapeAt W t l (taken l q)) => eg' ▸ HN.out W _ h)
      clear eg eg' HR HN HO
      go_wp2_with (first | (at_builtin; (refine OwnP.append HI.out.1 HI.out.2.1 HI.out.2.2.1 HI.out.2.2.2 Try.underlying52 rfl (.tmp 17) (.tmp 21) rfl w.heap.size _ _ x y H.out.own rfl rfl (by omega) (by omega) ?_); intro v1 w4 hown4 hb4) | (go_at_call 18; refine (HR1.out _ (H.out.tape.belowB hb4 (by omega))).mono ?_; rintro e w5 ⟨rfl, ht5, hb5⟩) | (go_at_call 17; refine (HN1.out _ ht5).mono ?_; rintro e w6 ⟨rfl, ht6, hb6⟩))
      have hD2 : StpAt w w6 t l (k + 1) v1 (D ++ [(x, y)]) (x + (1 + g)) (y + g') (taken l (taken l q)) := by
        refine ⟨by rw [List.length_append]; simp; omega, H.out.pre.snoc (by omega) (by omega) (by omega) (fun hz => by rw [hDl] at hz ⊢; exact H.out.last hz), by omega, by omega, fun _ => ?_, (hown4.butB hlt hb5).butB hlt hb6, ht6, (H.out.but.step hb4).trans (hb5.trans hb6)⟩
        have gl : (D ++ [(x, y)]).getD (k + 1 - 1) (0, 0) = (x, y) := by rw [Nat.add_sub_cancel, ← hDl]; simp [List.getD_eq_getElem?_getD]
        unfold Re.ab Re.ti
        rw [gl]
        simp only
        omega
      have HD2 := Lib.hid hD2
      clear hD2 hown4 ht5 ht6 hb4 hb5 hb6
      go_roundw
      case rel => exact ⟨k + 1, _, _, _, _, by omega, by congr 1; omega, rfl, rfl, HD2.out⟩
      case measure => simp [intOf]; omega
    · obtain rfl : k = N := by omega
      obtain ⟨p, c, rfl, hP⟩ := H.out.own.pairs
      obtain ⟨g, eg⟩ : ∃ g, gives l q 2 = g := ⟨_, rfl⟩
      have HO1 := Lib.hid (eg ▸ HO.out wr q H.out.tape)
      have hw : IntKind.i64.wrap ((D.length : Int) - 1) = (D.length : Int) - 1 := by rw [IntKind.wrap_i64]; omega
      have hl0 : (0 : Int) ≤ (D.length : Int) - 1 := by omega
      have hl1 : (D.length : Int) - 1 < (D.length : Int) := by omega
      have hD1 : 1 ≤ D.length := by omega
      clear hP hk eg HO HN HR hDl
      by_cases hg : g = 1
      · have hB : (g == 1) = true := beq_iff_eq.2 hg
        clear hg
        go_wp2_with (first | (go_at_call 73; refine HO1.out.mono ?_; rintro e w5 ⟨rfl, ht5, hb5⟩; obtain ⟨gg, hpg, hBg, hgl, cx, cy, fx, fy, -, hset⟩ := (H.out.own.butB hlt hb5).at (k := D.length - 1) (by omega); subst hpg; have HS := Lib.hid (hset (-1)); clear hset))
        go_ret
        exact ⟨_, c, _, taken l q, by rw [List.length_set]; rfl, by rw [List.length_set]; exact HS.out, H.out.pre.last hD1, ht5.belowB ((Below.refl w.heap.size _).setCell hBg _) hlt, (H.out.but.trans hb5).step ((Below.refl w.heap.size _).setCell hBg _)⟩
      · have hB : (g == 1) = false := beq_eq_false_iff_ne.2 hg
        clear hg
        go_wp2_with (first | (go_at_call 73; refine (HO1.out).mono ?_; rintro e w5 ⟨rfl, ht5, hb5⟩))
        go_ret
        exact ⟨p, c, D, taken l q, rfl, H.out.own.butB hlt hb5, H.out.pre.right hD1, ht5, H.out.but.trans hb5⟩

end Go.Proofs.Ytmgdbbmheiligaa
