/-
  THE WALK over the law ExactAnswers of chapter 1.
-/
import Derived.Test.YtlmikbjnibiajaaLb
import Derived.Test.YtlmikbjnibiajaaRs
import Derived.Test.YtlmikbjnibiajaaKp
import Derived.Deep.RegionHeld3
namespace Go.Proofs.Ytlmikbjnibiajaa
open Go.RowKit

/-- Four numbers in a block. -/
def Four (w : World) (b o : Nat) (a0 a1 a2 a3 : Int) : Prop :=
  b < w.heap.size ∧ w.cell? ⟨b, o, none⟩ = some (.int .i64 a0) ∧ w.cell? ⟨b, o + 1, none⟩ = some (.int .i64 a1) ∧ w.cell? ⟨b, o + 2, none⟩ = some (.int .i64 a2) ∧ w.cell? ⟨b, o + 3, none⟩ = some (.int .i64 a3)

theorem Four.below {w w' : World} {b o : Nat} {a0 a1 a2 a3 : Int} (h : Four w b o a0 a1 a2 a3) (hb : Below w.heap.size w w') : Four w' b o a0 a1 a2 a3 :=
  ⟨Nat.lt_of_lt_of_le h.1 hb.size, (hb.cell (p := ⟨b, o, none⟩) h.1).trans h.2.1, (hb.cell (p := ⟨b, o + 1, none⟩) h.1).trans h.2.2.1, (hb.cell (p := ⟨b, o + 2, none⟩) h.1).trans h.2.2.2.1, (hb.cell (p := ⟨b, o + 3, none⟩) h.1).trans h.2.2.2.2⟩

theorem four_new (w : World) (T : TypeId) (L : List Int) (k : Nat) (hk : k * 4 + 3 < L.length) : Four (w.alloc (.cells (L.map (Value.int .i64)).toArray T)) w.heap.size (k * 4) (L.getD (k * 4) 0) (L.getD (k * 4 + 1) 0) (L.getD (k * 4 + 2) 0) (L.getD (k * 4 + 3) 0) := by
  have c : ∀ j, j < L.length → (w.alloc (.cells (L.map (Value.int .i64)).toArray T)).cell? ⟨w.heap.size, j, none⟩ = some (.int .i64 (L.getD j 0)) := fun j hj => by
    rw [World.cell?_alloc_new]
    simp [List.getD_eq_getElem?_getD, hj]
  exact ⟨by simp, c _ (by omega), c _ (by omega), c _ (by omega), c _ hk⟩

set_option maxRecDepth 100000 in
set_option maxHeartbeats 4000000 in
theorem exactAnswers_walk (a b c d : Int) (p5 : Option Addr) (len5 cap5 : Nat) (z5 : List Int) (p6 : Option Addr) (len6 cap6 : Nat) (z6 : List Int) (w : World) (w0 : (Lit.int .i64 a).wf = true) (w1 : (Lit.int .i64 b).wf = true) (w2 : (Lit.int .i64 c).wf = true) (w3 : (Lit.int .i64 d).wf = true)
    (w4 : IsRow .i64 w p5 len5 cap5 z5) (w5 : IsRow .i64 w p6 len6 cap6 z6) :
    Calls Try.prog 6 #[.int .i64 a, .int .i64 b, .int .i64 c, .int .i64 d, .slice p5 len5 cap5, .slice p6 len6 cap6] w fun e w' => e = .returned (.bool true) ∧ Below w.heap.size w w' := by
  obtain ⟨a1, a2⟩ := bd_i64 w0
  obtain ⟨b1, b2⟩ := bd_i64 w1
  obtain ⟨c1, c2⟩ := bd_i64 w2
  obtain ⟨d1, d2⟩ := bd_i64 w3
  clear w0 w1 w2 w3
  have hl5 := w4.len
  have hm5 : len5 ≤ 9223372036854775807 := by have := hl5.2; unfold maxLen at this; omega
  by_cases hlen : 80 < len5
  · clear w4 w5 hl5
    go_enter Try.func6, Try.ntmps6
    go_wp2_with (first | (go_at_call 18; refine (awake01_any _).mono ?_; rintro e w9 ⟨rfl, hb9⟩))
    go_ret
    exact ⟨rfl, hb9⟩
  · have hnew := new_any p6 len6 cap6 z6 w w5
    obtain ⟨i5, e5⟩ := w4.ints
    have I5 := Lib.hid i5
    have E5 := Lib.hid e5
    have HN := Lib.hid hnew
    clear w4 w5 hl5 hnew i5 e5
    generalize (z6.take len6).take 400 = l at *
    generalize hz : z5.take len5 = ws at *
    clear hz
    obtain ⟨gx, ex⟩ : ∃ g, gives l 0 35184372088832 = g := ⟨_, rfl⟩
    obtain ⟨gy, ey⟩ : ∃ g, gives l (taken l 0) 1099511627776 = g := ⟨_, rfl⟩
    obtain ⟨gz, ez⟩ : ∃ g, gives l (taken l (taken l 0)) 35184372088832 = g := ⟨_, rfl⟩
    obtain ⟨gw, ew⟩ : ∃ g, gives l (taken l (taken l (taken l 0))) 1099511627776 = g := ⟨_, rfl⟩
    obtain ⟨x1, x2⟩ := gives_bd l 0 (n := 35184372088832) (by omega)
    obtain ⟨y1, y2⟩ := gives_bd l (taken l 0) (n := 1099511627776) (by omega)
    obtain ⟨z1, z2⟩ := gives_bd l (taken l (taken l 0)) (n := 35184372088832) (by omega)
    obtain ⟨v1, v2⟩ := gives_bd l (taken l (taken l (taken l 0))) (n := 1099511627776) (by omega)
    rw [ex] at x1 x2
    rw [ey] at y1 y2
    rw [ez] at z1 z2
    rw [ew] at v1 v2
    have T1 := Lib.hid (fun (W : World) t (h : TapeAt W t l 0) => ex ▸ next_any t l 0 35184372088832 W h (by omega))
    have T2 := Lib.hid (fun (W : World) t (h : TapeAt W t l (taken l 0)) => ey ▸ range_any t l (taken l 0) 1 1099511627776 W h (by omega) (by omega) (by omega))
    have T3 := Lib.hid (fun (W : World) t (h : TapeAt W t l (taken l (taken l 0))) => ez ▸ next_any t l _ 35184372088832 W h (by omega))
    have T4 := Lib.hid (fun (W : World) t (h : TapeAt W t l (taken l (taken l (taken l 0)))) => ew ▸ range_any t l _ 1 1099511627776 W h (by omega) (by omega) (by omega))
    clear ex ey ez ew
    obtain ⟨n1, n2⟩ := mod_bd a (n := 40) (by omega)
    obtain ⟨n3, n4⟩ := mod_bd b (n := 9) (by omega)
    obtain ⟨n5, n6⟩ := mod_bd c (n := 40) (by omega)
    obtain ⟨n7, n8⟩ := mod_bd d (n := 9) (by omega)
    go_enter Try.func6, Try.ntmps6
    go_wp2_with (first | (go_at_call 21; refine (HN.out).mono ?_; rintro e w1 ⟨rfl, ht0, hb1⟩) | (go_at_call 22; first | (with_reducible refine Calls.mono (T1.out _ _ ht0) ?_; rintro e w2 ⟨rfl, ht1, hb2⟩) | (with_reducible refine Calls.mono (T3.out _ _ ht2) ?_; rintro e w4 ⟨rfl, ht3, hb4⟩)) | (go_at_call 23; first | (with_reducible refine Calls.mono (T2.out _ _ ht1) ?_; rintro e w3 ⟨rfl, ht2, hb3⟩) | (with_reducible refine Calls.mono (T4.out _ _ ht3) ?_; rintro e w5 ⟨rfl, ht4, hb5⟩)) | (go_at_call 24; refine (mod_any _ _ _ (by omega) (by omega)).mono ?_; rintro e w' ⟨rfl, rfl⟩))
    have hbel : Below w.heap.size w w5 := by
      have s1 := hb1.size
      exact ((((hb1.trans (hb2.below (Nat.le_refl _) s1)).trans (hb3.below (Nat.le_refl _) (Nat.le_trans s1 hb2.size))).trans (hb4.below (Nat.le_refl _) (Nat.le_trans (Nat.le_trans s1 hb2.size) hb3.size))).trans (hb5.below (Nat.le_refl _) (Nat.le_trans (Nat.le_trans (Nat.le_trans s1 hb2.size) hb3.size) hb4.size)))
    have BEL := Lib.hid hbel
    clear hbel hb1 hb2 hb3 hb4 hb5 ht0 ht1 ht2 ht3 ht4 T1 T2 T3 T4 HN
    have hL : ∀ x ∈ ([a, b, c, d, gx - 17592186044416, 1 + gy, gz - 17592186044416, 1 + gw, a, 1 + gy, c, 1 + gw, mod a 40 - 20, 1 + mod b 9, mod c 40 - 20, 1 + mod d 9] : List Int), -9223372036854775808 ≤ x ∧ x ≤ 9223372036854775807 := fun x hx => by
      simp only [List.mem_cons, List.not_mem_nil, or_false] at hx
      omega
    have hq : ∀ k : Nat, k < 4 → ∃ q0 q1 q2 q3 : Int, (-9223372036854775808 ≤ q0 ∧ q0 ≤ 9223372036854775807) ∧ Four (w5.alloc (Obj.cells #[.int .i64 a, .int .i64 b, .int .i64 c, .int .i64 d, .int .i64 (gx - 17592186044416), .int .i64 (1 + gy), .int .i64 (gz - 17592186044416), .int .i64 (1 + gw), .int .i64 a, .int .i64 (1 + gy), .int .i64 c, .int .i64 (1 + gw), .int .i64 (mod a 40 - 20), .int .i64 (1 + mod b 9), .int .i64 (mod c 40 - 20), .int .i64 (1 + mod d 9)] 38)) w5.heap.size (k * 4) q0 q1 q2 q3 := fun k hk =>
      ⟨_, _, _, _, getD_bd hL (k * 4), four_new w5 38 [a, b, c, d, gx - 17592186044416, 1 + gy, gz - 17592186044416, 1 + gw, a, 1 + gy, c, 1 + gw, mod a 40 - 20, 1 + mod b 9, mod c 40 - 20, 1 + mod d 9] k (by simp; omega)⟩
    have HQ := Lib.hid hq
    clear hq hL
    go_loopw [78] (fun i wr => ∃ k : Nat, k ≤ 4 ∧ i = .int .i64 k ∧ Below (w5.heap.size + 1) (w5.alloc (Obj.cells #[.int .i64 a, .int .i64 b, .int .i64 c, .int .i64 d, .int .i64 (gx - 17592186044416), .int .i64 (1 + gy), .int .i64 (gz - 17592186044416), .int .i64 (1 + gw), .int .i64 a, .int .i64 (1 + gy), .int .i64 c, .int .i64 (1 + gw), .int .i64 (mod a 40 - 20), .int .i64 (1 + mod b 9), .int .i64 (mod c 40 - 20), .int .i64 (1 + mod d 9)] 38)) wr) (fun i _ => 4 - (intOf i).toNat)
    case atStart => exact ⟨0, by omega, rfl, Below.refl _ _⟩
    case round =>
      obtain ⟨k, hk, rfl, hbw⟩ := hrel
      by_cases hlt : k < 4
      · obtain ⟨q0, q1, q2, q3, ⟨r1, r2⟩, hF⟩ := HQ.out k hlt
        obtain ⟨f0, f1, f2, f3, f4⟩ := hF.below (hbw.mono (by simp))
        have hsz := hbw.size
        have HBW := Lib.hid hbw
        clear hF hbw HQ
        have F6 : Four (wr.alloc (Obj.cells #[.int .i64 q0, .int .i64 q1, .int .i64 q2, .int .i64 q3] 38)) wr.heap.size 0 q0 q1 q2 q3 := ⟨by simp, by go_simp, by go_simp, by go_simp, by go_simp⟩
        have H6 := Lib.hid F6
        clear F6
        go_wp2_with (first | (go_at_call 25; refine (part_any _ _ _ _).mono ?_; rintro e w7 ⟨rfl, hb7⟩; have H7 := Lib.hid (H6.out.below hb7); obtain ⟨g0, g1, g2, g3, g4⟩ := H7.out; simp only [Nat.zero_add] at g1 g2 g3 g4) | (go_at_call 26; refine (refpart_any _ _ _ _).mono ?_; rintro e w8 ⟨rfl, m, rfl⟩) | (go_at_call 15; refine (down_any _ _ _).mono ?_; rintro e w' ⟨rfl, rfl⟩) | (go_at_call 27; refine (refdown_any _ _ _).mono ?_; rintro e w' ⟨rfl, rfl⟩) | (go_at_call 16; refine (up_all _ _ _ (by omega) (by omega)).mono ?_; rintro e w' ⟨rfl, rfl⟩) | (go_at_call 28; refine (refup_any _ _ _).mono ?_; rintro e w' ⟨rfl, rfl⟩) | (go_at_call 17; refine (half_any _ _ _).mono ?_; rintro e w' ⟨rfl, rfl⟩) | (go_at_call 29; refine (refhalf_any _ _ _).mono ?_; rintro e w' ⟨rfl, rfl⟩) | (go_at_call 20; refine (less_any _ _ _ _ _).mono ?_; rintro e w9 ⟨rfl, hb9⟩; obtain ⟨-, i0, i1, i2, i3⟩ := (H7.out.below (drewN_below _ _)).below hb9; simp only [Nat.zero_add] at i1 i2 i3) | (go_at_call 30; refine (refless_any _ _ _ _ _).mono ?_; rintro e w' ⟨rfl, rfl⟩))
        have H8 := Lib.hid (H7.out.below (drewN_below _ m))
        have hsz8 : (w7.drewN m).heap.size = w7.heap.size := rfl
        clear g0 hsz8
        simp only [List.append_eq, List.cons_append, List.nil_append]
        go_region_held3 (fun w' => w'.cell? ⟨wr.heap.size, 0, none⟩ = some (.int .i64 q0) ∧ w'.cell? ⟨wr.heap.size, 1, none⟩ = some (.int .i64 q1) ∧ w'.cell? ⟨wr.heap.size, 2, none⟩ = some (.int .i64 q2) ∧ w'.cell? ⟨wr.heap.size, 3, none⟩ = some (.int .i64 q3)) (first | exact ⟨g1, g2, g3, g4⟩ | exact ⟨i1, i2, i3, i4⟩ | go_keep)
          (first | (go_at_call 15; refine (down_any _ _ _).mono ?_; rintro e w' ⟨rfl, rfl⟩) | (go_at_call 27; refine (refdown_any _ _ _).mono ?_; rintro e w' ⟨rfl, rfl⟩) | (go_at_call 16; refine (up_all _ _ _ (by omega) (by omega)).mono ?_; rintro e w' ⟨rfl, rfl⟩) | (go_at_call 28; refine (refup_any _ _ _).mono ?_; rintro e w' ⟨rfl, rfl⟩) | (go_at_call 17; refine (half_any _ _ _).mono ?_; rintro e w' ⟨rfl, rfl⟩) | (go_at_call 29; refine (refhalf_any _ _ _).mono ?_; rintro e w' ⟨rfl, rfl⟩) | (go_at_call 20; refine (less_any _ _ _ _ _).mono ?_; rintro e w9 ⟨rfl, hb9⟩; have H9 := H8.out.below (bdrew hb9); obtain ⟨-, i1, i2, i3, i4⟩ := H9; simp only [Nat.zero_add] at i1 i2 i3 i4) | (go_at_call 30; refine (refless_any _ _ _ _ _).mono ?_; rintro e w' ⟨rfl, rfl⟩))
        have hb9' : Below (w7.drewN m).heap.size (w7.drewN m) w9 := ⟨hb9.os, hb9.tape, hb9.output, hb9.size, hb9.block⟩
        go_wp2
        go_roundw
        case rel => exact ⟨k + 1, by omega, by go_num, (bnext (bnext (bnext (HBW.out.alloc (by simpa using hsz) _) (by simp; simp at hsz; omega) hb7) (by have := hb7.size; simp at this; simp at hsz; omega) (drewN_below _ m))) (by have := hb7.size; simp at this; simp at hsz; show _ ≤ w7.heap.size; omega) hb9'⟩
        case measure => simp [intOf]; omega
      · obtain rfl : k = 4 := by omega
        have hbe := Lib.hid hbw
        have hsz0 := hbw.size
        simp only [World.size_alloc] at hsz0
        clear hbw hlt hk HQ
        obtain ⟨n9, n10⟩ := mod_bd a (n := 9) (by omega)
        obtain ⟨n11, n12⟩ := mod_bd c (n := 9) (by omega)
        obtain ⟨n13, n14⟩ := mod_bd d (n := 9) (by omega)
        obtain ⟨n15, n16⟩ := mod_bd b (n := 100) (by omega)
        have i51 := I5.out.below (BEL.out.mono (Nat.le_refl _))
        have i52 := ((i51.below ((Below.refl _ _).alloc (Nat.le_refl _) (Obj.cells #[.int .i64 a, .int .i64 b, .int .i64 c, .int .i64 d, .int .i64 (gx - 17592186044416), .int .i64 (1 + gy), .int .i64 (gz - 17592186044416), .int .i64 (1 + gw), .int .i64 a, .int .i64 (1 + gy), .int .i64 c, .int .i64 (1 + gw), .int .i64 (mod a 40 - 20), .int .i64 (1 + mod b 9), .int .i64 (mod c 40 - 20), .int .i64 (1 + mod d 9)] 38))).below (hbe.out.mono (by simp))).below (((Below.refl _ _).alloc (Nat.le_refl _) (Obj.cells #[.int .i64 (mod a 9), .int .i64 (mod b 9), .int .i64 (mod c 9), .int .i64 (mod d 9)] 3)).alloc (by simp) (Obj.cells #[.slice p5 len5 cap5, .slice (some ⟨wr.heap.size, 0, none⟩) 4 4] 28))
        have i53 := (Ints.lit wr 3 [mod a 9, mod b 9, mod c 9, mod d 9] (by unfold maxLen; simp)).below ((Below.refl _ _).alloc (Nat.le_refl _) (Obj.cells #[.slice p5 len5 cap5, .slice (some ⟨wr.heap.size, 0, none⟩) 4 4] 28))
        have hms : ∀ k : Nat, k < 2 → ∃ (p : Option Addr) (zs : List Int) (cc : Nat), ((wr.alloc (Obj.cells #[.int .i64 (mod a 9), .int .i64 (mod b 9), .int .i64 (mod c 9), .int .i64 (mod d 9)] 3)).alloc (Obj.cells #[.slice p5 len5 cap5, .slice (some ⟨wr.heap.size, 0, none⟩) 4 4] 28)).cell? ⟨wr.heap.size + 1, k, none⟩ = some (.slice p zs.length cc) ∧ Ints ((wr.alloc (Obj.cells #[.int .i64 (mod a 9), .int .i64 (mod b 9), .int .i64 (mod c 9), .int .i64 (mod d 9)] 3)).alloc (Obj.cells #[.slice p5 len5 cap5, .slice (some ⟨wr.heap.size, 0, none⟩) 4 4] 28)) p zs := fun k hk => by
          have : k = 0 ∨ k = 1 := by omega
          rcases this with rfl | rfl
          · exact ⟨p5, ws, cap5, by rw [E5.out]; go_simp, i52⟩
          · exact ⟨some ⟨wr.heap.size, 0, none⟩, [mod a 9, mod b 9, mod c 9, mod d 9], 4, by go_simp, i53⟩
        have HMS := Lib.hid hms
        clear hms i51 i52 i53
        go_wp2_with (first | (go_at_call 24; refine (mod_any _ _ _ (by omega) (by omega)).mono ?_; rintro e w' ⟨rfl, rfl⟩))
        have hbe2 := Lib.hid (show Below w.heap.size w wr from BEL.out.trans ((((Below.refl _ _).alloc (Nat.le_refl _) _).trans (hbe.out.mono (by omega))).mono BEL.out.size))
        have hs0 := BEL.out.size
        clear hbe
        go_loopw [183] (fun i wx => ∃ k : Nat, k ≤ 2 ∧ i = .int .i64 k ∧ Below (wr.heap.size + 1 + 1) ((wr.alloc (Obj.cells #[.int .i64 (mod a 9), .int .i64 (mod b 9), .int .i64 (mod c 9), .int .i64 (mod d 9)] 3)).alloc (Obj.cells #[.slice p5 len5 cap5, .slice (some ⟨wr.heap.size, 0, none⟩) 4 4] 28)) wx) (fun i _ => 2 - (intOf i).toNat)
        case atStart => exact ⟨0, by omega, rfl, Below.refl _ _⟩
        case round =>
          obtain ⟨wo, rfl⟩ : ∃ wo : World, wo = wr := ⟨_, rfl⟩
          obtain ⟨k, hk, rfl, hbo⟩ := hrel
          have hszo := hbo.size
          simp only [World.size_alloc] at hszo
          by_cases hlt : k < 2
          · obtain ⟨p, zs, cc, c0, hI⟩ := HMS.out k hlt
            have c1 := (hbo.cell (p := ⟨_, k, none⟩) (by simp)).trans c0
            have hI1 := hI.below (hbo.mono (by simp))
            have i60 := hI1.below ((Below.refl _ _).alloc (Nat.le_refl _) (Obj.cells #[.int .i64 a, .int .i64 (mod b 100), .int .i64 (1 + gy)] 3))
            have hns : ∀ j : Nat, j < 3 → ∃ n : Int, (wo.alloc (Obj.cells #[.int .i64 a, .int .i64 (mod b 100), .int .i64 (1 + gy)] 3)).cell? ⟨wo.heap.size, j, none⟩ = some (.int .i64 n) := fun j hj => by
              have : j = 0 ∨ j = 1 ∨ j = 2 := by omega
              rcases this with rfl | rfl | rfl
              · exact ⟨a, by go_simp⟩
              · exact ⟨mod b 100, by go_simp⟩
              · exact ⟨1 + gy, by go_simp⟩
            have HNS := Lib.hid hns
            have I60 := Lib.hid i60
            have HBO := Lib.hid hbo
            clear hns i60 hI hI1 hbo c0 HMS
            go_wp2_with (first | (go_at_call 24; refine (mod_any _ _ _ (by omega) (by omega)).mono ?_; rintro e w' ⟨rfl, rfl⟩))
            go_loopw [193] (fun i wy => ∃ j : Nat, j ≤ 3 ∧ i = .int .i64 j ∧ Below (wo.heap.size + 1) (wo.alloc (Obj.cells #[.int .i64 a, .int .i64 (mod b 100), .int .i64 (1 + gy)] 3)) wy) (fun i _ => 3 - (intOf i).toNat)
            case atStart => exact ⟨0, by omega, rfl, Below.refl _ _⟩
            case round =>
              obtain ⟨wi, rfl⟩ : ∃ wi : World, wi = wr := ⟨_, rfl⟩
              obtain ⟨j, hj, rfl, hbi⟩ := hrel
              have hszi := hbi.size
              simp only [World.size_alloc] at hszi
              by_cases hjl : j < 3
              · obtain ⟨n, e0⟩ := HNS.out j hjl
                have e1 := (hbi.cell (p := ⟨_, j, none⟩) (by simp)).trans e0
                have I70 := Lib.hid (I60.out.below (hbi.mono (by simp)))
                have HBI := Lib.hid hbi
                clear hbi e0 HNS I60
                go_wp2_with (first | (go_at_call 19; refine (shares_any n p zs cc _ I70.out).mono ?_; rintro e wa ⟨pa, ca, rfl, hla, hba⟩; have hlb0 := I70.out.below hba) | (go_at_call 31; refine (refshares_any n p zs cc _ hlb0).mono ?_; rintro e wb ⟨pb, cb, rfl, hlb, hbb⟩; have hla2 := hla.below hbb; have hint := refints_any pa pb (shList n zs) (shList n zs) ca cb wb hla2 hlb; rw [decide_eq_true rfl] at hint) | (go_at_call 32; refine (hint).mono ?_; rintro e wc ⟨rfl, m, rfl⟩))
                have za := hba.size
                have zb := hbb.size
                have HBA := Lib.hid hba
                have HBB := Lib.hid hbb
                clear hba hbb hlb0 hla hlb hla2 hint
                go_roundw
                case rel => exact ⟨j + 1, by omega, by go_num, bnext (bnext (bnext HBI.out hszi HBA.out) (by omega) HBB.out) (by omega) (drewN_below wb m)⟩
                case measure => simp [intOf]; omega
              · obtain rfl : j = 3 := by omega
                have HBI := Lib.hid hbi
                clear hbi hjl hj
                go_wp2
                go_roundw
                case rel => exact ⟨k + 1, by omega, by go_num, bnext (HBO.out.alloc hszo _) (by simp; omega) (HBI.out.mono (by simp))⟩
                case measure => simp [intOf]; omega
          · obtain rfl : k = 2 := by omega
            have HBO := Lib.hid hbo
            clear hbo hlt hk
            have hw2 := hbe2.out.size
            go_wp2_with (first | (go_at_call 18; refine (awake01_any _).mono ?_; rintro e wz ⟨rfl, hbz⟩))
            go_ret
            exact ⟨rfl, bnext (bnext ((hbe2.out.alloc hw2 _).alloc (by simp; omega) _) (by simp; omega) (HBO.out.mono (by simp))) (by omega) hbz⟩

end Go.Proofs.Ytlmikbjnibiajaa
