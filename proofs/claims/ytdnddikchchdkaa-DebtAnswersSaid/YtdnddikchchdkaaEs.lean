/-
  THE WALK over exact.Shares.
-/
import Derived.Test.YtdnddikchchdkaaEd
import Derived.Test.YtdnddikchchdkaaHi
import Derived.Test.YtdnddikchchdkaaEt
import Derived.Deep.RegionHeld3
namespace Go.Proofs.Ytdnddikchchdkaa
open Go.RowKit

set_option maxHeartbeats 400000 in
theorem odd_any (x : Int) (w : World) : Calls Try.prog 56 #[.int .i64 x] w fun e w' => e = .returned (.bool (!Sh.limited x)) ∧ w = w' := by
  go_enter Try.func56, Try.ntmps56
  go_wp2_with (first | (go_at_call 46; refine (limited_any _ _).mono ?_; rintro e w' ⟨rfl, rfl⟩))
  go_ret
  exact ⟨rfl, rfl⟩

theorem odd_pred (w : World) : PredAt Try.prog 56 #[] (Value.int .i64) (fun x => !Sh.limited x) w := fun W x _ => by
  unfold FnGives
  exact (odd_any x W).mono fun e w' ⟨h1, h2⟩ => ⟨h1, 0, h2.symm⟩

theorem contains_odd (p : Option Addr) (zs : List Int) (cap : Nat) (w : World) (h : Ints w p zs) :
    Calls Try.prog 55 #[.slice p zs.length cap, .func (.func 56) #[] #[]] w fun e w' => e = .returned (.bool (zs.any fun x => !Sh.limited x)) ∧ ∃ q, w' = w.drewN q := by
  rcases h.2 with rfl | ⟨b, off, rfl, hl, hc⟩
  · refine (Try.slices_ContainsFunc_empty (α := Int) p cap _ w).mono fun e w' ⟨h1, h2⟩ => ⟨h1, 0, h2⟩
  · have := Try.slices_ContainsFunc (α := Int) (Value.int .i64) (fun x => !Sh.limited x) 56 #[] (enters_of Try.func56 (by kernel_rfl) rfl) b off zs.length cap zs w (odd_pred w) (Nat.le_refl _) h.len (fun j hj => by
      rw [hc j hj, List.getElem!_eq_getElem?_getD, List.getD_eq_getElem?_getD]; rfl)
    rwa [List.take_length] at this

set_option maxHeartbeats 1000000 in
theorem shares_bad (t : Int) (p : Option Addr) (zs : List Int) (cap : Nat) (w : World) (h : Ints w p zs) (hb : 64 < zs.length ∨ Sh.limited t = false ∨ (zs.any fun x => !Sh.limited x) = true) :
    Calls Try.prog 24 #[.int .i64 t, .slice p zs.length cap] w fun e w' => e = .returned (.tuple #[.slice none 0 0, .int .i64 (if 64 < zs.length then 1 else 2)]) ∧ Below w.heap.size w w' := by
  have hl := h.len
  have hc := fun w h => contains_odd p zs cap w h
  have HC := Lib.hid hc
  have H := Lib.hid h
  clear hc h
  by_cases h1 : 64 < zs.length
  · rw [if_pos h1]
    clear hb
    go_enter Try.func24, Try.ntmps24
    go_wp2_with (first | (go_at_call 46; refine (limited_any _ _).mono ?_; rintro e w' ⟨rfl, rfl⟩))
    go_ret2
    exact ⟨rfl, Below.refl _ _⟩
  · rw [if_neg h1]
    rcases hb.resolve_left h1 with h2 | h2
    · clear hb
      go_enter Try.func24, Try.ntmps24
      go_wp2_with (first | (go_at_call 46; refine (limited_any _ _).mono ?_; rintro e w' ⟨rfl, rfl⟩))
      go_ret2
      exact ⟨rfl, Below.refl _ _⟩
    · by_cases h3 : Sh.limited t = false
      · clear hb
        go_enter Try.func24, Try.ntmps24
        go_wp2_with (first | (go_at_call 46; refine (limited_any _ _).mono ?_; rintro e w' ⟨rfl, rfl⟩))
        go_ret2
        exact ⟨rfl, Below.refl _ _⟩
      · replace h3 : Sh.limited t = true := by simpa using h3
        rw [h2] at HC
        clear hb
        go_enter Try.func24, Try.ntmps24
        go_wp2_with (first | (go_at_call 46; refine (limited_any _ _).mono ?_; rintro e w' ⟨rfl, rfl⟩) | (go_at_call 55; refine (HC.out _ H.out).mono ?_; rintro e w1 ⟨rfl, n, rfl⟩))
        go_ret2
        exact ⟨rfl, drewN_below _ _⟩


theorem info_int : (Try.prog.info? 3).map (fun i => (i.zero, i.size, i.bytes)) = some (some (.int .i64 0), 1, 8) := by kernel_rfl

/-- 'make([]int, n)': n zeroes in a new block. -/
theorem make_ints (n : Nat) (hn : n ≤ 35184372088832) (w : World) :
    (Instr.makeSlice 22 (.int .i64 (n : Int)) (.int .i64 (n : Int))).run Try.prog w = .ok (.slice (some ⟨w.heap.size, 0, none⟩) n n) (w.alloc (.cells (madeCells #[.int .i64 0] n) 3)) := by
  obtain ⟨i0, hi, hz0, hz1, hz2⟩ := info_parts info_int
  have hr := run_make (P := Try.prog) w 22 3 i0 (.int .i64 0) Try.underlying22 hi hz0 .i64 .i64 n n (by omega) (Int.le_refl _) (by rw [hz2]; omega) (by omega)
  simp only [Int.toNat_natCast, hz1, Nat.mul_one] at hr
  exact hr

/-- What the second loop holds at its k-th round: B, B + 1, B + 2 are the blocks of the shares, of the order, of the rests; the next one is the rests' variable. -/
structure L2 (w wr : World) (B n k : Nat) (q r : Nat → Int) : Prop where
  below : Below B w wr
  out : Row wr B n fun j => .int .i64 (if j < k then q j else 0)
  ord : Row wr (B + 1) n fun j => .int .i64 (if j < k then (j : Int) else 0)
  rst : Row wr (B + 1 + 1) n fun j => .int .i64 (if j < k then r j else 0)
  box : wr.cell? ⟨B + 1 + 1 + 1, 0, none⟩ = some (.slice (some ⟨B + 1 + 1, 0, none⟩) n n)
  lt : B + 1 + 1 + 1 < wr.heap.size

theorem L2.start (w : World) (n : Nat) (q r : Nat → Int) : L2 w ((((w.alloc (.cells (madeCells #[.int .i64 0] n) 3)).alloc (.cells (madeCells #[.int .i64 0] n) 3)).alloc
      (.cells (madeCells #[.int .i64 0] n) 3)).alloc (.cells #[.slice (some ⟨w.heap.size + 1 + 1, 0, none⟩) n n] 22)) w.heap.size n 0 q r := by
  have z : ∀ (f : Nat → Int) (wr : World) (b : Nat), Row wr b n (fun _ => .int .i64 0) → Row wr b n fun j => .int .i64 (if j < 0 then f j else 0) := fun f wr b h => h.congr fun j _ => by simp
  refine ⟨by go_grown, z _ _ _ (((Row.made w n _ _).alloc _).alloc _ |>.alloc _), z _ _ _ ?_, z _ _ _ ?_, by go_simp, by simp⟩
  · have := Row.made (w.alloc (.cells (madeCells #[.int .i64 0] n) 3)) n 3 (.int .i64 0)
    rw [World.size_alloc] at this
    exact (this.alloc _).alloc _
  · have := Row.made ((w.alloc (.cells (madeCells #[.int .i64 0] n) 3)).alloc (.cells (madeCells #[.int .i64 0] n) 3)) n 3 (.int .i64 0)
    rw [World.size_alloc, World.size_alloc] at this
    exact this.alloc _

theorem L2.drewN {w wr : World} {B n k : Nat} {q r : Nat → Int} (h : L2 w wr B n k q r) : L2 w wr.drew B n k q r := ⟨h.below.drew, h.out, h.ord, h.rst, h.box, h.lt⟩

/-- The three places of the round, behind the call. -/
theorem L2.places {w wr w1 : World} {B n k : Nat} {q r : Nat → Int} (h : L2 w wr B n k q r) (hk : k < n) (hb : Below wr.heap.size wr w1) :
    (w1.cell? ⟨B, k, none⟩ = some (.int .i64 0) ∧ w1.frozen? ⟨B, k, none⟩ = false) ∧ (w1.cell? ⟨B + 1, k, none⟩ = some (.int .i64 0) ∧ w1.frozen? ⟨B + 1, k, none⟩ = false) ∧
    (w1.cell? ⟨B + 1 + 1, k, none⟩ = some (.int .i64 0) ∧ w1.frozen? ⟨B + 1 + 1, k, none⟩ = false) ∧ w1.cell? ⟨B + 1 + 1 + 1, 0, none⟩ = some (.slice (some ⟨B + 1 + 1, 0, none⟩) n n) := by
  have a := (h.out.below hb).2 k hk
  have b := (h.ord.below hb).2 k hk
  have c := (h.rst.below hb).2 k hk
  simp only [Nat.lt_irrefl, if_false] at a b c
  exact ⟨a, b, c, (hb.cell (p := ⟨B + 1 + 1 + 1, 0, none⟩) h.lt).trans h.box⟩

/-- One round. -/
theorem L2.next {w wr w1 : World} {B n k : Nat} {q r : Nat → Int} (h : L2 w wr B n k q r) (hk : k < n) (hb : Below wr.heap.size wr w1) :
    L2 w (((w1.setCell ⟨B, k, none⟩ (.int .i64 (q k))).setCell ⟨B + 1 + 1, k, none⟩ (.int .i64 (r k))).setCell ⟨B + 1, k, none⟩ (.int .i64 (k : Int))) B n (k + 1) q r := by
  have up : ∀ (f : Nat → Int) (j : Nat), (if j = k then Value.int .i64 (f k) else .int .i64 (if j < k then f j else 0)) = .int .i64 (if j < k + 1 then f j else 0) := fun f j => by
    by_cases e : j = k
    · subst e; simp
    · rw [if_neg e]; congr 1; by_cases hj : j < k
      · rw [if_pos hj, if_pos (by omega)]
      · rw [if_neg hj, if_neg (by omega)]
  have hl := h.lt
  refine ⟨?_, ?_, ?_, ?_, ?_, ?_⟩
  · exact (((bnext h.below (by omega) hb).setCell (by simp) _).setCell (by simp; omega) _).setCell (by simp) _
  · exact ((((h.out.below hb).set hk _).other (by omega) _).other (by omega) _).congr fun j _ => up q j
  · exact ((((h.ord.below hb).other (by omega) _).other (by omega) _).set hk _).congr fun j _ => up (fun j => (j : Int)) j
  · exact ((((h.rst.below hb).other (by omega) _).set hk _).other (by omega) _).congr fun j _ => up r j
  · have c := (hb.cell (p := ⟨B + 1 + 1 + 1, 0, none⟩) hl).trans h.box
    rw [World.cell?_setCell_other _ _ _ _ (by intro e; simp only [Addr.mk.injEq] at e; omega), World.cell?_setCell_other _ _ _ _ (by intro e; simp only [Addr.mk.injEq] at e; omega), World.cell?_setCell_other _ _ _ _ (by intro e; simp only [Addr.mk.injEq] at e; omega)]
    exact c
  · have := hb.size
    simp only [World.setCell, Array.size_modify]
    omega

theorem right_div {t : Int} {zs : List Int} (h : Sh.Right t zs) (h64 : zs.length ≤ 64) (k : Nat) : Div t (zs.getD k 0) (Sh.sum zs) ∧ dq t (zs.getD k 0) (Sh.sum zs) = Sh.quo t zs k ∧ dr t (zs.getD k 0) (Sh.sum zs) = Sh.rest t zs k := by
  have w0 := h.w0 k
  have w1 := h.w1 k
  have hp := h.pos
  have ht := h.ht
  have ht' := h.ht'
  have hS : Sh.sum zs ≤ 1099511627776 * zs.length := Sh.sum_le_len fun x hx => (h.hw x hx).2
  have hw : zs.getD k 0 ≤ 1099511627776 := by
    rw [List.getD_eq_getElem?_getD]
    rcases Nat.lt_or_ge k zs.length with hi | hi
    · rw [List.getElem?_eq_getElem hi]; exact (h.hw _ (List.getElem_mem hi)).2
    · rw [List.getElem?_eq_none hi]; decide
  have hd : Div t (zs.getD k 0) (Sh.sum zs) := ⟨ht, ht', w0, hw, by omega, by omega⟩
  have hlt : ¬ Sh.sum zs ≤ t * zs.getD k 0 / 18446744073709551616 := by
    have h1 : t * zs.getD k 0 ≤ t * Sh.sum zs := Int.mul_le_mul_of_nonneg_left w1 ht
    have h2 : t * Sh.sum zs ≤ 1099511627776 * Sh.sum zs := Int.mul_le_mul_of_nonneg_right ht' (by omega)
    omega
  refine ⟨hd, ?_, ?_⟩
  · unfold dq
    rw [if_neg hlt]
    have := h.quo1 k
    unfold Sh.quo at *
    omega
  · unfold dr
    rw [if_neg hlt]
    rfl

theorem any_odd {t : Int} {zs : List Int} (h2 : Sh.limited t = true) (h3 : (zs.any fun x => !Sh.limited x) = false) (hs : Sh.sum zs ≠ 0) : Sh.Right t zs := by
  obtain ⟨a, b⟩ := Sh.limited_iff.1 h2
  refine ⟨a, b, fun x hx => Sh.limited_iff.1 ?_, hs⟩
  rw [List.any_eq_false] at h3
  simpa using h3 x hx

theorem sum_take_bd {zs : List Int} (h1 : zs.length ≤ 64) (h3 : (zs.any fun x => !Sh.limited x) = false) (k : Nat) : 0 ≤ Sh.sum (zs.take k) ∧ Sh.sum (zs.take k) ≤ 70368744177664 := by
  have hw : ∀ x ∈ zs, 0 ≤ x ∧ x ≤ 1099511627776 := fun x hx => Sh.limited_iff.1 (by rw [List.any_eq_false] at h3; simpa using h3 x hx)
  refine ⟨Sh.sum_nonneg fun x hx => (hw x (List.mem_of_mem_take hx)).1, ?_⟩
  have := Sh.sum_le_len (l := zs.take k) (c := 1099511627776) fun x hx => (hw x (List.mem_of_mem_take hx)).2
  rw [List.length_take] at this
  omega

/-- What the third loop holds at its k-th round. -/
structure L3 (w wr : World) (B n k : Nat) (t : Int) (zs : List Int) : Prop where
  below : Below B w wr
  out : Row wr B n fun j => .int .i64 (Sh.quo t zs j + if Sh.top n (Sh.rest t zs) k j = true then 1 else 0)
  ord : Row wr (B + 1) n fun j => .int .i64 ((Sh.order n (Sh.rest t zs)).getD j 0 : Nat)

theorem L3.next {w wr : World} {B n k i : Nat} {t : Int} {zs : List Int} (h : L3 w wr B n k t zs) (hk : k < n) (hi : (Sh.order n (Sh.rest t zs)).getD k 0 = i) : i < n ∧ wr.cell? ⟨B, i, none⟩ = some (.int .i64 (Sh.quo t zs i)) ∧ wr.frozen? ⟨B, i, none⟩ = false ∧ wr.cell? ⟨B + 1, k, none⟩ = some (.int .i64 (i : Int)) ∧
    L3 w (wr.setCell ⟨B, i, none⟩ (.int .i64 (Sh.quo t zs i + 1))) B n (k + 1) t zs := by
  have hkl : k < (Sh.order n (Sh.rest t zs)).length := by rw [Sh.order_len]; exact hk
  have e : (Sh.order n (Sh.rest t zs))[k] = i := by rw [← hi, List.getD_eq_getElem?_getD, List.getElem?_eq_getElem hkl]; rfl
  have hin : i < n := by rw [← e]; exact (Sh.order_mem n _ _).1 (List.getElem_mem hkl)
  have ht : Sh.top n (Sh.rest t zs) k i = false := by rw [← e]; exact Sh.top_at hkl
  have c := h.out.2 i hin
  simp only [ht, Bool.false_eq_true, if_false, Int.add_zero] at c
  have d := (h.ord.2 k hk).1
  simp only [hi] at d
  refine ⟨hin, c.1, c.2, d, h.below.setCell (Nat.le_refl _) _, (h.out.set hin _).congr fun j _ => ?_, h.ord.other (by omega) _⟩
  rw [Sh.top_succ hkl, e]
  by_cases hj : j = i
  · subst hj
    rw [if_pos rfl]
    simp
  · rw [if_neg hj]
    simp [hj]

set_option maxHeartbeats 2000000 in
theorem shares_good (t : Int) (p : Option Addr) (zs : List Int) (cap : Nat) (w : World) (h : Ints w p zs) (h1 : zs.length ≤ 64) (h2 : Sh.limited t = true) (h3 : (zs.any fun x => !Sh.limited x) = false) (hs : Sh.sum zs ≠ 0) :
    Calls Try.prog 24 #[.int .i64 t, .slice p zs.length cap] w fun e w' => e = .returned (.tuple #[.slice (some ⟨w.heap.size, 0, none⟩) zs.length zs.length, .int .i64 0]) ∧ Row w' w.heap.size zs.length (fun j => .int .i64 (Sh.share t zs j)) ∧ Below w.heap.size w w' := by
  have hl := h.len
  have hc := fun w h => contains_odd p zs cap w h
  rw [h3] at hc
  have HC := Lib.hid hc
  have H := Lib.hid h
  have hm := make_ints zs.length (by omega)
  have hsum := sum_take_bd h1 h3
  have HS := Lib.hid hsum
  clear hc h hsum
  have hsB : (Sh.sum zs == 0) = false := by simpa using hs
  have hR := any_odd h2 h3 hs
  have hdv : ∀ k W, Calls Try.prog 47 #[.int .i64 t, .int .i64 (zs.getD k 0), .int .i64 (Sh.sum zs)] W fun e w' => e = .returned (.tuple #[.int .i64 (Sh.quo t zs k), .int .i64 (Sh.rest t zs k)]) ∧ Below W.heap.size W w' := fun k W => by
    obtain ⟨d1, d2, d3⟩ := right_div hR h1 k
    rw [← d2, ← d3]
    exact divide_any d1 W
  have HD := Lib.hid hdv
  have HR := Lib.hid hR
  clear hdv hR
  go_enter Try.func24, Try.ntmps24
  go_wp2_with (first | (go_at_call 46; refine (limited_any _ _).mono ?_; rintro e w' ⟨rfl, rfl⟩) | (go_at_call 55; refine (HC.out _ H.out).mono ?_; rintro e w1 ⟨rfl, n, rfl⟩))
  go_loop [6, 29] (fun s i => ∃ k : Nat, k ≤ zs.length ∧ i = .int .i64 k ∧ s = .int .i64 (Sh.sum (zs.take k))) (fun _ i => zs.length - (intOf i).toNat)
  case atStart => exact ⟨0, Nat.zero_le _, rfl, by simp [Sh.sum]⟩
  case round =>
    obtain ⟨k, hk, rfl, rfl⟩ := hrel
    have hb := HS.out k
    by_cases hlt : k < zs.length
    · obtain ⟨b, off, x, rfl, hbl, hcell, hx⟩ := H.out.get hlt
      have hb1 := HS.out (k + 1)
      rw [sum_take_succ hlt, hx.out] at hb1
      have hst := Lib.hid (sum_take_succ hlt)
      go_wp2
      go_round
      case rel => exact ⟨k + 1, by omega, by go_num, by rw [hst.out, hx.out]⟩
      case measure => simp [intOf]; omega
    · obtain rfl : k = zs.length := by omega
      rw [List.take_length] at hb ⊢
      clear hlt hk
      go_wp2
      have hst := L2.start (w.drewN n) zs.length (Sh.quo t zs) (Sh.rest t zs)
      change L2 _ _ w.heap.size _ _ _ _ at hst
      have hst' := Lib.hid hst
      clear hst hm
      go_loopw [52, 10] (fun i l wr => ∃ k : Nat, k ≤ zs.length ∧ i = .int .i64 k ∧ l = .int .i64 (t - Sh.sum ((List.range k).map (Sh.quo t zs))) ∧ L2 (w.drewN n) wr w.heap.size zs.length k (Sh.quo t zs) (Sh.rest t zs)) (fun i _ _ => zs.length - (intOf i).toNat)
      case atStart => exact ⟨0, Nat.zero_le _, rfl, by simp [Sh.sum], hst'.out⟩
      case round =>
        obtain ⟨k, hk, rfl, rfl, hL⟩ := hrel
        have HL := Lib.hid hL
        by_cases hlt : k < zs.length
        · obtain ⟨b, off, x, rfl, hbl, hcell0, hx⟩ := H.out.get hlt
          have hcell : wr.cell? ⟨b, off + k, none⟩ = some (.int .i64 x) := (hL.below.cell (p := ⟨b, off + k, none⟩) hbl).trans hcell0
          have hbox := hL.box
          clear hL hcell0
          have hd := HD.out k
          rw [hx.out] at hd
          have Hd := Lib.hid hd
          clear hd
          have hk0 : (0 : Int) ≤ (k : Int) := Int.natCast_nonneg _
          have hk1 : (k : Int) < (zs.length : Int) := by omega
          go_wp2_with fail
          go_region_held3 (fun w' => w'.cell? ⟨w.heap.size + 1 + 1 + 1, 0, none⟩ = some (.slice (some ⟨w.heap.size + 1 + 1, 0, none⟩) zs.length zs.length)) (first | exact (HL.out.places hlt hb1').2.2.2 | exact cell_other (HL.out.places hlt hb1').2.2.2 (by simp; omega) | exact cell_other (cell_other (HL.out.places hlt hb1').2.2.2 (by simp; omega)) (by simp) | go_keep)
            (first | (go_at_call 47; refine (Hd.out _).mono ?_; rintro e w1 ⟨rfl, hb1⟩; have hb1' := bdrew hb1; obtain ⟨⟨a1, a2⟩, ⟨b1, b2⟩, ⟨c1, c2⟩, -⟩ := HL.out.places hlt hb1'))
          have hq := HR.out.quo_bd k
          have hQ := HR.out.quo_sum k
          have ht0 := HR.out.ht
          have ht1 := HR.out.ht'
          go_wp2
          go_roundw
          case rel => exact ⟨k + 1, by omega, by go_num, by rw [Sh.quo_succ]; congr 1; omega, HL.out.next hlt hb1'⟩
          case measure => simp [intOf]; omega
        · obtain rfl : k = zs.length := by omega
          clear hlt hk
          obtain ⟨e1, e2⟩ := HR.out.left_eq
          have hlt := HR.out.left_lt
          have hsort := sort_rests (w.heap.size + 1 + 1 + 1) (w.heap.size + 1 + 1) (w.heap.size + 1) zs.length zs.length (Sh.rest t zs) wr HR.out.len h1 hL.lt hL.box
            (hL.rst.congr fun j hj => by rw [if_pos hj]) (hL.ord.congr fun j hj => by rw [if_pos hj]) (by omega) (by omega)
          have HSo := Lib.hid hsort
          rw [← e1]
          clear e1 e2 hsort hL
          go_wp2_with (first | (go_at_call 57; refine (HSo.out).mono ?_; rintro e w3 ⟨rfl, h31, h32, h33⟩))
          have h3s : L3 (w.drewN n) w3 w.heap.size zs.length 0 t zs := by
            refine ⟨HL.out.below.trans (h32 w.heap.size (by omega) (by have := HL.out.lt; omega)), (h33 _ _ _ (by omega) HL.out.out).congr fun j hj => ?_, h31⟩
            rw [if_pos hj, Sh.top_zero]; simp
          have H3 := Lib.hid h3s
          clear h3s h31 h32 h33
          go_loopw [88] (fun i wr => ∃ k : Nat, k ≤ Sh.left t zs ∧ i = .int .i64 k ∧ L3 (w.drewN n) wr w.heap.size zs.length k t zs) (fun i _ => Sh.left t zs - (intOf i).toNat)
          case atStart => exact ⟨0, Nat.zero_le _, rfl, H3.out⟩
          case round =>
            clear H3
            rename_i wr3
            obtain ⟨k, hk, rfl, hL⟩ := hrel
            by_cases hlk : k < Sh.left t zs
            · obtain ⟨i, hi⟩ : ∃ i, (Sh.order zs.length (Sh.rest t zs)).getD k 0 = i := ⟨_, rfl⟩
              obtain ⟨n1, n2, n3, n4, n5⟩ := hL.next (by omega) hi
              have N5 := Lib.hid n5
              have hq := HR.out.quo_bd i
              have hi0 : (0 : Int) ≤ (i : Int) := Int.natCast_nonneg _
              have hi1 : (i : Int) < (zs.length : Int) := by omega
              clear hL n5 hi
              go_wp2
              go_roundw
              case rel => exact ⟨k + 1, by omega, by go_num, N5.out⟩
              case measure => simp [intOf]; omega
            · obtain rfl : k = Sh.left t zs := by omega
              have hend := Lib.hid hL
              clear hL
              go_wp2
              go_ret2
              refine ⟨rfl, hend.out.out, ?_⟩
              exact (drewN_below w n).trans hend.out.below


/-- Without a weight: as many zeroes. -/
theorem shares_none (t : Int) (p : Option Addr) (zs : List Int) (cap : Nat) (w : World) (h : Ints w p zs) (h1 : zs.length ≤ 64) (h2 : Sh.limited t = true) (h3 : (zs.any fun x => !Sh.limited x) = false) (hs : Sh.sum zs = 0) :
    Calls Try.prog 24 #[.int .i64 t, .slice p zs.length cap] w fun e w' => e = .returned (.tuple #[.slice (some ⟨w.heap.size, 0, none⟩) zs.length zs.length, .int .i64 0]) ∧ Row w' w.heap.size zs.length (fun _ => .int .i64 0) ∧ Below w.heap.size w w' := by
  have hl := h.len
  have hc := fun w h => contains_odd p zs cap w h
  rw [h3] at hc
  have HC := Lib.hid hc
  have H := Lib.hid h
  have hm := make_ints zs.length (by omega)
  have hsum := sum_take_bd h1 h3
  have HS := Lib.hid hsum
  clear hc h hsum
  have Hs := Lib.hid hs
  clear hs
  have hR := fun w => Row.made w zs.length 3 (.int .i64 0)
  have HR := Lib.hid hR
  clear hR
  go_enter Try.func24, Try.ntmps24
  go_wp2_with (first | (go_at_call 46; refine (limited_any _ _).mono ?_; rintro e w' ⟨rfl, rfl⟩) | (go_at_call 55; refine (HC.out _ H.out).mono ?_; rintro e w1 ⟨rfl, n, rfl⟩))
  go_loop [6, 29] (fun s i => ∃ k : Nat, k ≤ zs.length ∧ i = .int .i64 k ∧ s = .int .i64 (Sh.sum (zs.take k))) (fun _ i => zs.length - (intOf i).toNat)
  case atStart => exact ⟨0, Nat.zero_le _, rfl, by simp [Sh.sum]⟩
  case round =>
    obtain ⟨k, hk, rfl, rfl⟩ := hrel
    have hb := HS.out k
    by_cases hlt : k < zs.length
    · obtain ⟨b, off, x, rfl, hbl, hcell, hx⟩ := H.out.get hlt
      have hb1 := HS.out (k + 1)
      rw [sum_take_succ hlt, hx.out] at hb1
      have hst := Lib.hid (sum_take_succ hlt)
      go_wp2
      go_round
      case rel => exact ⟨k + 1, by omega, by go_num, by rw [hst.out, hx.out]⟩
      case measure => simp [intOf]; omega
    · obtain rfl : k = zs.length := by omega
      rw [List.take_length, Hs.out]
      clear hlt hk
      go_wp2
      go_ret2
      exact ⟨rfl, HR.out (w.drewN n), (drewN_below w n).alloc (Nat.le_refl _) _⟩

/-! ### what Shares returns, whatever it is given -/
def shErr (t : Int) (zs : List Int) : Int := if 64 < zs.length then 1 else if Sh.limited t = false ∨ (zs.any fun x => !Sh.limited x) = true then 2 else 0
def shList (t : Int) (zs : List Int) : List Int := if shErr t zs ≠ 0 then [] else if Sh.sum zs = 0 then List.replicate zs.length 0 else Sh.shares t zs

/-- What a function that returns a list and an error leaves behind. -/
def GivesInts (w : World) (l : List Int) (er : Int) (e : Ending) (w' : World) : Prop :=
  ∃ p cap, e = .returned (.tuple #[.slice p l.length cap, .int .i64 er]) ∧ Ints w' p l ∧ Below w.heap.size w w'

theorem shares_any (t : Int) (p : Option Addr) (zs : List Int) (cap : Nat) (w : World) (h : Ints w p zs) :
    Calls Try.prog 24 #[.int .i64 t, .slice p zs.length cap] w (GivesInts w (shList t zs) (shErr t zs)) := by
  by_cases hb : 64 < zs.length ∨ Sh.limited t = false ∨ (zs.any fun x => !Sh.limited x) = true
  · refine (shares_bad t p zs cap w h hb).mono fun e w' ⟨he, hw⟩ => ?_
    have e1 : shErr t zs = if 64 < zs.length then 1 else 2 := by
      unfold shErr
      by_cases h1 : 64 < zs.length
      · rw [if_pos h1, if_pos h1]
      · rw [if_neg h1, if_neg h1, if_pos (hb.resolve_left h1)]
    have e2 : shList t zs = [] := by unfold shList; rw [if_pos]; rw [e1]; split <;> decide
    rw [e1, e2]
    exact ⟨none, 0, he, Ints.nil _ _, hw⟩
  · have h1 : zs.length ≤ 64 := by omega
    have h2 : Sh.limited t = true := by
      have : ¬ Sh.limited t = false := fun h => hb (.inr (.inl h))
      simpa using this
    have h3 : (zs.any fun x => !Sh.limited x) = false := Bool.eq_false_iff.2 fun h => hb (.inr (.inr h))
    have e1 : shErr t zs = 0 := by unfold shErr; rw [if_neg (by omega), if_neg (by rw [h2, h3]; simp)]
    by_cases hs : Sh.sum zs = 0
    · have e2 : shList t zs = List.replicate zs.length 0 := by unfold shList; rw [e1, if_neg (by simp), if_pos hs]
      refine (shares_none t p zs cap w h h1 h2 h3 hs).mono fun e w' ⟨he, hr, hw⟩ => ?_
      rw [e1, e2]
      refine ⟨some ⟨w.heap.size, 0, none⟩, zs.length, by rw [he, List.length_replicate], ?_, hw⟩
      have := hr.ints (by unfold maxLen; omega)
      rwa [show (List.range zs.length).map (fun _ => (0 : Int)) = List.replicate zs.length 0 from by simp [List.map_const']] at this
    · have e2 : shList t zs = Sh.shares t zs := by unfold shList; rw [e1, if_neg (by simp), if_neg hs]
      refine (shares_good t p zs cap w h h1 h2 h3 hs).mono fun e w' ⟨he, hr, hw⟩ => ?_
      rw [e1, e2]
      exact ⟨some ⟨w.heap.size, 0, none⟩, zs.length, by rw [he]; simp [Sh.shares], hr.ints (by unfold maxLen; omega), hw⟩

end Go.Proofs.Ytdnddikchchdkaa
