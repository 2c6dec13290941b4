/-
  THE WALK over WordsAnswers.
-/
import Derived.Test.YtndikbpmhlhgfaaDoorN8
import Derived.Test.YtndikbpmhlhgfaaDoorBd
import Derived.Deep.RegionHeld3
import Derived.Deep.DeepCutAuto
namespace Go.Proofs.YtndikbpmhlhgfaaDoor
open Go.RowKit

def SmallW (ws : List ByteArray) : Prop := ws.length ≤ 20 ∧ ∀ y ∈ ws, y.size ≤ 50

theorem LinesAt.at2 {w : World} {p : Option Addr} {LL : List (List ByteArray)} (h : LinesAt w p LL) {k : Nat} (hk : k < LL.length) :
    ∃ b off q n c, p = some ⟨b, off, none⟩ ∧ b < w.heap.size ∧ w.cell? ⟨b, off + k, none⟩ = some (.slice q n c) ∧ LL[k].length = n ∧ Recs SB w q LL[k] := by
  obtain ⟨b, o, q, n, d, e, hl, hc, hn, hr, -⟩ := h.at hk
  exact ⟨b, o, q, n, d, e, hl, hc, hn.symm, hr⟩

/-- Three pairs of numbers in a block. -/
def PairsAt (w : World) (b : Nat) : Prop := ∀ j, j < 3 → ∃ lo hi : Int, w.cell? ⟨b, j * 2, none⟩ = some (.int .i64 lo) ∧ w.cell? ⟨b, j * 2 + 1, none⟩ = some (.int .i64 hi) ∧ b < w.heap.size

theorem PairsAt.below {w w' : World} {b : Nat} (h : PairsAt w b) (hb : Below w.heap.size w w') : PairsAt w' b := fun j hj => by
  obtain ⟨lo, hi, h1, h2, h3⟩ := h j hj
  exact ⟨lo, hi, (hb.cell (p := ⟨b, j * 2, none⟩) h3).trans h1, (hb.cell (p := ⟨b, j * 2 + 1, none⟩) h3).trans h2, Nat.lt_of_lt_of_le h3 hb.size⟩

theorem six_at (w : World) (least most : Int) : PairsAt (w.alloc (.cells #[.int .i64 least, .int .i64 most, .int .i64 (-9223372036854775808), .int .i64 9223372036854775807, .int .i64 0, .int .i64 100] 37)) w.heap.size := fun j hj => by
  have hs : w.heap.size < (w.alloc (.cells #[.int .i64 least, .int .i64 most, .int .i64 (-9223372036854775808), .int .i64 9223372036854775807, .int .i64 0, .int .i64 100] 37)).heap.size := by simp
  match j, hj with
  | 0, _ => exact ⟨_, _, World.cell?_alloc_new _ _ _ _, World.cell?_alloc_new _ _ _ _, hs⟩
  | 1, _ => exact ⟨_, _, World.cell?_alloc_new _ _ _ _, World.cell?_alloc_new _ _ _ _, hs⟩
  | 2, _ => exact ⟨_, _, World.cell?_alloc_new _ _ _ _, World.cell?_alloc_new _ _ _ _, hs⟩

/-- Two lists of lines in a block. -/
def ListsAt (w : World) (b : Nat) : Prop := ∀ j, j < 2 → ∃ (p : Option Addr) (M : List (List ByteArray)) (c : Nat), w.cell? ⟨b, j, none⟩ = some (.slice p M.length c) ∧ LinesAt w p M ∧ M.length ≤ 50 ∧ (∀ ws ∈ M, ws.length ≤ 20 ∧ ∀ y ∈ ws, y.size ≤ 3000) ∧ b < w.heap.size

theorem ListsAt.below {w w' : World} {b : Nat} (h : ListsAt w b) (hb : Below w.heap.size w w') : ListsAt w' b := fun j hj => by
  obtain ⟨p, M, c, h1, h2, h3, h4, h5⟩ := h j hj
  exact ⟨p, M, c, (hb.cell (p := ⟨b, j, none⟩) h5).trans h1, h2.below hb, h3, h4, Nat.lt_of_lt_of_le h5 hb.size⟩

theorem lit_three (W : World) (x y z : ByteArray) : LinesAt ((((W.alloc (.cells #[.string x, .string y] 9)).alloc (.cells #[] 9)).alloc (.cells #[.string z] 9)).alloc
    (.cells #[.slice (some ⟨W.heap.size, 0, none⟩) 2 2, .slice (some ⟨W.heap.size + 1, 0, none⟩) 0 0, .slice (some ⟨W.heap.size + 1 + 1, 0, none⟩) 1 1] 25)) (some ⟨W.heap.size + 1 + 1 + 1, 0, none⟩) [[x, y], [], [z]] := by
  have h1 := Recs.lit (S := SB) W 9 [x, y] (by unfold maxLen; simp)
  have h3 := Recs.lit (S := SB) ((W.alloc (.cells #[.string x, .string y] 9)).alloc (.cells #[] 9)) 9 [z] (by unfold maxLen; simp)
  have h2 := Recs.lit (S := SH) (((W.alloc (.cells #[.string x, .string y] 9)).alloc (.cells #[] 9)).alloc (.cells #[.string z] 9)) 25 [⟨some ⟨W.heap.size, 0, none⟩, 2, 2⟩, ⟨some ⟨W.heap.size + 1, 0, none⟩, 0, 0⟩, ⟨some ⟨W.heap.size + 1 + 1, 0, none⟩, 1, 1⟩] (by unfold maxLen; simp)
  rw [World.size_alloc, World.size_alloc] at h3
  rw [World.size_alloc, World.size_alloc, World.size_alloc] at h2
  refine ⟨[⟨some ⟨W.heap.size, 0, none⟩, 2, 2⟩, ⟨some ⟨W.heap.size + 1, 0, none⟩, 0, 0⟩, ⟨some ⟨W.heap.size + 1 + 1, 0, none⟩, 1, 1⟩], rfl, h2, fun k hk hk' => ?_⟩
  rcases (show k = 0 ∨ k = 1 ∨ k = 2 by simp at hk; omega) with rfl | rfl | rfl
  · exact ⟨rfl, ((h1.below ((Below.refl _ _).alloc (Nat.le_refl _) _)).below ((Below.refl _ _).alloc (Nat.le_refl _) _)).below ((Below.refl _ _).alloc (Nat.le_refl _) _), fun h => (by cases h), Nat.le_refl _⟩
  · exact ⟨rfl, Recs.nil _ _, fun h => (by cases h), Nat.le_refl _⟩
  · exact ⟨rfl, h3.below ((Below.refl _ _).alloc (Nat.le_refl _) _), fun h => (by cases h), Nat.le_refl _⟩

theorem lists_at (W : World) (p : Option Addr) (LL : List (List ByteArray)) (c : Nat) (s : ByteArray) (hL : LinesAt W p LL) (h5 : LL.length ≤ 50) (hS : ∀ ws ∈ LL, SmallW ws) (hs : s.size ≤ 3000) :
    ListsAt (((((W.alloc (.cells #[.string ⟨#[97]⟩, .string s] 9)).alloc (.cells #[] 9)).alloc (.cells #[.string ⟨#[98]⟩] 9)).alloc
    (.cells #[.slice (some ⟨W.heap.size, 0, none⟩) 2 2, .slice (some ⟨W.heap.size + 1, 0, none⟩) 0 0, .slice (some ⟨W.heap.size + 1 + 1, 0, none⟩) 1 1] 25)).alloc (.cells #[.slice p LL.length c, .slice (some ⟨W.heap.size + 1 + 1 + 1, 0, none⟩) 3 3] 22)) (W.heap.size + 1 + 1 + 1 + 1) := by
  have h3 := lit_three W ⟨#[97]⟩ s ⟨#[98]⟩
  have b1 : Below W.heap.size W ((((W.alloc (.cells #[.string ⟨#[97]⟩, .string s] 9)).alloc (.cells #[] 9)).alloc (.cells #[.string ⟨#[98]⟩] 9)).alloc
    (.cells #[.slice (some ⟨W.heap.size, 0, none⟩) 2 2, .slice (some ⟨W.heap.size + 1, 0, none⟩) 0 0, .slice (some ⟨W.heap.size + 1 + 1, 0, none⟩) 1 1] 25)) := ((((Below.refl _ _).alloc (Nat.le_refl _) _).alloc (by simp) _).alloc (by simp <;> omega) _).alloc (by simp <;> omega) _
  have hz : ((((W.alloc (.cells #[.string ⟨#[97]⟩, .string s] 9)).alloc (.cells #[] 9)).alloc (.cells #[.string ⟨#[98]⟩] 9)).alloc
    (.cells #[.slice (some ⟨W.heap.size, 0, none⟩) 2 2, .slice (some ⟨W.heap.size + 1, 0, none⟩) 0 0, .slice (some ⟨W.heap.size + 1 + 1, 0, none⟩) 1 1] 25)).heap.size = W.heap.size + 1 + 1 + 1 + 1 := by simp only [World.size_alloc]
  have hL2 := hL.below b1
  generalize ((((W.alloc (.cells #[.string ⟨#[97]⟩, .string s] 9)).alloc (.cells #[] 9)).alloc (.cells #[.string ⟨#[98]⟩] 9)).alloc
    (.cells #[.slice (some ⟨W.heap.size, 0, none⟩) 2 2, .slice (some ⟨W.heap.size + 1, 0, none⟩) 0 0, .slice (some ⟨W.heap.size + 1 + 1, 0, none⟩) 1 1] 25)) = V at *
  have hb : Below V.heap.size V (V.alloc (.cells #[.slice p LL.length c, .slice (some ⟨W.heap.size + 1 + 1 + 1, 0, none⟩) 3 3] 22)) := (Below.refl _ _).alloc (Nat.le_refl _) _
  have hlt : W.heap.size + 1 + 1 + 1 + 1 < (V.alloc (.cells #[.slice p LL.length c, .slice (some ⟨W.heap.size + 1 + 1 + 1, 0, none⟩) 3 3] 22)).heap.size := by rw [World.size_alloc]; omega
  intro j hj
  rw [← hz] at hlt ⊢
  match j, hj with
  | 0, _ => exact ⟨p, LL, c, World.cell?_alloc_new _ _ _ _, hL2.below hb, h5, fun ws hw => ⟨(hS ws hw).1, fun y hy => Nat.le_trans ((hS ws hw).2 y hy) (by decide)⟩, hlt⟩
  | 1, _ =>
    refine ⟨_, [[⟨#[97]⟩, s], [], [⟨#[98]⟩]], 3, World.cell?_alloc_new _ _ _ _, h3.below hb, by simp, fun ws hw => ?_, hlt⟩
    simp only [List.mem_cons, List.not_mem_nil, or_false] at hw
    rcases hw with rfl | rfl | rfl
    · exact ⟨by simp, fun y hy => by
        simp only [List.mem_cons, List.not_mem_nil, or_false] at hy
        rcases hy with rfl | rfl
        · decide
        · exact hs⟩
    · exact ⟨by simp, fun y hy => by cases hy⟩
    · exact ⟨by simp, fun y hy => by obtain rfl := List.mem_singleton.1 hy; decide⟩

/-- Nothing old is changed, and the bytes lie in block B. -/
def KB (w : World) (B : Nat) (xs : List UInt8) (W : World) : Prop := Below w.heap.size w W ∧ BytesAt W B xs

theorem KB.drew {w W : World} {B : Nat} {xs : List UInt8} (h : KB w B xs W) : KB w B xs W.drew := ⟨h.1.drew, h.2.below (Below.refl _ _).drew⟩
theorem KB.nxt {w W W' : World} {B : Nat} {xs : List UInt8} (h : KB w B xs W) (hb : Below W.heap.size W W') : KB w B xs W' := ⟨h.1.trans (hb.mono h.1.size), h.2.below hb⟩

def DcK (D : ByteArray) (w : World) (B : Nat) (xs : List UInt8) (e : Ending) (w' : World) : Prop := e = .returned (.string D) ∧ KB w B xs w'

theorem decimalK {w : World} {B : Nat} {xs : List UInt8} (n : Int) (W : World) (D : ByteArray) (n0 : -9223372036854775808 ≤ n) (n1 : n ≤ 9223372036854775807) (eD : (⟨(Lib.itoa n).toArray⟩ : ByteArray) = D) (hE : Env w) (h : KB w B xs W) : Calls Tryd.prog 11 #[.int .i64 n] W (DcK D w B xs) :=
  (decimal_any n W (hE.below h.1) n0 n1).mono fun _ _ ⟨h1, h2⟩ => ⟨eD ▸ h1, h.nxt h2⟩

theorem refdecimalK {w : World} {B : Nat} {xs : List UInt8} (n : Int) (W : World) (D : ByteArray) (n0 : -9223372036854775808 ≤ n) (n1 : n ≤ 9223372036854775807) (eD : (⟨(Lib.itoa n).toArray⟩ : ByteArray) = D) (h : KB w B xs W) : Calls Tryd.prog 12 #[.int .i64 n] W (DcK D w B xs) :=
  (refdecimal_any (n.natAbs + 1) n W (by omega) n0 n1).mono fun _ _ ⟨h1, h2⟩ => ⟨eD ▸ h1, h.nxt h2⟩

set_option maxRecDepth 100000 in
set_option maxHeartbeats 16000000 in
theorem wordsAnswers_walk (s : ByteArray) (p : Option Addr) (LL : List (List ByteArray)) (c : Nat) (n least most : Int) (a : Option Addr) (len cap : Nat) (z : List Int) (w : World) (hs : s.size ≤ 9223372036854775807) (hL : LinesAt w p LL) (n0 : -9223372036854775808 ≤ n) (n1 : n ≤ 9223372036854775807)
    (h : IsRow .i64 w a len cap z) (hE : Env w) :
    Calls Tryd.prog 3 #[.string s, .slice p LL.length c, .int .i64 n, .int .i64 least, .int .i64 most, .slice a len cap] w (YesB w) := by
  have HN := Lib.hid (new_any a len cap z w h)
  have HE := Lib.hid hE
  have HL := Lib.hid hL
  have AW := Lib.hid (awake02_any w hE)
  have hlm : LL.length ≤ 9223372036854775807 := by obtain ⟨H, e, hr, -⟩ := hL; have := hr.len; omega
  clear h hE hL
  obtain ⟨l, el⟩ : ∃ l, (z.take len).take 400 = l := ⟨_, rfl⟩
  rw [el] at HN
  clear el
  by_cases h1 : 3000 < s.size
  · have h1' : (3000 : Int) < (s.size : Int) := by omega
    clear h1
    go_enter Tryd.func3, Tryd.ntmps3
    go_wp2_with (first | (go_at_call 7; refine Calls.mono AW.out ?_; rintro e w1 ⟨rfl, hb1⟩))
    go_ret
    exact ⟨rfl, hb1⟩
  have g1 : ¬ (3000 : Int) < (s.size : Int) := by omega
  by_cases h2 : 50 < LL.length
  · have h2' : (50 : Int) < (LL.length : Int) := by omega
    clear h1 h2
    go_enter Tryd.func3, Tryd.ntmps3
    go_wp2_with (first | (go_at_call 7; refine Calls.mono AW.out ?_; rintro e w1 ⟨rfl, hb1⟩))
    go_ret
    exact ⟨rfl, hb1⟩
  have g2 : ¬ (50 : Int) < (LL.length : Int) := by omega
  have hs3 : s.size ≤ 3000 := by omega
  have hl5 : LL.length ≤ 50 := by omega
  clear h1 h2
  go_enter Tryd.func3, Tryd.ntmps3
  go_wp2
  go_loop [47] (fun i => ∃ k : Nat, k ≤ LL.length ∧ i = .int .i64 k ∧ ∀ j (hj : j < LL.length), j < k → SmallW LL[j]) (fun i => LL.length - (intOf i).toNat)
  case atStart => exact ⟨0, Nat.zero_le _, rfl, fun j hj hk => absurd hk (Nat.not_lt_zero _)⟩
  case round =>
    obtain ⟨k, hk, rfl, hsm⟩ := hrel
    have HSM := Lib.hid hsm
    clear hsm
    have hk0 : (0 : Int) ≤ (k : Int) := Int.natCast_nonneg _
    by_cases hlt : k < LL.length
    · have hk1 : (k : Int) < (LL.length : Int) := by omega
      obtain ⟨b1, o1, q1, nn, d1, rfl, hl1, hc1, hn1, hr1⟩ := HL.out.at2 hlt
      obtain ⟨ws, ews⟩ : ∃ x, LL[k] = x := ⟨_, rfl⟩
      have HWS := Lib.hid ews
      rw [ews] at hn1 hr1
      clear ews hl1
      have HNN := Lib.hid hn1
      have HR := Lib.hid hr1
      have hlw := hr1.len
      rw [hn1] at hlw
      clear hn1 hr1
      by_cases hw20 : 20 < nn
      · have h20 : (20 : Int) < (nn : Int) := by omega
        clear hw20
        go_wp2_with (first | (go_at_call 7; refine Calls.mono AW.out ?_; rintro e w1 ⟨rfl, hb1⟩))
        go_ret
        exact ⟨rfl, hb1⟩
      have h20 : ¬ (20 : Int) < (nn : Int) := by omega
      go_wp2
      go_loop [62] (fun i => ∃ j : Nat, j ≤ nn ∧ i = .int .i64 j ∧ ∀ m (hm : m < ws.length), m < j → (ws[m]).size ≤ 50) (fun i => nn - (intOf i).toNat)
      case atStart => exact ⟨0, Nat.zero_le _, rfl, fun j hj hk => absurd hk (Nat.not_lt_zero _)⟩
      case round =>
        obtain ⟨j, hj, rfl, hsj⟩ := hrel
        have HSJ := Lib.hid hsj
        clear hsj
        have hj0 : (0 : Int) ≤ (j : Int) := Int.natCast_nonneg _
        by_cases hlt2 : j < nn
        · have hj1 : (j : Int) < (nn : Int) := by omega
          have hjw : j < ws.length := by rw [HNN.out]; exact hlt2
          obtain ⟨x1, y1, rfl, hx1, hw1⟩ := HR.out.word hjw
          obtain ⟨sw, esw⟩ : ∃ x, ws[j] = x := ⟨_, rfl⟩
          have HSW := Lib.hid esw
          rw [esw] at hw1
          clear esw
          by_cases h50 : 50 < sw.size
          · have h50' : (50 : Int) < (sw.size : Int) := by omega
            clear h50
            go_wp2_with (first | (go_at_call 7; refine Calls.mono AW.out ?_; rintro e w1 ⟨rfl, hb1⟩))
            go_ret
            exact ⟨rfl, hb1⟩
          · have h50' : ¬ (50 : Int) < (sw.size : Int) := by omega
            go_wp2
            go_round
            case rel => exact ⟨j + 1, by omega, by go_num, fun m hm hmj => by
              by_cases e : m = j
              · subst e; rw [HSW.out]; omega
              · exact HSJ.out m hm (by omega)⟩
            case measure => simp [intOf]; omega
        · obtain rfl : j = nn := by omega
          go_wp2
          go_round
          case rel => exact ⟨k + 1, by omega, by go_num, fun m hm hmk => by
            by_cases e : m = k
            · subst e
              refine ⟨by rw [HWS.out, HNN.out]; omega, fun y hy => ?_⟩
              rw [HWS.out] at hy
              obtain ⟨i, hi, rfl⟩ := List.mem_iff_getElem.1 hy
              exact HSJ.out i hi (by rw [← HNN.out]; exact hi)
            · exact HSM.out m hm (by omega)⟩
          case measure => simp [intOf]; omega
    · obtain rfl : k = LL.length := by omega
      have HSL := Lib.hid (show ∀ ws ∈ LL, SmallW ws from fun ws hw => by
        obtain ⟨i, hi, rfl⟩ := List.mem_iff_getElem.1 hw
        exact HSM.out i hi hi)
      clear HSM AW
      go_wp2_with (first | (go_at_call 8; refine Calls.mono HN.out ?_; rintro e w1 ⟨rfl, ht1, hb1⟩; obtain ⟨ca, wb, hconv, hBA, hbb⟩ := bytes_of w1 s))
      have ht0 := ht1.lt
      have H0 := Lib.hid (show Below w.heap.size w wb from hb1.trans (hbb.mono hb1.size))
      have HT0 := Lib.hid (ht1.below hbb)
      have HB0 := Lib.hid hBA
      clear hconv hb1 hbb ht1 hBA HN
      generalize w1.heap.size = B at *
      go_loopw [83] (fun i wr => ∃ (j : Nat) (xs : List UInt8) (q : Nat), j ≤ s.size ∧ i = .int .i64 j ∧ xs.length = s.size ∧ BytesAt wr B xs ∧ TapeAt wr w.heap.size l q ∧ Below w.heap.size w wr) (fun i _ => s.size - (intOf i).toNat)
      case atStart => exact ⟨0, s.data.toList, 0, Nat.zero_le _, rfl, size_len s, HB0.out, HT0.out, H0.out⟩
      case round =>
        clear H0 HT0 HB0
        obtain ⟨wo, rfl⟩ : ∃ wo : World, wo = wr := ⟨_, rfl⟩
        obtain ⟨j, xs, q, hj, rfl, hxl, hB, hT, hW⟩ := hrel
        have HXL := Lib.hid hxl
        have HB := Lib.hid hB
        have HT := Lib.hid hT
        have HW := Lib.hid hW
        have hj0 : (0 : Int) ≤ (j : Int) := Int.natCast_nonneg _
        clear hxl hB hT hW
        by_cases hlt : j < s.size
        · have hj1 : (j : Int) < (s.size : Int) := by omega
          obtain ⟨q1, e1⟩ : ∃ g, taken l q = g := ⟨_, rfl⟩
          obtain ⟨bo, eb⟩ : ∃ b, (gives l q 2 == 2 - 1) = b := ⟨_, rfl⟩
          have T1 := Lib.hid (fun (W : World) (h : TapeAt W w.heap.size l q) => e1 ▸ eb ▸ one_any w.heap.size l q 2 W h (by omega) (by omega))
          clear e1 eb
          cases bo
          · go_wp2_with (first | (go_at_call 9; (with_reducible refine Calls.mono (T1.out _ HT.out) ?_); rintro e w2 ⟨rfl, ht2, hb2⟩))
            go_roundw
            case rel => exact ⟨j + 1, xs, q1, by omega, by go_num, HXL.out, HB.out.but hb2 (by omega), ht2, HW.out.trans (hb2.below (Nat.le_refl _) HW.out.size)⟩
            case measure => simp [intOf]; omega
          · obtain ⟨gm, em⟩ : ∃ g, gives l q1 9 = g := ⟨_, rfl⟩
            obtain ⟨m1, m2⟩ := gives_bd l q1 (n := 9) (by omega)
            rw [em] at m1 m2
            obtain ⟨q2, e2⟩ : ∃ g, taken l q1 = g := ⟨_, rfl⟩
            obtain ⟨m, rfl⟩ : ∃ m : Nat, gm = (m : Int) := Int.eq_ofNat_of_zero_le m1
            have T2 := Lib.hid (fun (W : World) (h : TapeAt W w.heap.size l q1) => e2 ▸ em ▸ next_any w.heap.size l q1 9 W h (by omega))
            clear e2 em m1
            have hjx : j < xs.length := by rw [HXL.out]; exact hlt
            go_wp2_with fail
            (with_reducible refine Calls.mono (T1.out _ HT.out) ?_)
            rintro e w2 ⟨rfl, ht2, hb2⟩
            have HB2 := Lib.hid (HB.out.but hb2 (by omega))
            have HW2 := Lib.hid (HW.out.trans (hb2.below (Nat.le_refl _) HW.out.size))
            have HT2 := Lib.hid ht2
            clear hb2 ht2
            go_wp2_with fail
            (with_reducible refine Calls.mono (T2.out _ HT2.out) ?_)
            rintro e w3 ⟨rfl, ht3, hb3⟩
            have HB3 := Lib.hid (HB2.out.but hb3 (by omega))
            have HW3 := Lib.hid (HW2.out.trans (hb3.below (Nat.le_refl _) HW2.out.size))
            have HT3 := Lib.hid ht3
            clear hb3 ht3
            have hc := HB3.out.c j hjx
            have hf := HB3.out.f j hjx
            go_wp2
            go_roundw
            case rel => exact ⟨j + 1, _, q2, by omega, by go_num, by rw [List.length_set]; exact HXL.out, HB3.out.set hjx _, HT3.out.belowB (B := w.heap.size + 1) ((Below.refl _ _).setCell (by show _ ≤ B; omega) _) (Nat.lt_succ_self _), HW3.out.trans ((Below.refl _ _).setCell (by show _ ≤ B; omega) _)⟩
            case measure => simp [intOf]; omega
        · obtain rfl : j = s.size := by omega
          have hxz : (⟨xs.toArray⟩ : ByteArray).size ≤ 3000 := by rw [← size_len]; show xs.length ≤ 3000; rw [HXL.out]; exact hs3
          obtain ⟨BS, eBS⟩ : ∃ x : ByteArray, (⟨xs.toArray⟩ : ByteArray) = x := ⟨_, rfl⟩
          have CV := Lib.hid (fun (W : World) (h : KB w B xs W) => by have := bytes_back W B ca xs s.size HXL.out h.2; rw [eBS] at this; exact this)
          rw [eBS] at hxz
          obtain ⟨D, eD⟩ : ∃ D : ByteArray, (⟨(Lib.itoa n).toArray⟩ : ByteArray) = D := ⟨_, rfl⟩
          have hdz : D.size ≤ 20 := by rw [← size_len, ← eD]; exact (Wo.itoa_len20 n n0 n1).2
          have DE := Lib.hid (fun (W : World) (h : KB w B xs W) => decimalK (w := w) (B := B) (xs := xs) n W D n0 n1 eD HE.out h)
          have RD := Lib.hid (fun (W : World) (h : KB w B xs W) => refdecimalK (w := w) (B := B) (xs := xs) n W D n0 n1 eD h)
          have K0 : KB w B xs wo := ⟨HW.out, HB.out⟩
          clear eBS eD HXL HB HT
          have c1 : ¬ 9223372036854775807 < BS.size + 1 := by omega
          have c2 : ¬ 9223372036854775807 ≤ BS.size := by omega
          have c3 : ¬ 9223372036854775807 < 1 + D.size := by omega
          have c4 : 1 + D.size ≤ 9223372036854775807 := by omega
          have c5 : BS.size < 9223372036854775807 := by omega
          obtain ⟨XS, eXS⟩ : ∃ XS : List ByteArray, [s, BS, BS ++ (⟨#[10]⟩ : ByteArray), D, (⟨#[48]⟩ : ByteArray) ++ D] = XS := ⟨_, rfl⟩
          have hXL : XS.length = 5 := by rw [← eXS]; rfl
          have hXZ : ∀ x ∈ XS, x.size ≤ 3001 := by
            rw [← eXS]
            intro x hx
            simp only [List.mem_cons, List.not_mem_nil, or_false] at hx
            rcases hx with rfl | rfl | rfl | rfl | rfl
            · omega
            · omega
            · rw [ByteArray.size_append]; show _ + 1 ≤ _; omega
            · omega
            · rw [ByteArray.size_append]; show 1 + _ ≤ _; omega
          have LX := Lib.hid (fun (W : World) => show Recs SB (W.alloc (.cells #[.string s, .string BS, .string (BS ++ (⟨#[10]⟩ : ByteArray)), .string D, .string ((⟨#[48]⟩ : ByteArray) ++ D)] 9)) (some ⟨W.heap.size, 0, none⟩) XS by
            rw [← eXS]; exact Recs.lit (S := SB) W 9 [s, BS, BS ++ (⟨#[10]⟩ : ByteArray), D, (⟨#[48]⟩ : ByteArray) ++ D] (by unfold maxLen; simp))
          have HXL2 := Lib.hid hXL
          have HXZ := Lib.hid hXZ
          clear eXS hXL hXZ
          go_upto_region 23 with fail
          go_cut [106, 107, 108] (fun s106 s107 s108 wx => ∃ b : Nat, s106 = .slice (some ⟨b, 0, none⟩) 5 5 ∧ s107 = .int .i64 5 ∧ s108 = .int .i64 0 ∧ Below w.heap.size w wx ∧ Recs SB wx (some ⟨b, 0, none⟩) XS)
          case first =>
            go_region_held3 (fun w' => (convert 28 9 (.slice (some ⟨B, 0, none⟩) s.size ca)).run Tryd.prog w' = .ok (.string BS) w') (first | exact CV.out _ K0 | exact CV.out _ K0.drew | exact CV.out _ K5 | exact CV.out _ K6 | exact CV.out _ K5.drew | exact CV.out _ K6.drew | exact CV.out _ (K5.nxt ((Below.refl _ _).alloc (Nat.le_refl _) _)) | exact CV.out _ (K6.nxt ((Below.refl _ _).alloc (Nat.le_refl _) _))) (first | (go_at_call 11; (with_reducible refine Calls.mono (DE.out _ (by first | exact K6 | exact K6.drew | exact K0 | exact K0.drew)) ?_); rintro e w5 ⟨rfl, K5⟩) | (go_at_call 12; (with_reducible refine Calls.mono (RD.out _ (by first | exact K5 | exact K5.drew | exact K0 | exact K0.drew)) ?_); rintro e w6 ⟨rfl, K6⟩))
            all_goals
              go_wp2_with fail
              go_meet
              first
                | exact ⟨_, rfl, rfl, rfl, K6.1.alloc K6.1.size _, LX.out _⟩
                | exact ⟨_, rfl, rfl, rfl, K5.1.alloc K5.1.size _, LX.out _⟩
          case rest =>
            clear K0 CV DE RD LX c1 c2 c3 c4 c5 hxz hdz
            obtain ⟨b, rfl, rfl, rfl, hWx, hRx⟩ := hcut
            have HWX := Lib.hid hWx
            have HRX := Lib.hid hRx
            clear hWx hRx
            go_wp2
            go_loopw [108] (fun i wr => ∃ k : Nat, k ≤ 5 ∧ i = .int .i64 k ∧ Below w.heap.size w wr ∧ Recs SB wr (some ⟨b, 0, none⟩) XS) (fun i _ => 5 - (intOf i).toNat)
            case atStart => exact ⟨0, Nat.zero_le _, rfl, HWX.out, HRX.out⟩
            case round =>
              clear HWX HRX
              obtain ⟨wo, rfl⟩ : ∃ wo : World, wo = wr := ⟨_, rfl⟩
              obtain ⟨k, hk, rfl, hB, hR⟩ := hrel
              have HB := Lib.hid hB
              have HR := Lib.hid hR
              have hk0 : (0 : Int) ≤ (k : Int) := Int.natCast_nonneg _
              clear hB
              by_cases hlt : k < 5
              · have hk1 : (k : Int) < 5 := by omega
                have hkx : k < XS.length := by rw [HXL2.out]; exact hlt
                obtain ⟨bx, ox, ex, -, hc⟩ := hR.word hkx
                cases ex
                rw [Nat.zero_add] at hc
                have hxz := HXZ.out _ (List.getElem_mem hkx)
                generalize XS[k] = x at *
                clear hR
                obtain ⟨SL, er, S1, S2⟩ := split_pair x (by omega)
                obtain ⟨nq, N1, N2⟩ := name_pair x (by omega)
                have HS1 := Lib.hid S1
                have HS2 := Lib.hid S2
                have HN1 := Lib.hid N1
                have HN2 := Lib.hid N2
                have HSM := Lib.hid (fun (W : World) (p1 p2 : Option Addr) (c1 c2 : Nat) (h1 : LinesAt W p1 SL) (h2 : LinesAt W p2 SL) => same02_any SL p1 p2 c1 c2 W h1 h2)
                clear S1 S2 N1 N2 hkx
                go_wp2_with fail
                (with_reducible refine Calls.mono (HS1.out wo (HE.out.below HB.out)) ?_)
                rintro e w1 ⟨p1, c1, rfl, L1, hb1⟩
                have hc1 := HB.out.trans (hb1.mono HB.out.size)
                go_wp2_with fail
                (with_reducible refine Calls.mono (HS2.out w1 (HE.out.below hc1)) ?_)
                rintro e w2 ⟨p2, c2, rfl, L2, hb2⟩
                have hc2 := hc1.trans (hb2.mono hc1.size)
                have L1' := Lib.hid (L1.out.below hb2)
                go_wp2_with fail
                (with_reducible refine Calls.mono (HSM.out w2 p1 p2 c1 c2 L1'.out L2.out) ?_)
                rintro e w3 ⟨rfl, hb3⟩
                have hc3 := hc2.trans (hb3.mono hc2.size)
                have HR3 := Lib.hid (((HR.out.below hb1).below hb2).below hb3)
                have HC3 := Lib.hid hc3
                clear L1 L1' L2 hb1 hb2 hb3 hc1 hc2 hc3 HSM HS1 HS2
                go_wp2_with (first
                  | (go_at_call 16; (with_reducible refine Calls.mono (HN1.out _) ?_); rintro e w4 ⟨rfl, rfl⟩)
                  | (go_at_call 17; (with_reducible refine Calls.mono (HN2.out _) ?_); rintro e w5 ⟨rfl, rfl⟩))
                have PA := Lib.hid (six_at w3 least most)
                have hAL := Lib.hid ((Below.refl w3.heap.size w3).alloc (Nat.le_refl _) (.cells #[.int .i64 least, .int .i64 most, .int .i64 (-9223372036854775808), .int .i64 9223372036854775807, .int .i64 0, .int .i64 100] 37))
                have HC4 := Lib.hid (HC3.out.trans (hAL.out.mono HC3.out.size))
                have HR4 := Lib.hid (HR3.out.below hAL.out)
                clear HC3 HR3 hAL HR HB HN1 HN2
                generalize w3.heap.size = bq at *
                go_loopw [145] (fun i wr => ∃ j : Nat, j ≤ 3 ∧ i = .int .i64 j ∧ Below w.heap.size w wr ∧ Recs SB wr (some ⟨b, 0, none⟩) XS ∧ PairsAt wr bq) (fun i _ => 3 - (intOf i).toNat)
                case atStart => exact ⟨0, Nat.zero_le _, rfl, HC4.out, HR4.out, PA.out⟩
                case round =>
                  clear HC4 HR4 PA
                  obtain ⟨wi, rfl⟩ : ∃ wi : World, wi = wr := ⟨_, rfl⟩
                  obtain ⟨j, hj, rfl, hB, hR, hP⟩ := hrel
                  have HB := Lib.hid hB
                  have HR := Lib.hid hR
                  have HP := Lib.hid hP
                  have hj0 : (0 : Int) ≤ (j : Int) := Int.natCast_nonneg _
                  clear hB hR
                  by_cases hlt2 : j < 3
                  · have hj1 : (j : Int) < 3 := by omega
                    obtain ⟨lo, hi, q0, q1, -⟩ := hP j hlt2
                    obtain ⟨va, vb, M1, M2⟩ := number_pair x (by omega) lo hi
                    have HM1 := Lib.hid M1
                    have HM2 := Lib.hid M2
                    have hA1 := Lib.hid ((Below.refl wi.heap.size wi).alloc (Nat.le_refl _) (.cells #[.int .i64 lo, .int .i64 hi] 37))
                    have HBA := Lib.hid (HB.out.trans (hA1.out.mono HB.out.size))
                    have A0 := Lib.hid (World.cell?_alloc_new wi #[.int .i64 lo, .int .i64 hi] 37 0)
                    have A1 := Lib.hid (World.cell?_alloc_new wi #[.int .i64 lo, .int .i64 hi] 37 1)
                    have hsz : wi.heap.size < (wi.alloc (.cells #[.int .i64 lo, .int .i64 hi] 37)).heap.size := by simp
                    have HSZ := Lib.hid hsz
                    clear M1 M2 hP hsz
                    go_wp2_with fail
                    (with_reducible refine Calls.mono (HM1.out _ (HE.out.below HBA.out)) ?_)
                    rintro e w5 ⟨rfl, hb5⟩
                    have g0 := (hb5.cell (p := ⟨wi.heap.size, 0, none⟩) HSZ.out).trans A0.out
                    have g1 := (hb5.cell (p := ⟨wi.heap.size, 1, none⟩) HSZ.out).trans A1.out
                    have HB5 := Lib.hid (HBA.out.trans (hb5.mono HBA.out.size))
                    have HX5 := Lib.hid (hA1.out.trans (hb5.mono hA1.out.size))
                    clear hb5
                    simp only [List.getElem?_toArray, List.getElem?_cons_zero, List.getElem?_cons_succ] at g0 g1
                    go_wp2_with fail
                    (with_reducible refine Calls.mono (HM2.out _) ?_)
                    rintro e w6 ⟨rfl, hb6⟩
                    have HB6 := Lib.hid (HB5.out.trans (hb6.mono HB5.out.size))
                    have HX6 := Lib.hid (HX5.out.trans (hb6.mono HX5.out.size))
                    clear hb6 g0 g1
                    go_wp2
                    go_roundw
                    case rel => exact ⟨j + 1, by omega, by go_num, HB6.out, HR.out.below HX6.out, HP.out.below HX6.out⟩
                    case measure => simp [intOf]; omega
                  · obtain rfl : j = 3 := by omega
                    clear hP
                    go_wp2
                    go_roundw
                    case rel => exact ⟨k + 1, by omega, by go_num, HB.out, HR.out⟩
                    case measure => simp [intOf]; omega
              · obtain rfl : k = 5 := by omega
                rw [show ((5 : Nat) : Int) = 5 from rfl]
                clear hR
                have LT := Lib.hid (lists_at wo p LL c s (HL.out.below HB.out) hl5 HSL.out hs3)
                have hAL := Lib.hid (((((((Below.refl wo.heap.size wo).alloc (Nat.le_refl _) (.cells #[.string ⟨#[97]⟩, .string s] 9)).alloc (by simp) (.cells #[] 9)).alloc (by simp <;> omega) (.cells #[.string ⟨#[98]⟩] 9)).alloc (by simp <;> omega)
                  (.cells #[.slice (some ⟨wo.heap.size, 0, none⟩) 2 2, .slice (some ⟨wo.heap.size + 1, 0, none⟩) 0 0, .slice (some ⟨wo.heap.size + 1 + 1, 0, none⟩) 1 1] 25)).alloc (by simp <;> omega) (.cells #[.slice p LL.length c, .slice (some ⟨wo.heap.size + 1 + 1 + 1, 0, none⟩) 3 3] 22)))
                have HB1 := Lib.hid (HB.out.trans (hAL.out.mono HB.out.size))
                clear HB HR hAL
                go_wp2
                go_loopw [185] (fun i wr => ∃ j : Nat, j ≤ 2 ∧ i = .int .i64 j ∧ Below w.heap.size w wr ∧ ListsAt wr (wo.heap.size + 1 + 1 + 1 + 1)) (fun i _ => 2 - (intOf i).toNat)
                case atStart => exact ⟨0, Nat.zero_le _, rfl, HB1.out, LT.out⟩
                case round =>
                  clear HB1 LT
                  obtain ⟨wi, rfl⟩ : ∃ wi : World, wi = wr := ⟨_, rfl⟩
                  obtain ⟨j, hj, rfl, hB, hP⟩ := hrel
                  have HB := Lib.hid hB
                  have HP := Lib.hid hP
                  have hj0 : (0 : Int) ≤ (j : Int) := Int.natCast_nonneg _
                  clear hB
                  by_cases hlt2 : j < 2
                  · have hj1 : (j : Int) < 2 := by omega
                    obtain ⟨pm, M, cm, q0, hLM, hM5, hMs, -⟩ := hP j hlt2
                    have hJT := jText_bd M hMs
                    obtain ⟨JS, er, J1, J2⟩ := join_pair M pm M.length cm rfl (by omega) (fun ws hw => ⟨by have := (hMs ws hw).1; omega, fun y hy => by have := (hMs ws hw).2 y hy; omega⟩)
                    have HLM := Lib.hid hLM
                    have HJ1 := Lib.hid J1
                    have HJ2 := Lib.hid J2
                    have hM1 : ¬ (9223372036854775807 : Int) < (M.length : Int) := by omega
                    clear J1 J2 hLM hMs hJT hP
                    go_wp2_with fail
                    (with_reducible refine Calls.mono (HJ1.out _ HLM.out) ?_)
                    rintro e w5 ⟨rfl, hb5⟩
                    have HB5 := Lib.hid (HB.out.trans (hb5.mono HB.out.size))
                    have HX5 := Lib.hid hb5
                    clear hb5
                    go_wp2_with fail
                    (with_reducible refine Calls.mono (HJ2.out _ (HLM.out.below HX5.out)) ?_)
                    rintro e w6 ⟨rfl, hb6⟩
                    have HB6 := Lib.hid (HB5.out.trans (hb6.mono HB5.out.size))
                    have HX6 := Lib.hid (HX5.out.trans (hb6.mono HX5.out.size))
                    clear hb6
                    go_wp2
                    go_roundw
                    case rel => exact ⟨j + 1, by omega, by go_num, HB6.out, HP.out.below HX6.out⟩
                    case measure => simp [intOf]; omega
                  · obtain rfl : j = 2 := by omega
                    clear hP HP
                    obtain ⟨D2, eD2⟩ : ∃ D : ByteArray, (⟨(Lib.itoa n).toArray⟩ : ByteArray) = D := ⟨_, rfl⟩
                    have DE := Lib.hid (decimal_any n wi (HE.out.below HB.out) n0 n1)
                    have RD := Lib.hid (fun (W : World) => refdecimal_any (n.natAbs + 1) n W (by omega) n0 n1)
                    unfold DecGive at DE RD
                    rw [eD2] at DE RD
                    clear eD2
                    go_wp2_with (first
                      | (go_at_call 11; (with_reducible refine Calls.mono DE.out ?_); rintro e w5 ⟨rfl, hb5⟩)
                      | (go_at_call 12; (with_reducible refine Calls.mono (RD.out _) ?_); rintro e w6 ⟨rfl, hb6⟩; have hc6 := HB.out.trans ((hb5.trans (hb6.mono hb5.size)).mono HB.out.size))
                      | (go_at_call 7; refine Calls.mono (awake02_any w6 (HE.out.below hc6)) ?_; rintro e w7 ⟨rfl, hb7⟩))
                    go_ret
                    exact ⟨rfl, hc6.trans (hb7.mono hc6.size)⟩

theorem wordsAnswers_fit (s : ByteArray) (p : Option Addr) (LL : List (List ByteArray)) (c : Nat) (n least most : Int) (a : Option Addr) (len cap : Nat) (z : List Int) (w : World) (hs : s.size ≤ maxLen) (hL : LinesAt w p LL)
    (hn : (Lit.int .i64 n).wf = true) (_hl : (Lit.int .i64 least).wf = true) (_hm : (Lit.int .i64 most).wf = true) (h : IsRow .i64 w a len cap z) (hE : Env w) :
    Calls Tryd.prog 3 #[.string s, .slice p LL.length c, .int .i64 n, .int .i64 least, .int .i64 most, .slice a len cap] w (YesB w) :=
  wordsAnswers_walk s p LL c n least most a len cap z w hs hL (bd_i64 hn).1 (bd_i64 hn).2 h hE
end Go.Proofs.YtndikbpmhlhgfaaDoor
