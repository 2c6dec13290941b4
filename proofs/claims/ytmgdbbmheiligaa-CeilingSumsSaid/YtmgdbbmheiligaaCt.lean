/-
  THE WALK over the law CeilingSums.
-/
import Derived.Test.YtmgdbbmheiligaaCs
namespace Go.Proofs.Ytmgdbbmheiligaa
open Go.RowKit

theorem Own.butB {w w' : World} {T : TypeId} {t B : Nat} {v : Value} {xs : List Int} (h : Own w T B v xs) (hB : t < B) (hb : But t w w') : Own w' T B v xs := by
  refine ⟨h.1, ?_⟩
  rcases h.2 with hn | ⟨g, cap, cur, h1, h2, h3, h4⟩
  · exact .inl hn
  · exact .inr ⟨g, cap, cur, h1, h2, (hb.block g (Array.getElem?_eq_some_iff.1 h3).1 (by omega)).trans h3, h4⟩

theorem sum_5 {xs : List Int} (h5 : xs.length ≤ 5) (h : ∀ x ∈ xs, 0 ≤ x ∧ x < 4000) : 0 ≤ Sh.sum xs ∧ Sh.sum xs ≤ 20000 := by
  refine ⟨Sh.sum_nonneg fun x m => (h x m).1, ?_⟩
  have := Sh.sum_le_len (c := 4000) fun x m => Int.le_of_lt (h x m).2
  omega

theorem sum_f5 {F xs : List Int} (hl : F.length = xs.length) (h5 : F.length ≤ 5) (hb : ∀ i, i < xs.length → 0 ≤ F.getD i 0 ∧ F.getD i 0 ≤ xs.getD i 0) (ha : ∀ i, i < xs.length → 0 ≤ xs.getD i 0 ∧ xs.getD i 0 < 4000) (k : Nat) : 0 ≤ Sh.sum (F.take k) ∧ Sh.sum (F.take k) ≤ 20000 := by
  have hx : ∀ x ∈ F.take k, 0 ≤ x ∧ x < 4000 := fun x hx => by
    obtain ⟨i, hi, rfl⟩ := List.getElem_of_mem (List.mem_of_mem_take hx)
    have h1 := hb i (by omega)
    have h2 := ha i (by omega)
    rw [List.getD_eq_getElem?_getD, List.getElem?_eq_getElem hi] at h1
    simp only [Option.getD_some] at h1
    omega
  have hl2 : (F.take k).length ≤ F.length := List.length_take_le' _ _
  exact sum_5 (by omega) hx

structure SumAt (w3 wr : World) (t : Nat) (l : List Int) (v : Value) (xs : List Int) (q : Nat) : Prop where
  bd : ∀ x ∈ xs, 0 ≤ x ∧ x < 4000
  own : Own wr 3 w3.heap.size v xs
  tape : TapeAt wr t l q
  but : But t w3 wr

set_option maxRecDepth 100000 in
set_option maxHeartbeats 4000000 in
theorem ceilingSums_walk (a : Option Addr) (len cap : Nat) (z : List Int) (w : World) (w0 : IsRow .i64 w a len cap z) :
    Calls Try.prog 6 #[.slice a len cap] w fun e w' => e = .returned (.bool true) ∧ Below w.heap.size w w' := by
  have HN := Lib.hid (new_any a len cap z w w0)
  clear w0
  generalize (z.take len).take 400 = l at *
  have HD := Lib.hid (fun (W : World) (h : TapeAt W w.heap.size l 0) => degrees_any w.heap.size l 0 W h)
  have HX := Lib.hid (fun (W : World) (q : Nat) (h : TapeAt W w.heap.size l q) => next_any w.heap.size l q 8000 W h (by omega))
  have HY := Lib.hid (fun (W : World) (q : Nat) (h : TapeAt W w.heap.size l q) => next_any w.heap.size l q 4000 W h (by omega))
  have HR := Lib.hid (fun (W : World) (q : Nat) (h : TapeAt W w.heap.size l q) => range_any w.heap.size l q 1 5 W h (by omega) (by omega) (by omega))
  obtain ⟨i0, hi, hz0, hz1, hz2⟩ := info_parts info_int
  have HI := Lib.hid (And.intro hi (And.intro hz0 (And.intro hz1 hz2)))
  clear hi hz0 hz1 hz2
  go_enter Try.func6, Try.ntmps6
  go_wp2_with (first | (go_at_call 16; refine (HN.out).mono ?_; rintro e w1 ⟨rfl, ht, hb1⟩) | (go_at_call 34; refine (HD.out _ ht).mono ?_; rintro e w2 ⟨p, cp, D, q0, rfl, hO, hRt, hl3, ht2, hb2⟩) | (go_at_call 17; refine (HX.out _ _ ht2).mono ?_; rintro e w3 ⟨rfl, ht3, hb3⟩) | (go_at_call 18; refine (HR.out _ _ ht3).mono ?_; rintro e w4 ⟨rfl, ht4, hb4⟩))
  obtain ⟨c0, c1⟩ := gives_bd l q0 (n := 8000) (by omega)
  obtain ⟨n0, n1⟩ := gives_bd l (taken l q0) (n := 5) (by omega)
  have BEL := Lib.hid ((hb1.trans hb2).trans ((hb3.trans hb4).below (Nat.le_refl _) (Nat.le_trans hb1.size hb2.size)))
  have O4 := Lib.hid (OwnP.but (OwnP.but hO hb3) hb4)
  have R := Lib.hid hRt
  generalize gives l q0 8000 = c at *
  obtain ⟨M, hM⟩ : ∃ M : Nat, gives l (taken l q0) 5 = (M : Int) := Int.eq_ofNat_of_zero_le n0
  rw [hM] at n0 n1 ⊢
  obtain ⟨N, hN⟩ : ∃ N : Nat, (N : Int) = 1 + (M : Int) := ⟨1 + M, by omega⟩
  rw [← hN]
  have hN5 : N ≤ 5 := by omega
  have HST := Lib.hid (show SumAt w4 w4 w.heap.size l (.slice none 0 0) [] _ from ⟨by simp, Own.nil _ _ _, ht4, But.refl _ _⟩)
  have htlt := ht4.lt
  clear hO hRt ht ht2 ht3 ht4 hb1 hb2 hb3 hb4 HN HD HX HR hM hN n0 n1
  go_loopw [6, 7, 8] (fun v s i wr => ∃ (xs : List Int) (q : Nat), xs.length ≤ N ∧ i = .int .i64 ((N : Int) - xs.length) ∧ s = .int .i64 (Sh.sum xs) ∧ SumAt w4 wr w.heap.size l v xs q) (fun _ _ i _ => (intOf i).toNat)
  case atStart => exact ⟨[], _, Nat.zero_le _, by simp, rfl, HST.out⟩
  case round =>
    clear HST
    obtain ⟨xs, q, hk, rfl, rfl, hS⟩ := hrel
    have H := Lib.hid hS
    have hsz := hS.but.size
    have hsum := sum_5 (by omega) hS.bd
    clear hS
    by_cases hkN : xs.length < N
    · obtain ⟨g, eg⟩ : ∃ g, gives l q 4000 = g := ⟨_, rfl⟩
      obtain ⟨g1, g2⟩ := gives_bd l q (n := 4000) (by omega)
      rw [eg] at g1 g2
      have HY1 := Lib.hid (fun (W : World) (h : TapeAt W w.heap.size l q) => eg ▸ HY.out W q h)
      have hw : IntKind.i64.wrap ((xs.length : Int) + 1 - 1) = (xs.length : Int) := by rw [IntKind.wrap_i64]; omega
      have hq0 : (0 : Int) ≤ (xs.length : Int) := Int.natCast_nonneg _
      have hq1 : (xs.length : Int) < (xs.length : Int) + 1 := by omega
      clear eg HY
      go_wp2_with (first | (go_at_call 17; refine (HY1.out _ H.out.tape).mono ?_; rintro e w5 ⟨rfl, ht5, hb5⟩) | (at_builtin; (refine Own.append HI.out.1 HI.out.2.1 HI.out.2.2.1 HI.out.2.2.2 Try.underlying22 rfl (.tmp 27) (.tmp 30) rfl w4.heap.size _ _ _ (H.out.own.butB htlt hb5) rfl rfl (by have := hb5.size; omega) (by omega) ?_); intro v1 w6 hown6 hb6; obtain ⟨p6, c6, rfl, hI6⟩ := hown6.ints; obtain ⟨bb, oo, xx, rfl, hbb, hcc, hxx⟩ := hI6.get (k := xs.length) (by simp); obtain rfl : g = xx := by rw [← hxx.out]; simp [List.getD_eq_getElem?_getD]))
      have HO6 := Lib.hid (show Own w6 3 w4.heap.size (.slice (some ⟨bb, oo, none⟩) (xs.length + 1) c6) (xs ++ [g]) by simpa using hown6)
      have HT6 := Lib.hid (ht5.belowB hb6 htlt)
      have HB6 := Lib.hid ((H.out.but.trans hb5).step hb6)
      clear hown6 ht5 hb5 hb6 hI6
      exact ⟨⟨xs ++ [g], taken l q, by simp; omega, by congr 1; simp; omega, by rw [Sh.sum_snoc], ⟨fun x hx => by
        rcases List.mem_append.1 hx with h | h
        · exact H.out.bd x h
        · rw [List.mem_singleton] at h; omega, HO6.out, HT6.out, HB6.out⟩⟩, by simp [intOf]; omega⟩
    · obtain ⟨p6, c6, rfl, hI6⟩ := H.out.own.ints
      have hxl5 : xs.length ≤ 5 := by omega
      have hP := (O4.out.but H.out.but).pairs_at
      have hF : Ce.Fine D c xs := ⟨R.out, c0, by omega, by omega, fun x hx => by have := H.out.bd x hx; omega, by omega⟩
      have HFA := Lib.hid (farm_fine hF p cp p6 c6 wr hP hI6)
      have HRE := Lib.hid (fun (W : World) (h : Pairs W p D) => Reduced_fine R.out hsum.1 (by omega) p cp W h)
      have hfl := hF.farm_len
      have hfs : Sh.sum (Ce.farm D c xs) = min (Ce.red D (Sh.sum xs)) c := by rw [hF.farm_sum]; exact Int.min_comm _ _
      have hat : ∀ i, i < xs.length → 0 ≤ xs.getD i 0 ∧ xs.getD i 0 < 4000 := fun i hi => by
        rw [List.getD_eq_getElem?_getD, List.getElem?_eq_getElem hi]; exact H.out.bd _ (List.getElem_mem hi)
      have FB := Lib.hid hF.farm_bd
      have AT := Lib.hid hat
      have HP := Lib.hid hP
      have HI6 := Lib.hid hI6
      have BEL2 := Lib.hid (BEL.out.trans (H.out.but.below (Nat.le_refl _) BEL.out.size))
      have hszw := BEL2.out.size
      clear hF hat hP hI6 hk H O4 BEL
      generalize Ce.farm D c xs = F at *
      have hFB : ((F.length : Int) != (xs.length : Int)) = false := by rw [hfl]; simp
      have FL := Lib.hid hfl
      have FS := Lib.hid hfs
      have hfl5 : F.length ≤ 5 := by omega
      clear hfl hfs
      go_wp2_with (first | (go_at_call 40; refine (HFA.out).mono ?_; rintro e w7 ⟨p7, c7, rfl, hI7, hb7⟩) | (go_at_call 38; refine (HRE.out _ (HP.out.below hb7)).mono ?_; rintro e w8 ⟨rfl, hb8⟩))
      have QX := Lib.hid ((HI6.out.below hb7).below hb8)
      have QF := Lib.hid (hI7.below hb8)
      have BEL3 := Lib.hid (bstep (Nat.le_refl _) (bstep (Nat.le_refl _) BEL2.out hb7) hb8)
      have S1 := Lib.hid (fun k => sum_f5 FL.out hfl5 FB.out AT.out k)
      clear hI7 hb7 hb8 HFA HRE HP HI6
      obtain ⟨wz, rfl⟩ : ∃ wz : World, wz = w8 := ⟨_, rfl⟩
      go_loopw [68, 13] (fun i s wr => ∃ k n : Nat, k ≤ F.length ∧ i = .int .i64 k ∧ s = .int .i64 (Sh.sum (F.take k)) ∧ wr = wz.drewN n) (fun i _ _ => F.length - (intOf i).toNat)
      case atStart => exact ⟨0, 0, Nat.zero_le _, rfl, by simp [Sh.sum], rfl⟩
      case round =>
        obtain ⟨k, n, hk, rfl, rfl, rfl⟩ := hrel
        have s1 := S1.out k
        by_cases hlt : k < F.length
        · have hltx : k < xs.length := by rw [← FL.out]; exact hlt
          obtain ⟨b, off, x, rfl, hbl, hcx, hx⟩ := QF.out.get hlt
          obtain ⟨b', off', y, rfl, hbl', hcy, hy⟩ := QX.out.get hltx
          obtain ⟨f0, f1⟩ := FB.out k hltx
          rw [hx.out] at f0
          rw [hx.out, hy.out] at f1
          have ay := AT.out k hltx
          rw [hy.out] at ay
          have hst := Lib.hid (sum_take_succ (l := F) (k := k) hlt)
          have hk0 : (0 : Int) ≤ (k : Int) := Int.natCast_nonneg _
          have hk1 : (k : Int) < (F.length : Int) := by omega
          have hk2 : (k : Int) < (xs.length : Int) := by omega
          have hB : decide (x < 0) = false := decide_eq_false (by omega)
          clear hltx
          go_wp2_with fail
          go_quiet (fail)
          go_wp2
          go_roundw
          case rel => exact ⟨k + 1, _, by omega, by go_num, by rw [hst.out, hx.out], rfl⟩
          case measure => simp [intOf]; omega
        · obtain rfl : k = F.length := by omega
          rw [List.take_length, FS.out]
          have hmm : (min (Ce.red D (Sh.sum xs)) c == min (Ce.red D (Sh.sum xs)) c) = true := by simp
          clear hlt hk s1
          go_wp2_with (first | (go_at_call 33; refine (awake32_any _).mono ?_; rintro e w9 ⟨rfl, hb9⟩))
          go_ret
          exact ⟨rfl, bstep (Nat.le_refl _) (bstep (Nat.le_refl _) BEL3.out (drewN_below _ n)) hb9⟩

end Go.Proofs.Ytmgdbbmheiligaa
