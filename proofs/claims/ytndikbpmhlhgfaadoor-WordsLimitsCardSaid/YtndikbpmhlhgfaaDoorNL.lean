/-
  THE WALK over WordsLimits.
-/
import Derived.Test.YtndikbpmhlhgfaaDoorN4
import Derived.Test.YtndikbpmhlhgfaaDoorBd
namespace Go.Proofs.YtndikbpmhlhgfaaDoor
open Go.RowKit

theorem info_row : (Tryd.prog.info? 25).map (fun i => (i.zero, i.size, i.bytes)) = some (some (.slice none 0 0), 1, 24) := by kernel_rfl

theorem made_rep (z : Value) (n : Nat) : madeCells #[z] n = Array.replicate n z := by
  apply Array.ext
  · simp [madeCells]
  · intro i h1 h2
    simp [madeCells, Nat.mod_one]

/-- 'make([][]string, c)'. -/
theorem make_nils (c : Int) (h0 : 0 ≤ c) (h1 : c ≤ 1048576) (w : World) :
    (Instr.makeSlice 22 (.int .i64 c) (.int .i64 c)).run Tryd.prog w = .ok (.slice (some ⟨w.heap.size, 0, none⟩) c.toNat c.toNat) (w.alloc (.cells (Array.replicate c.toNat (.slice none 0 0)) 25)) := by
  obtain ⟨n, rfl⟩ := Int.eq_ofNat_of_zero_le h0
  obtain ⟨i0, hi, hz0, hz1, hz2⟩ := info_parts info_row
  have hr := run_make (P := Tryd.prog) w 22 25 i0 (.slice none 0 0) Tryd.underlying22 hi hz0 .i64 .i64 n n (by omega) (Int.le_refl _) (by rw [hz2]; omega) (by omega)
  simp only [Int.toNat_natCast, hz1, Nat.mul_one] at hr
  rw [Int.toNat_natCast, ← made_rep]
  exact hr

set_option maxRecDepth 100000 in
set_option maxHeartbeats 8000000 in
theorem wordsLimits_walk (v : Int) (v0 : 0 ≤ v) (v1 : v < 256) (w : World) (hE : Env w) :
    Calls Tryd.prog 6 #[.int .u8 v] w (YesB w) := by
  have HE := Lib.hid hE
  obtain ⟨r, hr⟩ : ∃ r : Int, v % 5 = r := ⟨_, rfl⟩
  have hr0 : 0 ≤ r ∧ r ≤ 4 := by omega
  obtain ⟨r0, r4⟩ := hr0
  obtain ⟨er, her⟩ : ∃ er : Int, (if r ≤ 2 then 0 else 1) = er := ⟨_, rfl⟩
  have R1 := Lib.hid (fun (W : World) => rep_any 97 (16382 + r - 1) W (by omega) (by omega))
  have R2 := Lib.hid (fun (W : World) => rep_any 10 (398 + r) W (by omega) (by omega))
  have S1 := Lib.hid (fun (S : ByteArray) (h : S.data.toList = List.replicate (16382 + r - 1).toNat 97) (W : World) (hE : Env W) => splitE (S ++ ⟨#[10]⟩) er W hE (by
      have : (S ++ (⟨#[10]⟩ : ByteArray)).data.toList.length ≤ 20000 := by rw [ByteArray.data_append, Array.toList_append, h]; simp; omega
      rw [size_len] at this; omega) (by
      rw [ByteArray.data_append, Array.toList_append, h, ← her]
      have := Wo.lim_split (16382 + r).toNat (by omega)
      rw [show (16382 + r).toNat - 1 = (16382 + r - 1).toNat by omega] at this
      refine this.trans ?_
      by_cases h2 : r ≤ 2
      · rw [if_pos h2, if_neg (by omega)]
      · rw [if_neg h2, if_pos (by omega)]))
  have S2 := Lib.hid (fun (S : ByteArray) (h : S.data.toList = List.replicate (398 + r).toNat 10) (W : World) (hE : Env W) => splitE S er W hE (by
      have : S.data.toList.length ≤ 20000 := by rw [h]; simp; omega
      rw [size_len] at this; omega) (by
      rw [h, ← her, Wo.lim_lines _ (by omega)]
      by_cases h2 : r ≤ 2
      · rw [if_pos h2, if_neg (by omega)]
      · rw [if_neg h2, if_pos (by omega)]))
  have S3 := Lib.hid (fun (W : World) (hE : Env W) => splitE ⟨#[97]⟩ 4 W hE (by decide) Wo.lim_form)
  have J1 := Lib.hid (fun (W : World) => joinE (List.replicate (398 + r).toNat []) (some ⟨W.heap.size, 0, none⟩) (398 + r).toNat (398 + r).toNat er (W.alloc (.cells (Array.replicate (398 + r).toNat (.slice none 0 0)) 25)) (by simp) (lit_nils W _ (by omega)) (by rw [lb_nils, Wo.jText_nils]; omega) (by intro ws hw; obtain rfl := List.eq_of_mem_replicate hw; decide) (by
      rw [lb_nils, ← her, Wo.lim_join _ (by omega)]
      by_cases h2 : r ≤ 2
      · rw [if_pos h2, if_neg (by omega)]
      · rw [if_neg h2, if_pos (by omega)]))
  have J2 := Lib.hid (fun (S : ByteArray) (h : S.data.toList = List.replicate (16382 + r - 1).toNat 97) (W : World) => joinE [[S]] _ 1 1 er _ rfl (lit_word W S) (by
      simp only [lb, List.map_cons, List.map_nil, h, Wo.jText, List.flatMap_cons, List.flatMap_nil, Wo.lineT, Lib.join_one, List.length_append, List.length_replicate, List.length_cons, List.length_nil]; omega) (by intro ws hw; obtain rfl := List.mem_singleton.1 hw; simp) (by
      have := Wo.lim_word (16382 + r).toNat (by omega)
      rw [show (16382 + r).toNat - 1 = (16382 + r - 1).toNat by omega] at this
      simp only [lb, List.map_cons, List.map_nil, h]
      refine this.trans ?_
      rw [← her]
      by_cases h2 : r ≤ 2
      · rw [if_pos h2, if_neg (by omega)]
      · rw [if_neg h2, if_pos (by omega)]))
  have MK := Lib.hid (fun (W : World) => make_nils (398 + r) (by omega) (by omega) W)
  obtain ⟨M, eM⟩ : ∃ M : Nat, (398 + r).toNat = M := ⟨_, rfl⟩
  rw [eM] at MK J1
  have hw5 : IntKind.i64.wrap v = v := IntWalk.i64_in _ ⟨by omega, by omega⟩
  have htm : v.tmod 5 = r := by rw [Int.tmod_eq_emod_of_nonneg v0]; exact hr
  clear hE hr eM
  have HER := Lib.hid her
  clear her
  have hAL := fun (W : World) (o : Obj) => Lib.hid ((Below.refl W.heap.size W).alloc (Nat.le_refl _) o)
  have hcase : (er = 0 ∧ decide ((16384 : Int) < 16382 + r) = false ∧ decide ((400 : Int) < 398 + r) = false) ∨ (er = 1 ∧ decide ((16384 : Int) < 16382 + r) = true ∧ decide ((400 : Int) < 398 + r) = true) := by
    by_cases h2 : r ≤ 2
    · left; exact ⟨by rw [← HER.out, if_pos h2], by rw [decide_eq_false_iff_not]; omega, by rw [decide_eq_false_iff_not]; omega⟩
    · right; exact ⟨by rw [← HER.out, if_neg h2], by rw [decide_eq_true_iff]; omega, by rw [decide_eq_true_iff]; omega⟩
  clear HER
  have HAL := Lib.hid hAL
  clear hAL
  rcases hcase with ⟨rfl, t1, t2⟩ | ⟨rfl, t1, t2⟩
  all_goals
    have HT1 := Lib.hid t1
    have HT2 := Lib.hid t2
    clear t1 t2
    go_enter Tryd.func6, Tryd.ntmps6
    go_wp2_with fail
    (with_reducible refine Calls.mono (R1.out _) ?_)
    rintro e w1 ⟨S, hS, rfl, hb1⟩
    have HS := Lib.hid hS
    have hSz : S.size ≤ 20000 := by rw [← size_len, hS, List.length_replicate]; omega
    clear hS
    go_wp2_with fail
    (with_reducible refine Calls.mono (S1.out S HS.out _ (HE.out.below hb1)) ?_)
    rintro e w2 ⟨p2, n2, c2, rfl, hb2⟩
    have hc2 := hb1.trans (hb2.mono hb1.size)
    clear hb1 hb2
    go_wp2_with fail
    (with_reducible refine Calls.mono (R2.out _) ?_)
    rintro e w3 ⟨SB2, hS2, rfl, hb3⟩
    have hc3 := hc2.trans (hb3.mono hc2.size)
    have HS2 := Lib.hid hS2
    clear hS2 hb3 hc2
    go_wp2_with fail
    (with_reducible refine Calls.mono (S2.out SB2 HS2.out _ (HE.out.below hc3)) ?_)
    rintro e w4 ⟨p4, n4, c4, rfl, hb4⟩
    have hc4 := hc3.trans (hb4.mono hc3.size)
    clear hc3 hb4
    have hmk := MK.out w4
    have HJ1 := Lib.hid (J1.out w4)
    have HA4 := HAL.out w4 (.cells (Array.replicate M (.slice none 0 0)) 25)
    go_wp2_with fail
    (with_reducible refine Calls.mono HJ1.out ?_)
    rintro e w5 ⟨S5, rfl, hb5⟩
    have hc5 := hc4.trans ((HA4.out.trans (hb5.mono HA4.out.size)).mono hc4.size)
    clear hc4 hb5 hmk HJ1 HA4
    go_wp2_with fail
    (with_reducible refine Calls.mono (R1.out _) ?_)
    rintro e w6 ⟨S6, hS6, rfl, hb6⟩
    have hc6 := hc5.trans (hb6.mono hc5.size)
    have HJ2 := Lib.hid (J2.out S6 hS6 w6)
    have HA6 := Lib.hid (((Below.refl w6.heap.size w6).alloc (Nat.le_refl _) (.cells #[.string S6] 9)).alloc (by simp) (.cells #[.slice (some ⟨w6.heap.size, 0, none⟩) 1 1] 25))
    clear hS6 hc5 hb6
    go_wp2_with fail
    (with_reducible refine Calls.mono HJ2.out ?_)
    rintro e w7 ⟨S7, rfl, hb7⟩
    have hc7 := hc6.trans ((HA6.out.trans (hb7.mono HA6.out.size)).mono hc6.size)
    clear hc6 hb7 HJ2 HA6
    go_wp2_with fail
    (with_reducible refine Calls.mono (S3.out _ (HE.out.below hc7)) ?_)
    rintro e w8 ⟨p8, n8, c8, rfl, hb8⟩
    have hc8 := hc7.trans (hb8.mono hc7.size)
    clear hc7 hb8
    have t1 := HT1.out
    have t2 := HT2.out
    go_wp2_with (first | (go_at_call 7; refine Calls.mono (awake02_any w8 (HE.out.below hc8)) ?_; rintro e w9 ⟨rfl, hb9⟩))
    go_ret
    exact ⟨rfl, hc8.trans (hb9.mono hc8.size)⟩

theorem wordsLimits_fit (v : Int) (w : World) (h : (Lit.int .u8 v).wf = true) (hE : Env w) : Calls Tryd.prog 6 #[.int .u8 v] w (YesB w) := by
  have : 0 ≤ v ∧ v ≤ 255 := by simpa [Lit.wf, IntKind.min, IntKind.max, IntKind.signed, IntKind.bits] using h
  exact wordsLimits_walk v this.1 (by omega) w hE
end Go.Proofs.YtndikbpmhlhgfaaDoor
