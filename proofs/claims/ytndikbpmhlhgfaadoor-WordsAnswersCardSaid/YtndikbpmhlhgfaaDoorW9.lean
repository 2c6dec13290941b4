/-
  THE WALK over the reference's Join.
-/
import Derived.Test.YtndikbpmhlhgfaaDoorW8
namespace Go.Proofs.YtndikbpmhlhgfaaDoor
open Go.RowKit

/-- Lines as lists of bytes. -/
def lb (LL : List (List ByteArray)) : List (List (List UInt8)) := LL.map fun ws => ws.map (·.data.toList)

def JoinGive (LL : List (List ByteArray)) (w : World) (e : Ending) (w' : World) : Prop :=
  e = .returned (.tuple #[.string ⟨(Wo.jOut (lb LL)).toArray⟩, .int .i64 (Wo.jErr (lb LL))]) ∧ Below w.heap.size w w'

theorem ret_si {a b : ByteArray} {c d : Int} (h : a = b) (k : c = d) : Ending.returned (.tuple #[.string a, .int .i64 c]) = .returned (.tuple #[.string b, .int .i64 d]) := by rw [h, k]

theorem join_bad {LL : List (List ByteArray)} {er : Int} (h : Wo.jErr (lb LL) = er) (hne : er ≠ 0) (w w' : World) (hb : Below w.heap.size w w') : JoinGive LL w (.returned (.tuple #[.string ⟨#[]⟩, .int .i64 er])) w' :=
  ⟨ret_si (by unfold Wo.jOut; rw [if_neg (by rw [h]; exact hne)]) h.symm, hb⟩

theorem lb_len (LL : List (List ByteArray)) : (lb LL).length = LL.length := by unfold lb; rw [List.length_map]
theorem lb_take (LL : List (List ByteArray)) (k : Nat) : lb (LL.take k) = (lb LL).take k := by unfold lb; rw [List.map_take]
theorem lb_snoc (LL : List (List ByteArray)) (k : Nat) (h : k < LL.length) : lb (LL.take (k + 1)) = lb (LL.take k) ++ [LL[k].map (·.data.toList)] := by
  unfold lb; rw [List.take_succ_eq_append_getElem h, List.map_append]; rfl

theorem jText_take (LL : List (List (List UInt8))) (k : Nat) : (Wo.jText (LL.take k)).length ≤ (Wo.jText LL).length := by
  conv => rhs; rw [← List.take_append_drop k LL]
  unfold Wo.jText
  rw [List.flatMap_append, List.length_append]
  omega

/-- A word that is none spoils all. -/
theorem jErr_bad {LL : List (List ByteArray)} (h4 : LL.length ≤ 400) {ws : List ByteArray} (hw : ws ∈ LL) {y : ByteArray} (hy : y ∈ ws) (h : Wo.wordB y.data.toList = false) : Wo.jErr (lb LL) = 4 := by
  unfold Wo.jErr
  rw [if_neg (by rw [lb_len]; omega), if_pos]
  rw [Bool.eq_false_iff]
  intro ha
  rw [List.all_eq_true] at ha
  have h1 := ha (ws.map (·.data.toList)) (by unfold lb; exact List.mem_map.2 ⟨ws, hw, rfl⟩)
  rw [List.all_eq_true] at h1
  have h2 := h1 y.data.toList (List.mem_map.2 ⟨y, hy, rfl⟩)
  rw [h] at h2
  cases h2

theorem jErr_long {LL : List (List ByteArray)} (h : 400 < LL.length) : Wo.jErr (lb LL) = 1 := by unfold Wo.jErr; rw [if_pos (by rw [lb_len]; exact h)]

def okB (c : UInt8) : Bool := decide (33 ≤ (c.toNat : Int)) && decide ((c.toNat : Int) ≤ 126) && !(c == 35)

theorem wordB_eq (l : List UInt8) : Wo.wordB l = (!l.isEmpty && l.all okB) := rfl

theorem ok_kinds (c : UInt8) : ((c.toNat : Int) < 33 ∧ okB c = false) ∨ (126 < (c.toNat : Int) ∧ okB c = false) ∨ (33 ≤ (c.toNat : Int) ∧ (c.toNat : Int) ≤ 126 ∧ ((c.toNat : Int) == 35) = true ∧ okB c = false) ∨ (33 ≤ (c.toNat : Int) ∧ (c.toNat : Int) ≤ 126 ∧ ((c.toNat : Int) == 35) = false ∧ okB c = true) := by
  have e : (c == 35) = decide ((c.toNat : Int) = 35) := by
    rw [Bool.eq_iff_iff, beq_iff_eq, decide_eq_true_eq]
    constructor
    · rintro rfl; rfl
    · intro h; exact UInt8.toNat_inj.1 (by rw [show c.toNat = 35 by omega]; rfl)
  simp only [okB, e, Bool.and_eq_true, Bool.and_eq_false_iff, Bool.not_eq_true', Bool.not_eq_false', decide_eq_true_eq, decide_eq_false_iff_not, beq_iff_eq, beq_eq_false_iff_ne]
  omega

def JnGive (ws : List ByteArray) (w : World) (e : Ending) (w' : World) : Prop := e = .returned (.string ⟨(Lib.join (ws.map (·.data.toList)) [32]).toArray⟩) ∧ Below w.heap.size w w'

theorem join32_any (q : Option Addr) (ws : List ByteArray) (c : Nat) (w : World) (h : Recs SB w q ws) (hc : ws.length ≤ c) (hl : (Lib.join (ws.map (·.data.toList)) [32]).length ≤ 140737488355328) (hn : ws.length ≤ 140737488355328) :
    Calls Tryd.prog 23 #[.slice q ws.length c, .string ⟨#[32]⟩] w (JnGive ws w) := by
  rcases h.2 with e | ⟨b, off, rfl, hb, hcell⟩
  · subst e
    exact (Tryd.strings_Join_none q c ⟨#[32]⟩ w).mono fun e w' ⟨he, hw⟩ => ⟨he, hw ▸ Below.refl _ _⟩
  · exact (Tryd.strings_Join b off c ws ⟨#[32]⟩ w (fun j x hx => hcell j _ (by rw [flat_str, List.getElem?_map, hx]; rfl)) hb hn hc hl).mono fun e w' ⟨he, hw⟩ => ⟨he, hw⟩

set_option maxRecDepth 100000 in
set_option maxHeartbeats 8000000 in
theorem refjoin_any (LL : List (List ByteArray)) (p : Option Addr) (c : Nat) (w : World) (h : LinesAt w p LL) (hT : (Wo.jText (lb LL)).length ≤ 1099511627776) (hz : ∀ ws ∈ LL, ws.length ≤ 1099511627776 ∧ ∀ y ∈ ws, y.size ≤ 9223372036854775807) :
    Calls Tryd.prog 21 #[.slice p LL.length c] w (JoinGive LL w) := by
  have HL := Lib.hid h
  by_cases h4 : 400 < LL.length
  · have HF := Lib.hid (join_bad (jErr_long h4) (by decide) w w (Below.refl _ _))
    have h4' : (400 : Int) < (LL.length : Int) := by omega
    clear h h4
    go_enter Tryd.func21, Tryd.ntmps21
    go_wp2
    go_ret2
    exact HF.out
  have g4 : ¬ (400 : Int) < (LL.length : Int) := by omega
  have H4 := Lib.hid (show LL.length ≤ 400 by omega)
  have HT := Lib.hid hT
  have HZ := Lib.hid hz
  clear h h4 hT hz
  go_enter Tryd.func21, Tryd.ntmps21
  go_wp2
  go_loopw [4, 15] (fun st i wr => ∃ (k : Nat) (x : ByteArray), k ≤ LL.length ∧ i = .int .i64 k ∧ st = .string x ∧ x.data.toList = Wo.jText (lb (LL.take k)) ∧ ((lb (LL.take k)).all fun ws => ws.all Wo.wordB) = true ∧ Below w.heap.size w wr) (fun _ i _ => LL.length - (intOf i).toNat)
  case atStart => exact ⟨0, ⟨#[]⟩, Nat.zero_le _, rfl, rfl, rfl, rfl, Below.refl _ _⟩
  case round =>
    obtain ⟨wo, rfl⟩ : ∃ wo : World, wo = wr := ⟨_, rfl⟩
    obtain ⟨k, x, hk, rfl, rfl, hx, hall, hb⟩ := hrel
    have HX := Lib.hid hx
    have HA := Lib.hid hall
    have HB := Lib.hid hb
    have hk0 : (0 : Int) ≤ (k : Int) := Int.natCast_nonneg _
    have hxs : x.size ≤ 1099511627776 := by
      have h1 := size_len x
      rw [hx, lb_take] at h1
      have h2 := jText_take (lb LL) k
      have := HT.out
      omega
    by_cases hlt : k < LL.length
    · have hk1 : (k : Int) < (LL.length : Int) := by omega
      obtain ⟨b1, o1, q1, n1, d1, rfl, -, hc1, rfl, hr1, -, hle⟩ := (HL.out.below hb).at hlt
      have HS := Lib.hid (lb_snoc LL k hlt)
      have hmem := List.getElem_mem hlt
      obtain ⟨ws, ews⟩ : ∃ y, LL[k] = y := ⟨_, rfl⟩
      simp only [ews] at hc1 hr1 hle HS hmem
      have HBAD := Lib.hid (fun (y : ByteArray) (hy : y ∈ ws) (h : Wo.wordB y.data.toList = false) => join_bad (jErr_bad H4.out hmem hy h) (by decide) w wo HB.out)
      have HZ2 := Lib.hid (HZ.out ws hmem).2
      have hwn := (HZ.out ws hmem).1
      clear ews hx hall hb hmem
      have hlw := hr1.len
      have HR := Lib.hid hr1
      have HLE := Lib.hid hle
      clear hr1 hle
      go_wp2
      go_loop [21] (fun i => ∃ j : Nat, j ≤ ws.length ∧ i = .int .i64 j ∧ ((ws.take j).all fun y => Wo.wordB y.data.toList) = true) (fun i => ws.length - (intOf i).toNat)
      case atStart => exact ⟨0, Nat.zero_le _, rfl, rfl⟩
      case round =>
        obtain ⟨j, hj, rfl, hwo⟩ := hrel
        have HWO := Lib.hid hwo
        clear hwo
        have hj0 : (0 : Int) ≤ (j : Int) := Int.natCast_nonneg _
        by_cases hlt2 : j < ws.length
        · have hj1 : (j : Int) < (ws.length : Int) := by omega
          obtain ⟨b2, o2, rfl, -, hc2⟩ := HR.out.word hlt2
          have hmy := List.getElem_mem hlt2
          have HS2 := Lib.hid (show ((ws.take (j + 1)).all fun y => Wo.wordB y.data.toList) = Wo.wordB ws[j].data.toList by
            rw [List.take_succ_eq_append_getElem hlt2, List.all_append, HWO.out, Bool.true_and]; simp)
          obtain ⟨y, ey⟩ : ∃ y, ws[j] = y := ⟨_, rfl⟩
          simp only [ey] at hc2 hmy HS2
          have HB2 := Lib.hid (HBAD.out y hmy)
          have hmy2 := hmy
          clear ey hmy
          by_cases hy : y.toList = []
          · have HF := Lib.hid (HB2.out (by rw [wordB_eq]; rw [ByteArray.toList_eq] at hy; rw [hy]; rfl))
            clear hmy2
            go_wp2
            go_ret2
            exact HF.out
          · have hy2 : y.toList.isEmpty = false := by cases h : y.toList with | nil => exact absurd h hy | cons a b => rfl
            have HY := Lib.hid (show (!y.data.toList.isEmpty) = true by rw [← ByteArray.toList_eq, hy2]; rfl)
            have hym : y.size ≤ 9223372036854775807 := HZ2.out y hmy2
            clear hmy2
            go_wp2
            go_loop [9] (fun i => ∃ m : Nat, m ≤ y.size ∧ i = .int .i64 m ∧ (y.data.toList.take m).all okB = true) (fun i => y.size - (intOf i).toNat)
            case atStart => exact ⟨0, Nat.zero_le _, rfl, rfl⟩
            case round =>
              obtain ⟨m, hm, rfl, hok⟩ := hrel
              have HOK := Lib.hid hok
              clear hok
              have hm0 : (0 : Int) ≤ (m : Int) := Int.natCast_nonneg _
              by_cases hlt3 : m < y.size
              · have HS3 := Lib.hid (all_take_snoc y m hlt3 okB)
                rcases ok_kinds y[m] with ⟨c1, p1⟩ | ⟨c1, p1⟩ | ⟨c1, c2, c3, p1⟩ | ⟨c1, c2, c3, p1⟩
                · rw [p1, Bool.and_false] at HS3
                  have HF := Lib.hid (HB2.out (by rw [wordB_eq, all_take_false HS3.out, Bool.and_false]))
                  clear p1
                  go_wp2
                  go_ret2
                  exact HF.out
                · rw [p1, Bool.and_false] at HS3
                  have HF := Lib.hid (HB2.out (by rw [wordB_eq, all_take_false HS3.out, Bool.and_false]))
                  clear p1
                  go_wp2
                  go_ret2
                  exact HF.out
                · rw [p1, Bool.and_false] at HS3
                  have HF := Lib.hid (HB2.out (by rw [wordB_eq, all_take_false HS3.out, Bool.and_false]))
                  clear p1
                  go_wp2
                  go_ret2
                  exact HF.out
                · rw [p1, Bool.and_true, HOK.out] at HS3
                  clear p1
                  go_wp2
                  go_round
                  case rel => exact ⟨m + 1, by omega, by go_num, HS3.out⟩
                  case measure => simp [intOf]; omega
              · obtain rfl : m = y.size := by omega
                have HW := Lib.hid (show Wo.wordB y.data.toList = true by
                  rw [wordB_eq, HY.out, Bool.true_and]
                  have := HOK.out
                  rwa [List.take_of_length_le (by rw [size_len]; exact Nat.le_refl _)] at this)
                go_wp2
                go_round
                case rel => exact ⟨j + 1, by omega, by go_num, by rw [HS2.out]; exact HW.out⟩
                case measure => simp [intOf]; omega
        · obtain rfl : j = ws.length := by omega
          have hJ : (Wo.jText (lb (LL.take (k + 1)))) = Wo.jText (lb (LL.take k)) ++ (Lib.join (ws.map (·.data.toList)) [32] ++ [10]) := by rw [HS.out, Wo.jText_snoc]
          have hJl : (Lib.join (ws.map (·.data.toList)) [32]).length + x.size + 1 ≤ 1099511627776 := by
            have h1 := congrArg List.length hJ
            rw [List.length_append, List.length_append, ← HX.out, size_len] at h1
            have h2 := jText_take (lb LL) (k + 1)
            rw [← lb_take] at h2
            have h3 := HT.out
            simp only [List.length_singleton] at h1
            omega
          have CJ := Lib.hid (join32_any q1 ws d1 wo HR.out HLE.out (by omega) (by omega))
          have HA2 := Lib.hid (show ((lb (LL.take (k + 1))).all fun ws => ws.all Wo.wordB) = true by
            rw [HS.out, List.all_append, HA.out, Bool.true_and]
            have := HWO.out
            rw [List.take_of_length_le (Nat.le_refl _)] at this
            simp only [List.all_cons, List.all_nil, Bool.and_true, List.all_map]
            exact this)
          obtain ⟨jl, ejl⟩ : ∃ y, Lib.join (ws.map (·.data.toList)) [32] = y := ⟨_, rfl⟩
          unfold JnGive at CJ
          rw [ejl] at hJ hJl CJ
          obtain ⟨jb, ejb⟩ : ∃ y : ByteArray, (⟨jl.toArray⟩ : ByteArray) = y := ⟨_, rfl⟩
          have hjb : jb.data.toList = jl := by rw [← ejb]
          have hjs : jb.size + x.size + 1 ≤ 1099511627776 := by
            have := size_len jb
            rw [hjb] at this
            omega
          have HX2 := Lib.hid (show (x ++ (jb ++ ⟨#[10]⟩)).data.toList = Wo.jText (lb (LL.take (k + 1))) by
            rw [hJ, ← HX.out, ← hjb]; simp)
          rw [ejb] at CJ
          clear ejl ejb hjb hJ hJl
          go_wp2_with (first | (go_at_call 23; refine Calls.mono CJ.out ?_; rintro e w2 ⟨rfl, hb2⟩))
          go_roundw
          case rel => exact ⟨k + 1, _, by omega, by go_num, rfl, HX2.out, HA2.out, HB.out.trans (hb2.mono HB.out.size)⟩
          case measure => simp [intOf]; omega
    · obtain rfl : k = LL.length := by omega
      rw [List.take_of_length_le (Nat.le_refl _)] at hx hall
      by_cases hbig : 16384 < x.size
      · have he : Wo.jErr (lb LL) = 1 := by
          unfold Wo.jErr
          rw [if_neg (by rw [lb_len]; have := H4.out; omega), if_neg (by rw [hall]; simp), if_pos (by rw [← hx, size_len]; exact hbig)]
        have HF := Lib.hid (join_bad he (by decide) w wo HB.out)
        have hbig' : (16384 : Int) < (x.size : Int) := by omega
        clear hx hall hb he hbig
        go_wp2
        go_ret2
        exact HF.out
      · have he : Wo.jErr (lb LL) = 0 := by
          unfold Wo.jErr
          rw [if_neg (by rw [lb_len]; have := H4.out; omega), if_neg (by rw [hall]; simp), if_neg (by rw [← hx, size_len]; exact hbig)]
        have HF := Lib.hid (show JoinGive LL w (.returned (.tuple #[.string x, .int .i64 0])) wo from ⟨ret_si (by unfold Wo.jOut; rw [if_pos he, ← hx]) he.symm, HB.out⟩)
        have hbig' : ¬ (16384 : Int) < (x.size : Int) := by omega
        clear hx hall hb he hbig
        go_wp2
        go_ret2
        exact HF.out

end Go.Proofs.YtndikbpmhlhgfaaDoor
