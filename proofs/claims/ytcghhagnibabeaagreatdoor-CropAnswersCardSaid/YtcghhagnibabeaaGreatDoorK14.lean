/-
  THE WALK over ref12.Print.
-/
import Derived.Test.YtcghhagnibabeaaGreatDoorK13
namespace Go.Proofs.YtcghhagnibabeaaGreatDoor
open Go.RowKit Cr

theorem join_empty : ∀ l : List (List UInt8), Lib.join l [] = l.flatten
  | [] => by rw [Lib.join_nil]; rfl
  | [x] => by rw [Lib.join_one]; simp
  | x :: y :: r => by rw [Wo.join_two, join_empty (y :: r)]; simp

/-- The text of a crop's line. -/
def lineS (c : Crp) : ByteArray := bs (Wo.lineT (lineW c))

theorem line_text (nm : ByteArray) (fam : Int) (m : Nat) (D M : ByteArray) (hD : (⟨(Lib.itoa fam).toArray⟩ : ByteArray) = D) (hM : (⟨(mword m).toArray⟩ : ByteArray) = M) : (((((((⟨#[99, 114, 111, 112, 32]⟩ : ByteArray) ++ nm) ++ ⟨#[32]⟩) ++ D) ++ ⟨#[32]⟩) ++ M) ++ ⟨#[10]⟩) = lineS ⟨nm, fam, (m : Int)⟩ := by
  subst hD hM
  refine ba_ext ?_
  show _ = Wo.lineT (lineW ⟨nm, fam, (m : Int)⟩)
  simp [Wo.lineT, lineW, Wo.join_two, Lib.join_one, ByteArray.data_append]

theorem one_lit (W : World) (x : ByteArray) : Recs SB (W.alloc (.cells #[.string x] 9)) (some ⟨W.heap.size, 0, none⟩) [x] := Recs.lit (S := SB) W 9 [x] (by show 1 ≤ _; unfold maxLen; omega)

theorem lines_flat (L : List Crp) : ((L.map lineS).map (·.data.toList)).flatten = pText L := by
  rw [List.map_map]
  unfold pText Wo.jText
  rw [List.flatMap_map, ← List.flatMap_def]
  rfl

set_option maxRecDepth 100000 in
set_option maxHeartbeats 8000000 in
theorem refprint12_any (p : Option Addr) (L : List Crp) (cap : Nat) (w : World) (h : Crops w p L) (hz : ∀ c ∈ L, c.nm.size ≤ 9223372036854775807) :
    Calls Tryz.prog 20 #[.slice p L.length cap] w (PrintGive L w) := by
  have hn := h.len
  have CK := Lib.hid (refcheck12_any p L cap w h hz)
  unfold ChkGive at CK
  obtain ⟨er, eer⟩ : ∃ x, chk L = x := ⟨_, rfl⟩
  rw [eer] at CK
  by_cases he : er = 0
  rotate_left
  · have HF := Lib.hid (fun (w' : World) (hb : Below w.heap.size w w') => print_bad eer he w w' hb)
    have hne : (er != 0) = true := by simpa using he
    clear h hz he eer
    go_enter Tryz.func20, Tryz.ntmps20
    go_wp2_with (first | (go_at_call 23; (with_reducible refine Calls.mono CK.out ?_); rintro e w1 ⟨rfl, hb1⟩))
    go_ret2
    exact HF.out _ hb1
  subst he
  have HR := Lib.hid ((chk_right L).1 eer)
  have HO := Lib.hid (show prT L = pText L by unfold prT; rw [if_pos eer])
  have HEQ := Lib.hid eer
  have H := Lib.hid h
  have hl40 := ((chk_right L).1 eer).len
  clear h hz eer
  go_enter Tryz.func20, Tryz.ntmps20
  go_wp2_with (first | (go_at_call 23; (with_reducible refine Calls.mono CK.out ?_); rintro e w1 ⟨rfl, hb1⟩))
  have HB1 := Lib.hid hb1
  clear hb1
  go_loopw [5, 15] (fun v i wr => ∃ k : Nat, k ≤ L.length ∧ i = .int .i64 k ∧ OwnR SB wr 9 w.heap.size v ((L.take k).map lineS) ∧ Below w.heap.size w wr) (fun _ i _ => L.length - (intOf i).toNat)
  case atStart => exact ⟨0, Nat.zero_le _, rfl, OwnR.nil _ _ _, HB1.out⟩
  case round =>
    obtain ⟨wo, rfl⟩ : ∃ wo : World, wo = wr := ⟨_, rfl⟩
    obtain ⟨k, hk, rfl, hO, hb⟩ := hrel
    have hk0 : (0 : Int) ≤ (k : Int) := Int.natCast_nonneg _
    by_cases hlt : k < L.length
    · have hk1 : (k : Int) < (L.length : Int) := by omega
      obtain ⟨b, off, c, rfl, hbl, hC, hcc⟩ := SC_at (H.out.below hb) hlt
      obtain ⟨c0, c1, c2⟩ := hC
      obtain ⟨o1, o2, o3, o4, o5⟩ := one_ok (c := c) (by rw [← hcc.out]; exact HR.out.each _ (List.getElem_mem hlt))
      have hRl : ((L.take k).map lineS).length = k := by rw [List.length_map, List.length_take]; omega
      have hcc2 := Lib.hid hcc.out
      have HS := Lib.hid (take_map_succ lineS L k hlt)
      have HOW := Lib.hid hO
      have HBO := Lib.hid hb
      have hsz0 : w.heap.size ≤ wo.heap.size := hb.size
      obtain ⟨nm, fam, mrk⟩ := c
      simp only at c0 c1 c2 o1 o2 o3 o4 o5
      obtain ⟨m, rfl⟩ : ∃ m : Nat, mrk = (m : Int) := Int.eq_ofNat_of_zero_le o4
      have hW1 : Below wo.heap.size wo (wo.alloc (.cells #[.string nm, .int .i64 fam, .int .i64 (m : Int)] 31)) := (Below.refl _ _).alloc (Nat.le_refl _) _
      have hnz : nm.size ≤ 12 := by have := (name_word o1).2; rw [size_len] at this; exact this
      obtain ⟨D, eD⟩ : ∃ D : ByteArray, (⟨(Lib.itoa fam).toArray⟩ : ByteArray) = D := ⟨_, rfl⟩
      obtain ⟨M, eM⟩ : ∃ M : ByteArray, (⟨(mword m).toArray⟩ : ByteArray) = M := ⟨_, rfl⟩
      have hDz : D.size ≤ 2 := by
        have := (fam_word fam.toNat (by omega)).2
        rw [Int.toNat_of_nonneg o2] at this
        rw [← eD]; exact this
      have hMz : M.size ≤ 5 := by rw [← eM]; exact (mark_word m (by omega)).2
      have DE := Lib.hid (fun (W : World) => show Calls Tryz.prog 42 #[.int .i64 fam] W (fun e w' => e = .returned (.string D) ∧ Below W.heap.size W w') from eD ▸ refdecimal_any (fam.natAbs + 1) fam W (by omega) (by omega) (by omega))
      have MK := Lib.hid (fun (W : World) => show Calls Tryz.prog 43 #[.int .i64 (m : Int)] W (fun e w' => e = .returned (.string M) ∧ Below W.heap.size W w') from eM ▸ refmarks_any m (by omega) W)
      have hLT := line_text nm fam m D M eD eM
      obtain ⟨XS, hX⟩ : ∃ XS : ByteArray, (((((((⟨#[99, 114, 111, 112, 32]⟩ : ByteArray) ++ nm) ++ ⟨#[32]⟩) ++ D) ++ ⟨#[32]⟩) ++ M) ++ ⟨#[10]⟩) = XS := ⟨_, rfl⟩
      have LT := Lib.hid (hX.symm.trans hLT)
      clear hLT
      have KC := Lib.hid (fun (W : World) (hb : Below (wo.heap.size + 1) (wo.alloc (.cells #[.string nm, .int .i64 fam, .int .i64 (m : Int)] 31)) W) => show W.cell? ⟨wo.heap.size, 0, none⟩ = some (.string nm) ∧ W.cell? ⟨wo.heap.size, 1, none⟩ = some (.int .i64 fam) ∧ W.cell? ⟨wo.heap.size, 2, none⟩ = some (.int .i64 (m : Int)) from
        ⟨(hb.cell (p := ⟨wo.heap.size, 0, none⟩) (Nat.lt_succ_self _)).trans (World.cell?_alloc_new _ _ _ _), (hb.cell (p := ⟨wo.heap.size, 1, none⟩) (Nat.lt_succ_self _)).trans (World.cell?_alloc_new _ _ _ _), (hb.cell (p := ⟨wo.heap.size, 2, none⟩) (Nat.lt_succ_self _)).trans (World.cell?_alloc_new _ _ _ _)⟩)
      have HW1 := Lib.hid hW1
      have K0 : Below (wo.heap.size + 1) (wo.alloc (.cells #[.string nm, .int .i64 fam, .int .i64 (m : Int)] 31)) (wo.alloc (.cells #[.string nm, .int .i64 fam, .int .i64 (m : Int)] 31)) := Below.refl _ _
      have K0d : Below (wo.heap.size + 1) (wo.alloc (.cells #[.string nm, .int .i64 fam, .int .i64 (m : Int)] 31)) ((wo.alloc (.cells #[.string nm, .int .i64 fam, .int .i64 (m : Int)] 31))).drew := K0.drew
      have s1 : ¬ 9223372036854775807 < 5 + nm.size := by omega
      have s1' : 5 + nm.size ≤ 9223372036854775807 := by omega
      have s2 : ¬ 9223372036854775807 < 5 + nm.size + 1 := by omega
      have s2' : ¬ 9223372036854775807 ≤ 5 + nm.size := by omega
      have s2'' : 5 + nm.size < 9223372036854775807 := by omega
      have s3 : ¬ 9223372036854775807 < 5 + nm.size + 1 + D.size := by omega
      have s3' : 5 + nm.size + 1 + D.size ≤ 9223372036854775807 := by omega
      have s4 : ¬ 9223372036854775807 < 5 + nm.size + 1 + D.size + 1 := by omega
      have s4' : ¬ 9223372036854775807 ≤ 5 + nm.size + 1 + D.size := by omega
      have s4'' : 5 + nm.size + 1 + D.size < 9223372036854775807 := by omega
      have s5 : ¬ 9223372036854775807 < 5 + nm.size + 1 + D.size + 1 + M.size := by omega
      have s5' : 5 + nm.size + 1 + D.size + 1 + M.size ≤ 9223372036854775807 := by omega
      have s6 : ¬ 9223372036854775807 < 5 + nm.size + 1 + D.size + 1 + M.size + 1 := by omega
      have s6' : ¬ 9223372036854775807 ≤ 5 + nm.size + 1 + D.size + 1 + M.size := by omega
      have s6'' : 5 + nm.size + 1 + D.size + 1 + M.size < 9223372036854775807 := by omega
      clear o1 o2 o3 o4 o5 hO hb hW1 hcc eD eM hDz hMz hnz
      go_wp2_with fail
      clear c0 c1 c2 hbl
      go_region_held3 (fun W => W.cell? ⟨wo.heap.size, 0, none⟩ = some (.string nm) ∧ W.cell? ⟨wo.heap.size, 1, none⟩ = some (.int .i64 fam) ∧ W.cell? ⟨wo.heap.size, 2, none⟩ = some (.int .i64 (m : Int)))
        (first | exact KC.out _ K0 | exact KC.out _ K0d | exact KC.out _ K5 | exact KC.out _ K6 | exact KC.out _ K8 | exact ⟨(C7 0).trans (KC.out _ K8).1, (C7 1).trans (KC.out _ K8).2.1, (C7 2).trans (KC.out _ K8).2.2⟩ | fail)
        (first
          | (go_at_call 42; (with_reducible refine Calls.mono (DE.out _) ?_); rintro e w5 ⟨rfl, hb5⟩; have K5 : Below (wo.heap.size + 1) (wo.alloc (.cells #[.string nm, .int .i64 fam, .int .i64 (m : Int)] 31)) w5 := (by first | exact K0d.trans (hb5.mono (by simp)) | exact K0.trans (hb5.mono (by simp))))
          | (go_at_call 43; (with_reducible refine Calls.mono (MK.out _) ?_); rintro e w6 ⟨rfl, hb6⟩; have K6 : Below (wo.heap.size + 1) (wo.alloc (.cells #[.string nm, .int .i64 fam, .int .i64 (m : Int)] 31)) w6 := K5.trans (hb6.mono (bl1 K5)); have K8 : Below (wo.heap.size + 1) (wo.alloc (.cells #[.string nm, .int .i64 fam, .int .i64 (m : Int)] 31)) (w6.alloc (.cells #[.string XS] 9)) := K6.alloc (bl1 K6) _; have A8 := HW1.out.trans (K8.mono (Nat.le_succ _)); have Y8 := one_lit w6 XS)
          | (refine OwnR.stepAp el_str (by rfl) (.tmp 19) (.tmp 34) (by rfl) w.heap.size _ ((L.take k).map lineS) [XS] (some ⟨w6.heap.size, 0, none⟩) 1 1 rfl (HOW.out.below A8) Y8 (fun h => by cases h) (by rfl) (by rfl) (Nat.le_trans hsz0 A8.size) (by rw [hRl]; omega) (by decide) ?_; intro v7 w7 hO7 hap7; have C7 := hap7.cells (b := wo.heap.size) (Nat.lt_of_lt_of_le (Nat.lt_succ_self _) (bl1 K8)) (HOW.out.away (Nat.le_refl _))) | fail)
      have LN := Lib.hid (show OwnR SB w7 9 w.heap.size v7 ((L.take k).map lineS ++ [lineS ⟨nm, fam, (m : Int)⟩]) from LT.out ▸ hO7)
      have LB7 := Lib.hid ((HBO.out.trans (A8.mono hsz0)).trans hap7.below)
      go_wp2
      go_roundw
      case rel => exact ⟨k + 1, by omega, by go_num, by rw [HS.out, hcc2.out]; exact LN.out, LB7.out⟩
      case measure => simp [intOf]; omega
    · obtain rfl : k = L.length := by omega
      rw [List.take_length] at hO
      obtain ⟨q, cc, rfl, -, -, hcl, -, hRc⟩ := hO.cut (List.length_map _)
      have HB := Lib.hid hb
      have JN := Lib.hid (joinsep_any q (L.map lineS) L.length cc ⟨#[]⟩ wo (List.length_map _) hRc hcl (by show (Lib.join _ []).length ≤ _; rw [join_empty, lines_flat]; have := pText_len L HR.out.each; omega) (by omega))
      have HF := Lib.hid (fun (S : ByteArray) (w' : World) (hS : S.data.toList = Lib.join ((L.map lineS).map (·.data.toList)) []) (hb : Below wo.heap.size wo w') => show PrintGive L w (.returned (.tuple #[.string S, .int .i64 0])) w' from ⟨by
        rw [join_empty, lines_flat] at hS
        have : S = ⟨(prT L).toArray⟩ := by rw [HO.out]; exact ba_ext (by rw [hS])
        rw [this, HEQ.out], bstep (Nat.le_refl _) HB.out hb⟩)
      clear hb hRc hO
      go_wp2_with (first | (go_at_call 44; (with_reducible refine Calls.mono JN.out ?_); rintro e w2 ⟨S, hS, rfl, hb2⟩))
      go_ret2
      exact HF.out _ _ hS hb2

end Go.Proofs.YtcghhagnibabeaaGreatDoor
