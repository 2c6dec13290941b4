/-
  THE WALK over law12.CropOrder.
-/
import Derived.Test.YtcghhagnibabeaaGreatDoorK23
import Derived.Test.YtcghhagnibabeaaGreatDoorMH
import Derived.IntWalk
namespace Go.Proofs.YtcghhagnibabeaaGreatDoor
open Go.RowKit Cr

theorem right_one {L : List Crp} (h : Right L) {c : Crp} (hc : c ∈ L) : Right [c] :=
  ⟨by simp, fun x hx => by obtain rfl := List.mem_singleton.1 hx; exact h.each _ hc, fun i hi => by simp at hi⟩

theorem pText_one (c : Crp) : pText [c] = lnT c ++ [10] := by rw [pText_lns]; simp

/-- The text of crops, one behind the other. -/
def oText (C : List Crp) : List UInt8 := (C.map lnT).flatMap fun l => l ++ [10]

theorem oText_snoc (C : List Crp) (c : Crp) : oText (C ++ [c]) = oText C ++ pText [c] := by
  rw [pText_one]
  unfold oText
  rw [List.map_append, List.flatMap_append]
  simp

theorem oText_len (C : List Crp) (h : ∀ c ∈ C, cErr c = 0) : (oText C).length ≤ C.length * 60 := by
  have := pText_len C h
  rw [pText_lns] at this
  exact this

/-- Lines of a right catalogue in any order are read as it is. -/
theorem parse_perm {L C : List Crp} (h : Right L) (hp : C.Perm L) {s : ByteArray} (hs : s.data.toList = oText C) (hl : s.size ≤ 16384) : parse s = (L, 0, 0) := by
  have he : ∀ c ∈ C, cErr c = 0 := fun c hc => h.each c (hp.mem_iff.1 hc)
  rw [parse_text (TL := C.map lnT) (fun l hl => by obtain ⟨c, hc, rfl⟩ := List.mem_map.1 hl; exact (lnT_ok (he c hc)).1) (by rw [List.length_map, hp.length_eq]; have := h.len; omega) hs hl, lines_map he]
  refine parse_any h hp (List.filter_eq_self.2 fun w hw => ?_)
  obtain ⟨c, -, rfl⟩ := List.mem_map.1 hw
  simpa using lineB_ne c

theorem find_self {L : List Crp} (h : Right L) {k : Nat} (hk : k < L.length) : find L L[k].nm = (k : Int) := by
  refine find_at hk (fun j hj hjk => ?_) (by simp)
  cases e : (L[j].nm.toList == L[k].nm.toList) with
  | false => rfl
  | true =>
    have e2 : L[j].nm = L[k].nm := ba_ext (by rw [← ByteArray.toList_eq, ← ByteArray.toList_eq]; simpa using e)
    have := h.inj hj hk e2
    omega

set_option maxRecDepth 100000 in
set_option maxHeartbeats 8000000 in
theorem cropOrder_walk (a : Option Addr) (len cap : Nat) (z : List Int) (w : World) (h : IsRow .i64 w a len cap z) (hE : Env w) :
    Calls Tryz.prog 5 #[.slice a len cap] w (YesC w) := by
  have HN := Lib.hid (new_any a len cap z w h)
  have HE := Lib.hid hE
  clear h hE
  obtain ⟨l, el⟩ : ∃ l, (z.take len).take 400 = l := ⟨_, rfl⟩
  rw [el] at HN
  clear el
  go_enter Tryz.func5, Tryz.ntmps5
  go_wp2_with (first
    | (go_at_call 8; refine Calls.mono HN.out ?_; rintro e w1 ⟨rfl, ht1, hb1⟩)
    | fail)
  (with_reducible refine Calls.mono (crops_any w.heap.size l 0 w1 ht1) ?_)
  rintro e w2 ⟨p, n, c, L, q, rfl, hO, hN, hn3, hn8, -, hB2⟩
  have hb2 := hb1.trans (hB2.below (Nat.le_refl _) hb1.size)
  have hR := hN.right hn8
  have hLn := hN.len
  obtain ⟨p', c', e, -, hpx, hcl, hcm, hRec⟩ := hO.cut hLn
  cases e
  have HR := Lib.hid hR
  have HC2 := Lib.hid hRec
  have HB2 := Lib.hid hb2
  have HNZ := Lib.hid (nice_small hN)
  have HLN := Lib.hid hLn
  have hcm2 : c ≤ 9223372036854775807 := by unfold maxLen at hcm; omega
  obtain ⟨bb, off, rfl, hbl, -⟩ := hRec.at (k := 0) (by rw [hLn]; omega)
  clear ht1 hb1 hO hN hB2 hR hpx hcm hRec HN hb2 hLn
  go_wp2
  go_loopw [4, 5] (fun t i wr => ∃ (j : Nat) (X : ByteArray), j ≤ n ∧ i = .int .i64 ((j : Int) - 1) ∧ t = .string X ∧ X.data.toList = oText (L.drop j).reverse ∧ Below w2.heap.size w2 wr) (fun _ i _ => (intOf i + 1).toNat)
  case atStart => exact ⟨n, ⟨#[]⟩, Nat.le_refl _, rfl, rfl, by rw [List.drop_of_length_le (by rw [HLN.out]; exact Nat.le_refl _)]; rfl, Below.refl _ _⟩
  case round =>
    obtain ⟨wo, rfl⟩ : ∃ wo : World, wo = wr := ⟨_, rfl⟩
    obtain ⟨j, X, hj, rfl, rfl, hX, hb⟩ := hrel
    have HX := Lib.hid hX
    have HB := Lib.hid hb
    have hXz : X.size ≤ 480 := by
      rw [← size_len, hX]
      have := oText_len (L.drop j).reverse (fun c hc => HR.out.each c (List.mem_of_mem_drop (List.mem_reverse.1 hc)))
      rw [List.length_reverse, List.length_drop, HLN.out] at this
      omega
    clear hX
    match j, hj with
    | m + 1, hj =>
      have hm0 : (0 : Int) ≤ (m : Int) := Int.natCast_nonneg _
      have hm1 : (m : Int) + 1 ≤ (n : Int) := by omega
      have hm2 : (m : Int) + 1 ≤ (c : Int) := by omega
      have hmL : m < L.length := by rw [HLN.out]; omega
      have em : ((m + 1 : Nat) : Int) - 1 = (m : Int) := by omega
      have hR1 : Crops wo (some ⟨bb, off + m * 3, none⟩) [L[m]] := by
        have := ((HC2.out.below hb).drop m).take 1
        rw [List.drop_eq_getElem_cons hmL] at this
        exact this
      have hRt := right_one HR.out (List.getElem_mem hmL)
      have hck := (chk_right _).2 hRt
      have PR := Lib.hid (print12_any (some ⟨bb, off + m * 3, none⟩) [L[m]] (c - m) wo hR1 (fun x hx => by obtain rfl := List.mem_singleton.1 hx; have := HNZ.out _ (List.getElem_mem hmL); omega) (HE.out.below (bstep (Nat.le_refl _) HB2.out hb)))
      unfold PrintGive at PR
      obtain ⟨S, eS⟩ : ∃ S : ByteArray, (⟨(prT [L[m]]).toArray⟩ : ByteArray) = S := ⟨_, rfl⟩
      have hSp : S.data.toList = pText [L[m]] := by rw [← eS]; unfold prT; rw [if_pos hck]
      have hSz : S.size ≤ 60 := by
        rw [← size_len, hSp]
        have := pText_len [L[m]] hRt.each
        simpa using this
      rw [eS, hck] at PR
      have HN2 := Lib.hid (show (X ++ S).data.toList = oText (L.drop m).reverse by
        rw [ByteArray.data_append, Array.toList_append, HX.out, hSp, List.drop_eq_getElem_cons hmL, List.reverse_cons, oText_snoc])
      rw [em]
      clear em hR1 hRt hck eS hSp hb
      go_wp2_with (first | (go_at_call 15; (with_reducible refine Calls.mono PR.out ?_); rintro e w3 ⟨rfl, hb3⟩) | fail)
      go_roundw
      case rel => exact ⟨m, _, by omega, rfl, rfl, HN2.out, bstep (Nat.le_refl _) HB.out hb3⟩
      case measure => simp [intOf]
    | 0, hj =>
      have HP := Lib.hid (parse_to (parse_perm HR.out (C := L.reverse) (List.reverse_perm L) (s := X) (by rw [HX.out]; rfl) (by omega)) (by omega) wo (HE.out.below (bstep (Nat.le_refl _) HB2.out hb)))
      have e0 : ((0 : Nat) : Int) - 1 = -1 := rfl
      rw [e0]
      unfold PaGive at HP
      rw [HLN.out] at HP
      have HB3 := Lib.hid (bstep (Nat.le_refl _) HB2.out hb)
      have HC3 := Lib.hid (HC2.out.below hb)
      clear e0 hb
      go_wp2_with fail
      (with_reducible refine Calls.mono HP.out ?_)
      rintro e w4 ⟨p4, c4, rfl, hC4, hb4⟩
      have HB4 := Lib.hid (bstep (Nat.le_refl _) HB3.out hb4)
      have SM := Lib.hid (show Calls Tryz.prog 17 #[.slice p4 n c4, .slice (some ⟨bb, off, none⟩) n c] w4 (fun e w' => e = .returned (.bool true) ∧ Below w4.heap.size w4 w') from HLN.out ▸ refsame12_any L p4 (some ⟨bb, off, none⟩) c4 c w4 hC4.out (HC3.out.below hb4))
      clear hb4 HP
      go_wp2_with (first | (go_at_call 17; (with_reducible refine Calls.mono SM.out ?_); rintro e w5 ⟨rfl, hb5⟩) | fail)
      have HB5 := Lib.hid (bstep (Nat.le_refl _) HB4.out hb5)
      have HC5 := Lib.hid (hC4.out.below hb5)
      clear hb5 SM hC4
      go_loopw [56] (fun i wr => ∃ k : Nat, k ≤ n ∧ i = .int .i64 k ∧ Below w5.heap.size w5 wr) (fun i _ => n - (intOf i).toNat)
      case atStart => exact ⟨0, Nat.zero_le _, rfl, Below.refl _ _⟩
      case round =>
        obtain ⟨wi, rfl⟩ : ∃ wi : World, wi = wr := ⟨_, rfl⟩
        obtain ⟨k, hk, rfl, hbi⟩ := hrel
        have HBI := Lib.hid hbi
        have hk0 : (0 : Int) ≤ (k : Int) := Int.natCast_nonneg _
        by_cases hlt : k < n
        · have hk1 : (k : Int) < (n : Int) := by omega
          have hkL : k < L.length := by rw [HLN.out]; exact hlt
          obtain ⟨g, o, x, rfl, hgl, ⟨c0, -, -⟩, hx⟩ := SC_at (HC5.out.below hbi) hkL
          have hfi : find L x.nm = (k : Int) := by rw [← hx.out]; exact find_self HR.out hkL
          have FD := Lib.hid (fun (W : World) (h : Below wi.heap.size wi W) => show Calls Tryz.prog 12 #[.slice (some ⟨g, o, none⟩) n c4, .string x.nm] W (fun e w' => e = .returned (.int .i64 (k : Int)) ∧ Below W.heap.size W w') from by
            have := find_any (some ⟨g, o, none⟩) L c4 x.nm W ((HC5.out.below HBI.out).below h)
            unfold IntGive at this
            rw [hfi, HLN.out] at this
            exact this)
          clear hbi hfi
          rcases Nat.eq_zero_or_pos k with hz0 | hkp
          · subst hz0
            clear hk0 hk1
            rw [show ((0 : Nat) : Int) = 0 from rfl] at FD ⊢
            simp only [Nat.zero_mul, Nat.add_zero] at c0
            have KC := Lib.hid (fun (W : World) (h : Below wi.heap.size wi W) => show W.cell? ⟨g, o, none⟩ = some (.string x.nm) from (h.cell (p := ⟨g, o, none⟩) hgl).trans c0)
            clear hx
            go_wp2_with fail
            refine wp_region_held_drew (S := fun W => W.cell? ⟨g, o, none⟩ = some (.string x.nm)) (by kernel_rfl) (KC.out _ (Below.refl _ _).drew) (fun hHeld => ?_)
            refine wpAnyH_take (i := 0) (oi := ⟨some 59, _, _, _, _, _⟩) (v := ?v0) rfl (by kernel_rfl) (by kernel_rfl) (by kernel_rfl) (fun _ _ _ h => h) (Or.inl ⟨by kernel_rfl, ?y0⟩) (by assumption) ?r0
            case y0 =>
              intro W0 hSw
              (try dsimp only at hSw)
              go_simp
              try with_reducible rfl
            refine wpAnyH_take (i := 1) (oi := ⟨some 60, _, _, _, _, _⟩) (v := ?v1) rfl (by kernel_rfl) (by kernel_rfl) (by kernel_rfl) (fun _ _ _ h => h) (Or.inl ⟨by kernel_rfl, ?y1⟩) (by assumption) ?r1
            case y1 =>
              intro W0 hSw
              (try dsimp only at hSw)
              go_simp
              try with_reducible rfl
            refine wpAnyH_take (i := 2) (oi := ⟨some 61, _, _, _, _, _⟩) (v := ?v2) rfl (by kernel_rfl) (by kernel_rfl) (by kernel_rfl) (fun _ _ _ h => h) (Or.inl ⟨by kernel_rfl, ?y2⟩) (by assumption) ?r2
            case y2 =>
              intro W0 hSw
              (try dsimp only at hSw)
              go_simp
              try with_reducible rfl
            refine wpAnyH_take (i := 3) (oi := ⟨some 62, _, _, _, _, _⟩) (v := undef) rfl (by kernel_rfl) (by kernel_rfl) (by kernel_rfl) (fun _ _ _ h => h) (Or.inr ⟨by kernel_rfl, rfl⟩) (by assumption) ?_
            refine wpAnyH_take (i := 4) (oi := ⟨some 63, _, _, _, _, _⟩) (v := undef) rfl (by kernel_rfl) (by kernel_rfl) (by kernel_rfl) (fun _ _ _ h => h) (Or.inr ⟨by kernel_rfl, rfl⟩) (by assumption) ?_
            refine wpAnyH_take (i := 5) (oi := ⟨some 64, _, _, _, _, _⟩) (v := undef) rfl (by kernel_rfl) (by kernel_rfl) (by kernel_rfl) (fun _ _ _ h => h) (Or.inr ⟨by kernel_rfl, rfl⟩) (by assumption) ?_
            refine wpAnyH_take (i := 6) (oi := ⟨some 65, _, _, _, _, _⟩) (v := undef) rfl (by kernel_rfl) (by kernel_rfl) (by kernel_rfl) (fun _ _ _ h => h) (Or.inr ⟨by kernel_rfl, rfl⟩) (by assumption) ?_
            refine wpAnyH_take (i := 7) (oi := ⟨some 66, _, _, _, _, _⟩) (v := undef) rfl (by kernel_rfl) (by kernel_rfl) (by kernel_rfl) (fun _ _ _ h => h) (Or.inr ⟨by kernel_rfl, rfl⟩) (by assumption) ?_
            refine wpAnyH_take (i := 8) (oi := ⟨some 67, _, _, _, _, _⟩) (v := undef) rfl (by kernel_rfl) (by kernel_rfl) (by kernel_rfl) (fun _ _ _ h => h) (Or.inr ⟨by kernel_rfl, rfl⟩) (by assumption) ?_
            refine wpAnyH_take (i := 9) (oi := ⟨some 68, _, _, _, _, _⟩) (v := undef) rfl (by kernel_rfl) (by kernel_rfl) (by kernel_rfl) (fun _ _ _ h => h) (Or.inr ⟨by kernel_rfl, rfl⟩) (by assumption) ?_
            refine wpAnyH_take (i := 10) (oi := ⟨some 69, _, _, _, _, _⟩) (v := undef) rfl (by kernel_rfl) (by kernel_rfl) (by kernel_rfl) (fun _ _ _ h => h) (Or.inr ⟨by kernel_rfl, rfl⟩) (by assumption) ?_
            refine wpAnyH_take (i := 11) (oi := ⟨some 70, _, _, _, _, _⟩) (v := undef) rfl (by kernel_rfl) (by kernel_rfl) (by kernel_rfl) (fun _ _ _ h => h) (Or.inr ⟨by kernel_rfl, rfl⟩) (by assumption) ?_
            refine wpAnyH_take (i := 12) (oi := ⟨some 71, _, _, _, _, _⟩) (v := undef) rfl (by kernel_rfl) (by kernel_rfl) (by kernel_rfl) (fun _ _ _ h => h) (Or.inr ⟨by kernel_rfl, rfl⟩) (by assumption) ?_
            refine wpAnyH_take (i := 13) (oi := ⟨some 72, _, _, _, _, _⟩) (v := undef) rfl (by kernel_rfl) (by kernel_rfl) (by kernel_rfl) (fun _ _ _ h => h) (Or.inr ⟨by kernel_rfl, rfl⟩) (by assumption) ?_
            refine wpAnyH_take (i := 14) (oi := ⟨some 73, _, _, _, _, _⟩) (v := undef) rfl (by kernel_rfl) (by kernel_rfl) (by kernel_rfl) (fun _ _ _ h => h) (Or.inr ⟨by kernel_rfl, rfl⟩) (by assumption) ?_
            simp only [Act.put, List.setIfInBounds_toArray, List.set_cons_zero, List.set_cons_succ]
            refine wpAnyH_take (i := 15) (oi := ⟨some 74, _, _, _, _, _⟩) (v := ?v15) rfl (by kernel_rfl) (by kernel_rfl) (by kernel_rfl) (fun _ _ _ h => h) (Or.inl ⟨by kernel_rfl, ?y15⟩) (by assumption) ?r15
            case y15 =>
              intro W0 hSw
              (try dsimp only at hSw)
              go_simp
              try with_reducible rfl
            refine wpAnyH_take (i := 16) (oi := ⟨some 75, _, _, _, _, _⟩) (v := ?v16) rfl (by kernel_rfl) (by kernel_rfl) (by kernel_rfl) (fun _ _ _ h => h) (Or.inl ⟨by kernel_rfl, ?y16⟩) (by assumption) ?r16
            case y16 =>
              intro W0 hSw
              (try dsimp only at hSw)
              go_simp
              try with_reducible rfl
            simp only [Act.put, List.setIfInBounds_toArray, List.set_cons_zero, List.set_cons_succ]
            refine wpAnyH_take (i := 17) (oi := ⟨some 76, _, _, _, _, _⟩) (v := ?v17) rfl (by kernel_rfl) (by kernel_rfl) (by kernel_rfl) (fun _ _ _ h => h) (Or.inl ⟨by kernel_rfl, ?y17⟩) (by assumption) ?r17
            case y17 =>
              intro W0 hSw
              (try dsimp only at hSw)
              go_simp
              try with_reducible rfl
            refine wpAnyH_take (i := 18) (oi := ⟨some 77, _, _, _, _, _⟩) (v := ?v18) rfl (by kernel_rfl) (by kernel_rfl) (by kernel_rfl) (fun _ _ _ h => h) (Or.inl ⟨by kernel_rfl, ?y18⟩) (by assumption) ?r18
            case y18 =>
              intro W0 hSw
              (try dsimp only at hSw)
              go_simp
              try with_reducible rfl
            refine wpAnyH_take (i := 19) (oi := ⟨some 78, _, _, _, _, _⟩) (v := ?v19) rfl (by kernel_rfl) (by kernel_rfl) (by kernel_rfl) (fun _ _ _ h => h) (Or.inl ⟨by kernel_rfl, ?y19⟩) (by assumption) ?r19
            case y19 =>
              intro W0 hSw
              (try dsimp only at hSw)
              go_simp
              try with_reducible rfl
            simp only [Act.put, List.setIfInBounds_toArray, List.set_cons_zero, List.set_cons_succ]
            refine wpAnyH_take (i := 20) (oi := ⟨some 79, _, _, _, _, _⟩) (v := ?v20) rfl (by kernel_rfl) (by kernel_rfl) (by kernel_rfl) (fun _ _ _ h => h) (Or.inl ⟨by kernel_rfl, ?y20⟩) (by assumption) ?r20
            case y20 =>
              intro W0 hSw
              (try dsimp only at hSw)
              go_simp
              try with_reducible rfl
            refine wpAnyH_take (i := 21) (oi := ⟨some 80, _, _, _, _, _⟩) (v := ?v21) rfl (by kernel_rfl) (by kernel_rfl) (by kernel_rfl) (fun _ _ _ h => h) (Or.inl ⟨by kernel_rfl, ?y21⟩) (by assumption) ?r21
            case y21 =>
              intro W0 hSw
              (try dsimp only at hSw)
              go_simp
              try with_reducible rfl
            refine wpAnyH_take (i := 22) (oi := ⟨some 81, _, _, _, _, _⟩) (v := ?v22) rfl (by kernel_rfl) (by kernel_rfl) (by kernel_rfl) (fun _ _ _ h => h) (Or.inl ⟨by kernel_rfl, ?y22⟩) (by assumption) ?r22
            case y22 =>
              intro W0 hSw
              (try dsimp only at hSw)
              go_simp
              try with_reducible rfl
            simp only [Act.put, List.setIfInBounds_toArray, List.set_cons_zero, List.set_cons_succ]
            refine wpAnyH_take (i := 24) (oi := ⟨some 83, _, _, _, _, _⟩) (v := ?v24) rfl (by kernel_rfl) (by kernel_rfl) (by kernel_rfl) (fun _ _ _ h => h) (Or.inl ⟨by kernel_rfl, ?y24⟩) (by assumption) ?r24
            case y24 =>
              intro W0 hSw
              (try dsimp only at hSw)
              go_simp
              try with_reducible rfl
            refine wpAnyH_ready (rs := [23]) (by kernel_rfl) (by simp) ?_
            refine AllReadyH.cons (o := ⟨some 82, _, _, _, _, _⟩) rfl (fun K hK => ?_) AllReadyH.nil
            go_simp
            (with_reducible refine Calls.mono (FD.out _ (Below.refl _ _).drew) ?_)
            rintro e w7 ⟨rfl, hb7⟩
            go_wp2_with fail
            refine hK.out _ _ ?hS (fun hHeld2 => ?_)
            case hS => exact KC.out _ (bdrew hb7)
            clear hK K
            refine wpAnyH_take (i := 25) (oi := ⟨some 84, _, _, _, _, _⟩) (v := ?v25) rfl (by kernel_rfl) (by kernel_rfl) (by kernel_rfl) (fun _ _ _ h => h) (Or.inl ⟨by kernel_rfl, ?y25⟩) (by assumption) ?r25
            case y25 =>
              intro W0 hSw
              (try dsimp only at hSw)
              go_simp
              try with_reducible rfl
            refine wpAnyH_take (i := 26) (oi := ⟨some 85, _, _, _, _, _⟩) (v := ?v26) rfl (by kernel_rfl) (by kernel_rfl) (by kernel_rfl) (fun _ _ _ h => h) (Or.inl ⟨by kernel_rfl, ?y26⟩) (by assumption) ?r26
            case y26 =>
              intro W0 hSw
              (try dsimp only at hSw)
              go_simp
              try with_reducible rfl
            refine wpAnyH_done (by kernel_rfl) ?_ _
            go_wp2
            go_roundw
            case rel => exact ⟨1, by omega, rfl, bstep (Nat.le_refl _) HBI.out (bdrew hb7)⟩
            case measure => simp [intOf]; omega
          · obtain ⟨m, hm⟩ : ∃ m, k = m + 1 := ⟨k - 1, by omega⟩
            have hm0 : (0 : Int) ≤ (m : Int) := Int.natCast_nonneg _
            have hm1 : (m : Int) < (n : Int) := by omega
            have hkm : IntKind.i64.wrap ((k : Int) - 1) = (m : Int) := by rw [IntWalk.i64_in _ (by omega)]; omega
            have hkp2 : (0 : Int) < (k : Int) := by omega
            have HM := Lib.hid hm
            obtain ⟨g', o', y, ey, -, ⟨y0, -, -⟩, hy⟩ := SC_at (HC5.out.below HBI.out) (show m < L.length by omega)
            cases ey
            have hle := le_eq x.nm y.nm
            rw [show Cr.lt y.nm x.nm = true by rw [← hx.out, ← hy.out]; (have := HR.out.asc m (by omega); simpa only [← hm] using this), Bool.not_true] at hle
            have KC := Lib.hid (fun (W : World) (h : Below wi.heap.size wi W) => show W.cell? ⟨g, o + k * 3, none⟩ = some (.string x.nm) ∧ W.cell? ⟨g, o + m * 3, none⟩ = some (.string y.nm) from ⟨(h.cell (p := ⟨g, o + k * 3, none⟩) hgl).trans c0, (h.cell (p := ⟨g, o + m * 3, none⟩) hgl).trans y0⟩)
            clear hx hy hm
            go_wp2_with fail
            go_region_held3 (fun W => W.cell? ⟨g, o + k * 3, none⟩ = some (.string x.nm) ∧ W.cell? ⟨g, o + m * 3, none⟩ = some (.string y.nm)) (first | exact KC.out _ (Below.refl _ _).drew | exact KC.out _ B7 | fail)
              (first | (go_at_call 12; (with_reducible refine Calls.mono (FD.out _ (Below.refl _ _).drew) ?_); rintro e w7 ⟨rfl, hb7⟩; have B7 := bdrew hb7) | fail)
            go_wp2
            go_roundw
            case rel => exact ⟨k + 1, by omega, by go_num, bstep (Nat.le_refl _) HBI.out B7⟩
            case measure => simp [intOf]; omega
        · obtain rfl : k = n := by omega
          have AW := Lib.hid (awake12_any wi (HE.out.below (bstep (Nat.le_refl _) HB5.out hbi)))
          clear hbi
          go_wp2_with (first | (go_at_call 14; (with_reducible refine Calls.mono AW.out ?_); rintro e w7 ⟨rfl, hb7⟩) | fail)
          go_ret
          exact ⟨rfl, bstep (Nat.le_refl _) (bstep (Nat.le_refl _) HB5.out HBI.out) hb7⟩
end Go.Proofs.YtcghhagnibabeaaGreatDoor
