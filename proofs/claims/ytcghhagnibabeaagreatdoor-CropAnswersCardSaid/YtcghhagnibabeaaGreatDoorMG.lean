/-
  MERGED (mergek.py): the texts K18, K19.
-/
import Derived.Test.YtcghhagnibabeaaGreatDoorMF
import Derived.Test.YtcghhagnibabeaaGreatDoorMD
import Derived.Test.YtcghhagnibabeaaGreatDoorW5
import Derived.Test.YtcghhagnibabeaaGreatDoorGc
import Derived.Test.YtcghhagnibabeaaGreatDoorS6

namespace Go.Proofs.YtcghhagnibabeaaGreatDoor
open Go.RowKit Cr

theorem ins_at (c : Crp) : ∀ (L : List Crp) (j : Nat), j ≤ L.length → (∀ i (h : i < L.length), i < j → Cr.lt L[i].nm c.nm = true) → (∀ h : j < L.length, Cr.lt L[j].nm c.nm = false) → ins c L = L.take j ++ c :: L.drop j
  | [], j, hj, _, _ => by
    have : j = 0 := by simpa using hj
    subst this
    rfl
  | x :: r, 0, _, _, h2 => by
    have := h2 (by simp)
    simp only [List.getElem_cons_zero] at this
    rw [ins, if_neg (by rw [this]; simp)]
    rfl
  | x :: r, j + 1, hj, h1, h2 => by
    have h0 := h1 0 (by simp) (by omega)
    simp only [List.getElem_cons_zero] at h0
    have ih := ins_at c r j (by simpa using hj) (fun i h hi => by have := h1 (i + 1) (by simpa using h) (by omega); simpa using this) (fun h => by have := h2 (by simpa using h); simpa using this)
    rw [ins, if_pos h0, ih]
    rfl

/-- Behind some lines of a text: the crops read, each in its place. -/
structure QSt (w wr : World) (v : Value) (acc : List Crp) (k : Nat) (LL : List (List ByteArray)) : Prop where
  own : OwnR SC wr 31 w.heap.size v acc
  eq : prsA acc k (LL.drop k) = prsA [] 0 LL
  len : acc.length ≤ 40
  below : Below w.heap.size w wr

theorem QSt.fin {w wr : World} {v : Value} {acc : List Crp} {LL : List (List ByteArray)} (h : QSt w wr v acc LL.length LL) : prsA [] 0 LL = (acc, 0, 0) := by
  have e := h.eq
  rw [List.drop_length, prsA] at e
  exact e.symm

theorem QSt.skip {w wr w' : World} {v : Value} {acc : List Crp} {k : Nat} {LL : List (List ByteArray)} (h : QSt w wr v acc k LL) (hk : k < LL.length) (h0 : LL[k] = []) (hb : Below wr.heap.size wr w') : QSt w w' v acc (k + 1) LL := by
  refine ⟨h.own.below hb, ?_, h.len, bstep (Nat.le_refl _) h.below hb⟩
  rw [← h.eq, PSt.drop hk, prsA, if_pos h0]

theorem QSt.form {w wr : World} {v : Value} {acc : List Crp} {k : Nat} {LL : List (List ByteArray)} (h : QSt w wr v acc k LL) (hk : k < LL.length) (h0 : LL[k] ≠ []) (hl : lineC LL[k] = none) : prsA [] 0 LL = ([], (k : Int) + 1, 4) := by
  rw [← h.eq, PSt.drop hk, prsA, if_neg h0, hl]

theorem QSt.twice {w wr : World} {v : Value} {acc : List Crp} {k : Nat} {LL : List (List ByteArray)} (h : QSt w wr v acc k LL) (hk : k < LL.length) (h0 : LL[k] ≠ []) {c : Crp} (hl : lineC LL[k] = some c) (hh : has acc c.nm = true) : prsA [] 0 LL = ([], (k : Int) + 1, 6) := by
  rw [← h.eq, PSt.drop hk, prsA, if_neg h0, hl]
  simp only
  rw [if_pos hh]

theorem QSt.many {w wr : World} {v : Value} {acc : List Crp} {k : Nat} {LL : List (List ByteArray)} (h : QSt w wr v acc k LL) (hk : k < LL.length) (h0 : LL[k] ≠ []) {c : Crp} (hl : lineC LL[k] = some c) (hh : has acc c.nm = false) (h40 : acc.length = 40) : prsA [] 0 LL = ([], (k : Int) + 1, 1) := by
  rw [← h.eq, PSt.drop hk, prsA, if_neg h0, hl]
  simp only
  rw [if_neg (by rw [hh]; simp), if_pos h40]

theorem QSt.more {w wr w' : World} {v v' : Value} {acc : List Crp} {k : Nat} {LL : List (List ByteArray)} (h : QSt w wr v acc k LL) (hk : k < LL.length) (h0 : LL[k] ≠ []) {c : Crp} (hl : lineC LL[k] = some c) (hh : has acc c.nm = false) (h40 : acc.length ≠ 40) (hO : OwnR SC w' 31 w.heap.size v' (ins c acc)) (hb : Below w.heap.size w w') : QSt w w' v' (ins c acc) (k + 1) LL := by
  refine ⟨hO, ?_, by rw [(ins_perm c acc).length_eq]; have := h.len; simp; omega, hb⟩
  rw [← h.eq, PSt.drop hk, prsA, if_neg h0, hl]
  simp only
  rw [if_neg (by rw [hh]; simp), if_neg h40]

theorem own_e1 (W : World) : OwnR SC (W.alloc (.cells #[] 31)) 31 W.heap.size (.slice (some ⟨W.heap.size, 0, none⟩) 0 0) [] :=
  OwnR.of_block (S := SC) (cur := #[]) (by show (W.heap.push _)[W.heap.size]? = _; simp) (Nat.le_refl _) (Nat.le_refl _) (Nat.zero_le _) rfl rfl
theorem own_e2 (W : World) (o : Obj) : OwnR SC ((W.alloc (.cells #[] 31)).alloc o) 31 W.heap.size (.slice (some ⟨W.heap.size, 0, none⟩) 0 0) [] := (own_e1 W).below ((Below.refl _ _).alloc (Nat.le_refl _) _)
theorem own_e3 (W : World) (o : Obj) : OwnR SC ((W.alloc o).alloc (.cells #[] 31)) 31 W.heap.size (.slice (some ⟨W.heap.size + 1, 0, none⟩) 0 0) [] := by
  have := (own_e1 (W.alloc o)).mono (B' := W.heap.size) (by rw [World.size_alloc]; omega)
  rw [World.size_alloc] at this
  exact this

theorem le_a (W : World) (o : Obj) : W.heap.size ≤ (W.alloc o).heap.size := by rw [World.size_alloc]; omega
theorem le_d1 (W : World) (o : Obj) : W.heap.size ≤ (W.alloc o).drew.heap.size := le_a W o
theorem le_d2 (W : World) (o o' : Obj) : W.heap.size ≤ ((W.alloc o).alloc o').drew.heap.size := Nat.le_trans (le_a W o) (le_a _ o')

/-- A crop in a new block. -/
theorem one_c (W : World) (nm : ByteArray) (fam mk : Int) : Crops (W.alloc (.cells #[.string nm, .int .i64 fam, .int .i64 mk] 31)) (some ⟨W.heap.size, 0, none⟩) [⟨nm, fam, mk⟩] :=
  Recs.lit (S := SC) W 31 [⟨nm, fam, mk⟩] (by show 1 ≤ _; unfold maxLen; omega)

theorem one_c2 (W : World) (o : Obj) (nm : ByteArray) (fam mk : Int) : Crops ((W.alloc o).alloc (.cells #[.string nm, .int .i64 fam, .int .i64 mk] 31)) (some ⟨W.heap.size + 1, 0, none⟩) [⟨nm, fam, mk⟩] := by
  have := one_c (W.alloc o) nm fam mk
  rw [World.size_alloc] at this
  exact this

end Go.Proofs.YtcghhagnibabeaaGreatDoor

namespace Go.Proofs.YtcghhagnibabeaaGreatDoor
open Go.RowKit Cr


set_option maxRecDepth 100000 in
set_option maxHeartbeats 40000000 in
theorem refparse12_any (s : ByteArray) (w : World) (hE : Env w) (hs : s.size ≤ 9223372036854775807) : Calls Tryz.prog 29 #[.string s] w (ParseGive (parse s) w) := by
  have SP := Lib.hid (refsplit_any s w hE hs)
  unfold SplitGive at SP
  obtain ⟨er, eer⟩ : ∃ x, Wo.sErr s.data.toList = x := ⟨_, rfl⟩
  rw [eer] at SP
  by_cases he : er = 0
  rotate_left
  · have HF := Lib.hid (fun (w' : World) (hb : Below w.heap.size w w') => parse_bad (parse_err eer he) w w' hb)
    have hne : (er != 0) = true := by simpa using he
    clear hE hs he eer
    go_enter Tryz.func29, Tryz.ntmps29
    go_wp2_with (first | (go_at_call 47; (with_reducible refine Calls.mono SP.out ?_); rintro e w1 ⟨p, c, rfl, hL, hp, hb1⟩))
    go_ret3
    exact HF.out _ hb1
  subst he
  have HW := Lib.hid (fun (ws : List ByteArray) (h : ws ∈ sLines s) (x : ByteArray) (hx : x ∈ ws) => word_of_text eer h hx)
  have hll := lines_count eer
  rw [parse_lines eer]
  obtain ⟨LL, eLL⟩ : ∃ x, sLines s = x := ⟨_, rfl⟩
  rw [eLL] at SP HW hll ⊢
  clear eLL eer hE hs
  go_enter Tryz.func29, Tryz.ntmps29
  go_wp2_with (first | (go_at_call 47; (with_reducible refine Calls.mono SP.out ?_); rintro e w1 ⟨p, c, rfl, hL, hp, hb1⟩))
  clear SP
  obtain ⟨H, hHl, hRec, hRow⟩ := hL
  have HB1 := Lib.hid hb1
  have HREC := Lib.hid hRec
  have HROW := Lib.hid hRow
  have HHL := Lib.hid hHl
  clear hRec hRow hHl hb1 hp
  go_loopw [7, 25] (fun v i wr => ∃ (k : Nat) (acc : List Crp), k ≤ LL.length ∧ i = .int .i64 k ∧ QSt w1 wr v acc k LL) (fun _ i _ => LL.length - (intOf i).toNat)
  case atStart => exact ⟨0, [], Nat.zero_le _, rfl, ⟨OwnR.nil _ _ _, rfl, Nat.zero_le _, Below.refl _ _⟩⟩
  case round =>
    obtain ⟨wo, rfl⟩ : ∃ wo : World, wo = wr := ⟨_, rfl⟩
    obtain ⟨k, acc, hk, rfl, hS⟩ := hrel
    have HS := Lib.hid hS
    have hb := hS.below
    have HSW := Lib.hid (bstep (Nat.le_refl _) HB1.out hS.below)
    have hk0 : (0 : Int) ≤ (k : Int) := Int.natCast_nonneg _
    obtain ⟨pv, cv, rfl, hpn, hpx, hcl, hcm, hRv⟩ := hS.own.cut rfl
    have HRV := Lib.hid hRv
    have HPN := Lib.hid hpn
    have HPX := Lib.hid hpx
    have hcm2 : cv ≤ 9223372036854775807 := by unfold maxLen at hcm; omega
    have hacc := hS.len
    clear hS hpn hpx hRv hcm
    by_cases hlt : k < LL.length
    · have hk1 : (k : Int) < (LL.length : Int) := by omega
      have hkH : k < H.length := by rw [HHL.out]; exact hlt
      obtain ⟨b0, off, rfl, hbl, hcell⟩ := (HREC.out.below hb).at hkH
      have hc0 := hcell 0 _ rfl
      have hWA := (HROW.out k hkH hlt).below hb
      obtain ⟨hd, ehd⟩ : ∃ hd, H[k] = hd := ⟨_, rfl⟩
      rw [ehd] at hc0 hWA
      obtain ⟨ws, ews⟩ : ∃ ws, LL[k] = ws := ⟨_, rfl⟩
      rw [ews] at hWA
      obtain ⟨hp, hn, hc⟩ := hd
      obtain ⟨hw1, hw2, hw3, hw4⟩ := hWA
      simp only at hw1 hw2 hw3 hw4
      subst hw1
      have hc1 : wo.cell? ⟨b0, off + k, none⟩ = some (.slice hp ws.length hc) := by
        rw [show off + k * SH.k + 0 = off + k by show off + k * 1 + 0 = off + k; omega] at hc0
        exact hc0
      have HWS := Lib.hid ews
      clear hcell hc0 ehd ews
      by_cases h0 : ws = []
      · have hl0 : ws.length = 0 := by rw [h0]; rfl
        have HN := Lib.hid (HS.out.skip hlt (HWS.out.trans h0) (Below.refl _ _))
        rw [hl0] at hc1
        clear hw2 hw3 hw4 h0 hl0 hb
        go_wp2
        go_roundw
        case rel => exact ⟨k + 1, acc, by omega, by go_num, HN.out⟩
        case measure => simp [intOf]; omega
      have hlen : ((ws.length : Int) == 0) = false := by
        have : ws.length ≠ 0 := fun e => h0 (List.length_eq_zero_iff.1 e)
        simp; omega
      have H0 := Lib.hid (show LL[k] ≠ [] by rw [HWS.out]; exact h0)
      have HBAD := Lib.hid (fun (hl : lineC ws = none) (w' : World) (hb : Below wo.heap.size wo w') => parse_bad (HS.out.form hlt H0.out (HWS.out.symm ▸ hl)) w w' (bstep (Nat.le_refl _) HSW.out hb))
      clear h0
      by_cases h4 : ws.length = 4
      rotate_left
      · have hne4 : ((ws.length : Int) != 4) = true := by simp; omega
        have HF := Lib.hid (HBAD.out (line_len h4))
        clear HBAD hw2 hw3 hw4 h4 hb
        go_wp2
        go_ret3
        exact HF.out _ (Below.refl _ _)
      obtain ⟨a, b, f, m, rfl⟩ := four_of h4
      obtain ⟨B, O, rfl, hBl, g0⟩ := hw2.word (j := 0) (by simp)
      obtain ⟨B1, O1, e1, -, g1⟩ := hw2.word (j := 1) (by simp)
      cases e1
      obtain ⟨B2, O2, e2, -, g2⟩ := hw2.word (j := 2) (by simp)
      cases e2
      obtain ⟨B3, O3, e3, -, g3⟩ := hw2.word (j := 3) (by simp)
      cases e3
      simp only [List.getElem_cons_zero, List.getElem_cons_succ, Nat.add_zero] at g0 g1 g2 g3
      have hmem : [a, b, f, m] ∈ LL := by rw [← HWS.out]; exact List.getElem_mem hlt
      have hfz := (HW.out _ hmem f (by simp)).1
      have hbz := (HW.out _ hmem b (by simp)).1
      have hl4 := line_four a b f m
      simp only [List.length_cons, List.length_nil] at hc1 hlen
      clear hw2 hw3 hw4 h4 hmem
      by_cases hcr : a.data.toList = [99, 114, 111, 112]
      rotate_left
      · have hne : (a.toList == [99, 114, 111, 112]) = false := by rw [ByteArray.toList_eq]; simpa using hcr
        have HF := Lib.hid (HBAD.out (by rw [hl4, if_neg (fun h => hcr h.1)]))
        clear HBAD hcr hl4 hb
        go_wp2
        go_ret3
        exact HF.out _ (Below.refl _ _)
      have hce : (a.toList == [99, 114, 111, 112]) = true := by rw [ByteArray.toList_eq]; simpa using hcr
      obtain ⟨nb, enb⟩ : ∃ x, Wo.nameB b.data.toList = x := ⟨_, rfl⟩
      have NM := Lib.hid (show ∀ W, Calls Tryz.prog 48 #[.string b] W (fun e w' => e = .returned (.bool nb) ∧ W = w') from fun W => enb ▸ refname_any b W (by omega))
      cases nb with
      | false =>
        have HF := Lib.hid (HBAD.out (by rw [hl4, if_neg (fun h => by rw [enb] at h; cases h.2.1)]))
        clear HBAD hcr hl4 hb enb
        go_wp2_with (first | (go_at_call 48; (with_reducible refine Calls.mono (NM.out _) ?_); rintro e w2 ⟨rfl, rfl⟩) | fail)
        go_ret3
        exact HF.out _ (Below.refl _ _)
      | true =>
        obtain ⟨v, ev⟩ : ∃ x, Wo.numV f.data.toList 0 40 = x := ⟨_, rfl⟩
        obtain ⟨ok, eok⟩ : ∃ x, Wo.numB f.data.toList 0 40 = x := ⟨_, rfl⟩
        have NU := Lib.hid (show ∀ W, Calls Tryz.prog 49 #[.string f, .int .i64 0, .int .i64 40] W (fun e w' => e = .returned (.tuple #[.int .i64 v, .bool ok]) ∧ Below W.heap.size W w') from fun W => ev ▸ eok ▸ refnumber_any f 0 40 W (by omega))
        obtain ⟨uv, euv⟩ : ∃ x, unmV m.data.toList = x := ⟨_, rfl⟩
        obtain ⟨us, eus⟩ : ∃ x, (unm m.data.toList).isSome = x := ⟨_, rfl⟩
        have UM := Lib.hid (show ∀ W, Calls Tryz.prog 50 #[.string m] W (fun e w' => e = .returned (.tuple #[.int .i64 uv, .bool us]) ∧ Below W.heap.size W w') from fun W => euv ▸ eus ▸ unmarks_any m W)
        by_cases hg : ok = true ∧ us = true
        rotate_left
        · have hl : lineC [a, b, f, m] = none := by
            rw [hl4]
            by_cases ho : ok = true
            · rw [if_pos ⟨hcr, enb, eok.trans ho⟩]
              cases hu : unm m.data.toList with
              | none => rfl
              | some x => rw [hu] at eus; exact absurd ⟨ho, eus.symm⟩ hg
            · rw [if_neg (fun h => ho (eok.symm.trans h.2.2))]
          have HF := Lib.hid (HBAD.out hl)
          clear HBAD hcr hl4 hb enb ev eok euv eus hl
          cases ok with
          | false =>
            clear hg
            go_wp2_with (first | (go_at_call 48; (with_reducible refine Calls.mono (NM.out _) ?_); rintro e w2 ⟨rfl, rfl⟩) | (go_at_call 49; (with_reducible refine Calls.mono (NU.out _) ?_); rintro e w3 ⟨rfl, hb3⟩; have hB3 : B < w3.heap.size := Nat.lt_of_lt_of_le hBl hb3.size; have l1 := (hb3.cell (p := ⟨B, O + 1, none⟩) hBl).trans g1; have l3 := (hb3.cell (p := ⟨B, O + 3, none⟩) hBl).trans g3) | (go_at_call 50; (with_reducible refine Calls.mono (UM.out _) ?_); rintro e w4 ⟨rfl, hb4⟩; have m1 := (hb4.cell (p := ⟨B, O + 1, none⟩) hB3).trans l1) | fail)
            go_ret3
            exact HF.out _ (bstep (Nat.le_refl _) hb3 hb4)
          | true =>
            obtain rfl : us = false := by cases us with | false => rfl | true => exact absurd ⟨rfl, rfl⟩ hg
            clear hg
            go_wp2_with (first | (go_at_call 48; (with_reducible refine Calls.mono (NM.out _) ?_); rintro e w2 ⟨rfl, rfl⟩) | (go_at_call 49; (with_reducible refine Calls.mono (NU.out _) ?_); rintro e w3 ⟨rfl, hb3⟩; have hB3 : B < w3.heap.size := Nat.lt_of_lt_of_le hBl hb3.size; have l1 := (hb3.cell (p := ⟨B, O + 1, none⟩) hBl).trans g1; have l3 := (hb3.cell (p := ⟨B, O + 3, none⟩) hBl).trans g3) | (go_at_call 50; (with_reducible refine Calls.mono (UM.out _) ?_); rintro e w4 ⟨rfl, hb4⟩; have m1 := (hb4.cell (p := ⟨B, O + 1, none⟩) hB3).trans l1) | fail)
            go_ret3
            exact HF.out _ (bstep (Nat.le_refl _) hb3 hb4)
        obtain ⟨rfl, rfl⟩ := hg
        obtain ⟨mm, emm⟩ : ∃ mm : Nat, unm m.data.toList = some mm := by
          cases hu : unm m.data.toList with
          | none => rw [hu] at eus; cases eus
          | some x => exact ⟨x, rfl⟩
        obtain rfl : (mm : Int) = uv := by rw [← euv]; unfold unmV; rw [emm]
        have HLS := Lib.hid (show lineC LL[k] = some ⟨b, v, (mm : Int)⟩ by rw [HWS.out, hl4, if_pos ⟨hcr, enb, eok⟩, emm, ev]; rfl)
        clear HBAD euv eus emm hl4 hcr enb ev eok
        obtain ⟨fi, ef⟩ : ∃ fi, find acc b = fi := ⟨_, rfl⟩
        have FD := Lib.hid (show ∀ W, Below wo.heap.size wo W → Calls Tryz.prog 24 #[.slice pv acc.length cv, .string b] W (fun e w' => e = .returned (.int .i64 fi) ∧ Below W.heap.size W w') from fun W hW => ef ▸ reffind_any pv acc cv b W (HRV.out.below hW))
        cases hh : has acc b with
        | true =>
          have hf : (0 : Int) ≤ fi := by have := find_not hh; rw [ef] at this; simpa using this
          have HF := Lib.hid (fun (w' : World) (hb : Below w.heap.size w w') => parse_bad (HS.out.twice hlt H0.out HLS.out hh) w w' hb)
          clear ef hh hb
          go_wp2_with (first | (go_at_call 48; (with_reducible refine Calls.mono (NM.out _) ?_); rintro e w2 ⟨rfl, rfl⟩) | (go_at_call 49; (with_reducible refine Calls.mono (NU.out _) ?_); rintro e w3 ⟨rfl, hb3⟩; have hB3 : B < w3.heap.size := Nat.lt_of_lt_of_le hBl hb3.size; have l1 := (hb3.cell (p := ⟨B, O + 1, none⟩) hBl).trans g1; have l3 := (hb3.cell (p := ⟨B, O + 3, none⟩) hBl).trans g3) | (go_at_call 50; (with_reducible refine Calls.mono (UM.out _) ?_); rintro e w4 ⟨rfl, hb4⟩; have m1 := (hb4.cell (p := ⟨B, O + 1, none⟩) hB3).trans l1) | (go_at_call 24; (with_reducible refine Calls.mono (FD.out _ (bstep (Nat.le_refl _) hb3 hb4)) ?_); rintro e w5 ⟨rfl, hb5⟩) | fail)
          go_ret3
          exact HF.out _ (bstep (Nat.le_refl _) HSW.out (bstep (Nat.le_refl _) (bstep (Nat.le_refl _) hb3 hb4) hb5))
        | false =>
          have hf : ¬ (0 : Int) ≤ fi := by have := find_not hh; rw [ef] at this; simpa using this
          clear ef
          by_cases h40 : acc.length = 40
          · have HF := Lib.hid (fun (w' : World) (hb : Below w.heap.size w w') => parse_bad (HS.out.many hlt H0.out HLS.out hh h40) w w' hb)
            have h4 : ((acc.length : Int) == 40) = true := by rw [h40]; rfl
            clear hh h40 hb
            go_wp2_with (first | (go_at_call 48; (with_reducible refine Calls.mono (NM.out _) ?_); rintro e w2 ⟨rfl, rfl⟩) | (go_at_call 49; (with_reducible refine Calls.mono (NU.out _) ?_); rintro e w3 ⟨rfl, hb3⟩; have hB3 : B < w3.heap.size := Nat.lt_of_lt_of_le hBl hb3.size; have l1 := (hb3.cell (p := ⟨B, O + 1, none⟩) hBl).trans g1; have l3 := (hb3.cell (p := ⟨B, O + 3, none⟩) hBl).trans g3) | (go_at_call 50; (with_reducible refine Calls.mono (UM.out _) ?_); rintro e w4 ⟨rfl, hb4⟩; have m1 := (hb4.cell (p := ⟨B, O + 1, none⟩) hB3).trans l1) | (go_at_call 24; (with_reducible refine Calls.mono (FD.out _ (bstep (Nat.le_refl _) hb3 hb4)) ?_); rintro e w5 ⟨rfl, hb5⟩) | fail)
            go_ret3
            exact HF.out _ (bstep (Nat.le_refl _) HSW.out (bstep (Nat.le_refl _) (bstep (Nat.le_refl _) hb3 hb4) hb5))
          · have h4 : ((acc.length : Int) == 40) = false := by simp; omega
            have HMO := Lib.hid (fun (w' : World) (v' : Value) (hO : OwnR SC w' 31 w1.heap.size v' (ins ⟨b, v, (mm : Int)⟩ acc)) (hb : Below w1.heap.size w1 w') => HS.out.more hlt H0.out HLS.out hh h40 hO hb)
            clear hh h40
            go_wp2_with (first | (go_at_call 48; (with_reducible refine Calls.mono (NM.out _) ?_); rintro e w2 ⟨rfl, rfl⟩) | (go_at_call 49; (with_reducible refine Calls.mono (NU.out _) ?_); rintro e w3 ⟨rfl, hb3⟩; have hB3 : B < w3.heap.size := Nat.lt_of_lt_of_le hBl hb3.size; have l1 := (hb3.cell (p := ⟨B, O + 1, none⟩) hBl).trans g1; have l3 := (hb3.cell (p := ⟨B, O + 3, none⟩) hBl).trans g3) | (go_at_call 50; (with_reducible refine Calls.mono (UM.out _) ?_); rintro e w4 ⟨rfl, hb4⟩; have m1 := (hb4.cell (p := ⟨B, O + 1, none⟩) hB3).trans l1) | (go_at_call 24; (with_reducible refine Calls.mono (FD.out _ (bstep (Nat.le_refl _) hb3 hb4)) ?_); rintro e w5 ⟨rfl, hb5⟩) | fail)
            have hb5' := bstep (Nat.le_refl _) (bstep (Nat.le_refl _) hb3 hb4) hb5
            have hB4 : B < w4.heap.size := Nat.lt_of_lt_of_le hB3 hb4.size
            have n1 := (hb5.cell (p := ⟨B, O + 1, none⟩) hB4).trans m1
            have hB5 : B < w5.heap.size := Nat.lt_of_lt_of_le hB4 hb5.size
            have HRV5 := Lib.hid (HRV.out.below hb5')
            have HN1 := Lib.hid n1
            have HQ5 := Lib.hid (hb.trans (hb5'.mono hb.size))
            have hw15 := (hb.trans (hb5'.mono hb.size)).size
            clear m1 l1 l3 g0 g1 g2 g3 hb3 hb4 hb5 hb5' n1 hc1 hb hbl
            go_loopw [14] (fun t wr => ∃ j : Nat, j ≤ acc.length ∧ t = .int .i64 j ∧ (∀ i (h : i < acc.length), i < j → Cr.lt acc[i].nm b = true) ∧ Below w5.heap.size w5 wr) (fun t _ => acc.length - (intOf t).toNat)
            case atStart => exact ⟨0, Nat.zero_le _, rfl, fun i _ hi => absurd hi (Nat.not_lt_zero i), Below.refl _ _⟩
            case round =>
              obtain ⟨wi, rfl⟩ : ∃ wi : World, wi = wr := ⟨_, rfl⟩
              obtain ⟨j, hj, rfl, hall, hbi⟩ := hrel
              have HALL := Lib.hid hall
              have HBI := Lib.hid hbi
              have hsi := hbi.size
              have hj0 : (0 : Int) ≤ (j : Int) := Int.natCast_nonneg _
              have n1 := (hbi.cell (p := ⟨B, O + 1, none⟩) hB5).trans HN1.out
              have HJ := Lib.hid (show (acc.take j).length = j by rw [List.length_take]; omega)
              have RVz := Lib.hid (fun (X : World) (h : Below wi.heap.size wi X) => (HRV5.out.below hbi).below h)
              have N1z := Lib.hid (fun (X : World) (h : Below wi.heap.size wi X) => show X.cell? ⟨B, O + 1, none⟩ = some (.string b) from (h.cell (p := ⟨B, O + 1, none⟩) (Nat.lt_of_lt_of_le hB5 hsi)).trans n1)
              have INS := Lib.hid (fun (v' : Value) (X : World) (L' : List Crp) (hO : OwnR SC X 31 wi.heap.size v' L') (h : Below wi.heap.size wi X) (e : L' = ins ⟨b, v, (mm : Int)⟩ acc) => HMO.out X v' (e ▸ hO.mono (Nat.le_trans hw15 hsi)) ((HQ5.out.trans (hbi.mono hw15)).trans (h.mono (Nat.le_trans hw15 hsi))))
              clear hall hbi
              by_cases hjl : j < acc.length
              · have hj1 : (j : Int) < (acc.length : Int) := by omega
                obtain ⟨g, og, x, rfl, hgl, hC, hx⟩ := SC_at (RVz.out wi (Below.refl _ _)) hjl
                obtain ⟨c0, -, -⟩ := hC
                cases hl : Cr.lt x.nm b with
                | true =>
                  have hbl2 : Op.bytesLess x.nm.toList b.toList = true := hl
                  have HNX := Lib.hid (show ∀ i (h : i < acc.length), i < j + 1 → Cr.lt acc[i].nm b = true from fun i h hi => by
                    rcases Nat.lt_or_ge i j with h1 | h1
                    · exact HALL.out i h h1
                    · obtain rfl : i = j := by omega
                      rw [hx.out]; exact hl)
                  clear hl INS RVz N1z
                  go_wp2_with fail
                  go_quiet (fail)
                  go_wp2
                  go_roundw
                  case rel => exact ⟨j + 1, by omega, by go_num, HNX.out, bstep (Nat.le_refl _) HBI.out (drewN_below _ _)⟩
                  case measure => simp [intOf]; omega
                | false =>
                  have hbl2 : Op.bytesLess x.nm.toList b.toList = false := hl
                  have HINS := Lib.hid (ins_at ⟨b, v, (mm : Int)⟩ acc j hj HALL.out (fun h => by rw [hx.out]; exact hl))
                  clear hl
                  go_wp2_with fail
                  go_quiet (fail)
                  go_wp2_with fail
                  rename_i nq
                  obtain ⟨wz, ewz⟩ : ∃ wz : World, wi.drewN nq = wz := ⟨_, rfl⟩
                  have HZ := Lib.hid (show Below wi.heap.size wi wz from ewz ▸ drewN_below wi nq)
                  rw [ewz]
                  clear ewz
                  have hzd : Below wi.heap.size wi wz.drew := HZ.out.drew
                  clear c0 n1 hbl2
                  have hj2 : (j : Int) ≤ (acc.length : Int) := by omega
                  have hj3 : (j : Int) ≤ (cv : Int) := by omega
                  have hj4 : ¬ (cv = j) := by omega
                  go_region_held3 (fun W => W.cell? ⟨B, O + 1, none⟩ = some (.string b))
                    (first | exact N1z.out _ hzd | exact N1z.out _ (balloc (Nat.le_refl _) HZ.out _).drew | exact N1z.out _ (balloc (Nat.le_refl _) (balloc (Nat.le_refl _) HZ.out _) _).drew | exact N1z.out _ B7 | exact N1z.out _ (balloc (Nat.le_refl _) B7 _) | exact N1z.out _ B9 | exact N1z.out _ B11 | fail)
                    (first
                      | (refine OwnR.stepAp el_crp (by rfl) (.tmp 103) (.tmp 106) (by rfl) wz.heap.size _ [] (acc.take j) (some ⟨g, og, none⟩) cv j HJ.out (by first | exact (own_e1 wz).drew | exact (own_e2 wz _).drew | exact (own_e3 wz _).drew | fail) ((RVz.out _ (by first | exact (balloc (Nat.le_refl _) HZ.out _).drew | exact (balloc (Nat.le_refl _) (balloc (Nat.le_refl _) HZ.out _) _).drew | fail)).take _) (fun h => by cases h) (by rfl) (by rfl) (by first | exact le_d1 _ _ | exact le_d2 _ _ _ | fail) (by show 0 + _ < _; omega) (by decide) ?_; intro v7 w7 hO7 hap7; have B7 : Below wi.heap.size wi w7 := (by first | exact (balloc (Nat.le_refl _) HZ.out _).drew.trans (hap7.below.mono HZ.out.size) | exact (balloc (Nat.le_refl _) (balloc (Nat.le_refl _) HZ.out _) _).drew.trans (hap7.below.mono HZ.out.size) | fail); have s7 : wz.heap.size ≤ w7.heap.size := (by first | exact Nat.le_trans (le_d1 wz _) hap7.size | exact Nat.le_trans (le_d2 wz _ _) hap7.size | fail))
                      | (refine OwnR.stepAp el_crp (by rfl) (.tmp 107) (.tmp 114) (by rfl) wz.heap.size v7 ([] ++ acc.take j) [(⟨b, v, (mm : Int)⟩ : Crp)] _ 1 1 rfl (by first | exact hO7.below ((Below.refl _ _).alloc (Nat.le_refl _) _) | exact hO7 | fail) (by first | exact one_c w7 _ _ _ | exact (one_c2 wz _ _ _ _).drew.far hap7 (fun x e => by cases e; intro e2; simp [Value.ownBlock] at e2) | exact ((one_c wz _ _ _).below ((Below.refl _ _).alloc (Nat.le_refl _) _)).drew.far hap7 (fun x e => by cases e; intro e2; simp [Value.ownBlock] at e2) | fail) (fun h => by cases h) (by rfl) (by rfl) (by first | exact Nat.le_trans s7 (le_a w7 _) | exact s7 | fail) (by simp only [List.nil_append]; rw [HJ.out]; omega) (by decide) ?_; intro v9 w9 hO9 hap9; have B9 : Below wi.heap.size wi w9 := (by first | exact (balloc (Nat.le_refl _) B7 _).trans (hap9.below.mono HZ.out.size) | exact B7.trans (hap9.below.mono HZ.out.size) | fail); have s9 : wz.heap.size ≤ w9.heap.size := (by first | exact Nat.le_trans (Nat.le_trans s7 (le_a w7 _)) hap9.size | exact Nat.le_trans s7 hap9.size | fail))
                      | (refine OwnR.stepAp el_crp (by rfl) (.tmp 115) (.tmp 118) (by rfl) wz.heap.size v9 (([] ++ acc.take j) ++ [(⟨b, v, (mm : Int)⟩ : Crp)]) (acc.drop j) (some ⟨g, og + j * 3, none⟩) (cv - j) (acc.length - j) (by rw [List.length_drop]) hO9 ((RVz.out _ B9).drop j) (fun h => by cases h) (by rfl) (by rfl) s9 (by simp only [List.nil_append, List.length_append]; rw [HJ.out]; show j + 1 + _ < _; omega) (by decide) ?_; intro v11 w11 hO11 hap11; have B11 : Below wi.heap.size wi w11 := B9.trans (hap11.below.mono HZ.out.size))
                      | fail)
                  all_goals
                    have HN := Lib.hid (INS.out v11 w11 _ (hO11.mono HZ.out.size) B11 (by rw [HINS.out]; simp))
                    go_wp2
                    go_roundw
                    case rel => exact ⟨k + 1, _, by omega, by go_num, HN.out⟩
                    case measure => simp [intOf]; omega
              · have HINS := Lib.hid (ins_at ⟨b, v, (mm : Int)⟩ acc j hj HALL.out (fun h => absurd h hjl))
                have hdf : ¬ ((j : Int) < (acc.length : Int)) := by omega
                go_wp2_with fail
                go_quiet (fail)
                go_wp2_with fail
                rename_i nq
                obtain ⟨wz, ewz⟩ : ∃ wz : World, wi.drewN nq = wz := ⟨_, rfl⟩
                have HZ := Lib.hid (show Below wi.heap.size wi wz from ewz ▸ drewN_below wi nq)
                rw [ewz]
                clear ewz
                have hzd : Below wi.heap.size wi wz.drew := HZ.out.drew
                clear n1
                cases pv with
                | none =>
                  have hcv := (HPN.out rfl).1
                  have hal := List.length_eq_zero_iff.1 (HPN.out rfl).2
                  obtain rfl : j = 0 := by rw [hal] at hj; simpa using hj
                  have HJ0 := Lib.hid (show acc.take 0 = [] from rfl)
                  have HD0 := Lib.hid (show acc.drop 0 = [] by rw [hal]; rfl)
                  have hl0 : acc.length = 0 := by rw [hal]; rfl
                  subst hcv
                  rw [hl0]
                  clear hal
                  go_region_held3 (fun W => W.cell? ⟨B, O + 1, none⟩ = some (.string b))
                    (first | exact N1z.out _ hzd | exact N1z.out _ (balloc (Nat.le_refl _) HZ.out _).drew | exact N1z.out _ (balloc (Nat.le_refl _) (balloc (Nat.le_refl _) HZ.out _) _).drew | exact N1z.out _ B7 | exact N1z.out _ (balloc (Nat.le_refl _) B7 _) | exact N1z.out _ B9 | exact N1z.out _ B11 | fail)
                    (first
                      | (refine OwnR.stepAp el_crp (by rfl) (.tmp 103) (.tmp 106) (by rfl) wz.heap.size _ [] (acc.take 0) none 0 0 HJ.out (by first | exact (own_e1 wz).drew | exact (own_e2 wz _).drew | exact (own_e3 wz _).drew | fail) (Recs.nil _ _) (fun _ => rfl) (by rfl) (by rfl) (by first | exact le_d1 _ _ | exact le_d2 _ _ _ | fail) (by show 0 + _ < _; omega) (by decide) ?_; intro v7 w7 hO7 hap7; have B7 : Below wi.heap.size wi w7 := (by first | exact (balloc (Nat.le_refl _) HZ.out _).drew.trans (hap7.below.mono HZ.out.size) | exact (balloc (Nat.le_refl _) (balloc (Nat.le_refl _) HZ.out _) _).drew.trans (hap7.below.mono HZ.out.size) | fail); have s7 : wz.heap.size ≤ w7.heap.size := (by first | exact Nat.le_trans (le_d1 wz _) hap7.size | exact Nat.le_trans (le_d2 wz _ _) hap7.size | fail))
                      | (refine OwnR.stepAp el_crp (by rfl) (.tmp 107) (.tmp 114) (by rfl) wz.heap.size v7 ([] ++ acc.take 0) [(⟨b, v, (mm : Int)⟩ : Crp)] _ 1 1 rfl (by first | exact hO7.below ((Below.refl _ _).alloc (Nat.le_refl _) _) | exact hO7 | fail) (by first | exact one_c w7 _ _ _ | exact (one_c2 wz _ _ _ _).drew.far hap7 (fun x e => by cases e; intro e2; simp [Value.ownBlock] at e2) | exact ((one_c wz _ _ _).below ((Below.refl _ _).alloc (Nat.le_refl _) _)).drew.far hap7 (fun x e => by cases e; intro e2; simp [Value.ownBlock] at e2) | fail) (fun h => by cases h) (by rfl) (by rfl) (by first | exact Nat.le_trans s7 (le_a w7 _) | exact s7 | fail) (by simp only [List.nil_append]; rw [HJ.out]; omega) (by decide) ?_; intro v9 w9 hO9 hap9; have B9 : Below wi.heap.size wi w9 := (by first | exact (balloc (Nat.le_refl _) B7 _).trans (hap9.below.mono HZ.out.size) | exact B7.trans (hap9.below.mono HZ.out.size) | fail); have s9 : wz.heap.size ≤ w9.heap.size := (by first | exact Nat.le_trans (Nat.le_trans s7 (le_a w7 _)) hap9.size | exact Nat.le_trans s7 hap9.size | fail))
                      | (refine OwnR.stepAp el_crp (by rfl) (.tmp 115) (.tmp 118) (by rfl) wz.heap.size v9 (([] ++ acc.take 0) ++ [(⟨b, v, (mm : Int)⟩ : Crp)]) [] none 0 0 rfl hO9 (Recs.nil _ _) (fun _ => rfl) (by rfl) (by rfl) s9 (by simp only [List.nil_append, List.length_append]; rw [HJ.out]; show 0 + 1 + _ < _; omega) (by decide) ?_; intro v11 w11 hO11 hap11; have B11 : Below wi.heap.size wi w11 := B9.trans (hap11.below.mono HZ.out.size))
                      | fail)
                  all_goals
                    have HN := Lib.hid (INS.out v11 w11 _ (hO11.mono HZ.out.size) B11 (by rw [HINS.out, HD0.out]; simp))
                    go_wp2
                    go_roundw
                    case rel => exact ⟨k + 1, _, by omega, by go_num, HN.out⟩
                    case measure => simp [intOf]; omega
                | some x =>
                  obtain ⟨g, o, sp⟩ := x
                  obtain ⟨-, hsp, -, -⟩ := HPX.out _ rfl
                  simp only at hsp
                  subst hsp
                  have HD0 := Lib.hid (show acc.drop j = [] from List.drop_of_length_le (by omega))
                  have hlz : acc.length - j = 0 := by omega
                  have hj2 : (j : Int) ≤ (acc.length : Int) := by omega
                  by_cases hjc : cv = j
                  · subst hjc
                    go_region_held3 (fun W => W.cell? ⟨B, O + 1, none⟩ = some (.string b))
                      (first | exact N1z.out _ hzd | exact N1z.out _ (balloc (Nat.le_refl _) HZ.out _).drew | exact N1z.out _ (balloc (Nat.le_refl _) (balloc (Nat.le_refl _) HZ.out _) _).drew | exact N1z.out _ B7 | exact N1z.out _ (balloc (Nat.le_refl _) B7 _) | exact N1z.out _ B9 | exact N1z.out _ B11 | fail)
                      (first
                        | (refine OwnR.stepAp el_crp (by rfl) (.tmp 103) (.tmp 106) (by rfl) wz.heap.size _ [] (acc.take cv) (some ⟨g, o, none⟩) cv cv HJ.out (by first | exact (own_e1 wz).drew | exact (own_e2 wz _).drew | exact (own_e3 wz _).drew | fail) ((RVz.out _ (by first | exact (balloc (Nat.le_refl _) HZ.out _).drew | exact (balloc (Nat.le_refl _) (balloc (Nat.le_refl _) HZ.out _) _).drew | fail)).take _) (fun h => by cases h) (by rfl) (by rfl) (by first | exact le_d1 _ _ | exact le_d2 _ _ _ | fail) (by show 0 + _ < _; omega) (by decide) ?_; intro v7 w7 hO7 hap7; have B7 : Below wi.heap.size wi w7 := (by first | exact (balloc (Nat.le_refl _) HZ.out _).drew.trans (hap7.below.mono HZ.out.size) | exact (balloc (Nat.le_refl _) (balloc (Nat.le_refl _) HZ.out _) _).drew.trans (hap7.below.mono HZ.out.size) | fail); have s7 : wz.heap.size ≤ w7.heap.size := (by first | exact Nat.le_trans (le_d1 wz _) hap7.size | exact Nat.le_trans (le_d2 wz _ _) hap7.size | fail))
                        | (refine OwnR.stepAp el_crp (by rfl) (.tmp 107) (.tmp 114) (by rfl) wz.heap.size v7 ([] ++ acc.take cv) [(⟨b, v, (mm : Int)⟩ : Crp)] _ 1 1 rfl (by first | exact hO7.below ((Below.refl _ _).alloc (Nat.le_refl _) _) | exact hO7 | fail) (by first | exact one_c w7 _ _ _ | exact (one_c2 wz _ _ _ _).drew.far hap7 (fun x e => by cases e; intro e2; simp [Value.ownBlock] at e2) | exact ((one_c wz _ _ _).below ((Below.refl _ _).alloc (Nat.le_refl _) _)).drew.far hap7 (fun x e => by cases e; intro e2; simp [Value.ownBlock] at e2) | fail) (fun h => by cases h) (by rfl) (by rfl) (by first | exact Nat.le_trans s7 (le_a w7 _) | exact s7 | fail) (by simp only [List.nil_append]; rw [HJ.out]; omega) (by decide) ?_; intro v9 w9 hO9 hap9; have B9 : Below wi.heap.size wi w9 := (by first | exact (balloc (Nat.le_refl _) B7 _).trans (hap9.below.mono HZ.out.size) | exact B7.trans (hap9.below.mono HZ.out.size) | fail); have s9 : wz.heap.size ≤ w9.heap.size := (by first | exact Nat.le_trans (Nat.le_trans s7 (le_a w7 _)) hap9.size | exact Nat.le_trans s7 hap9.size | fail))
                        | (refine OwnR.stepAp el_crp (by rfl) (.tmp 115) (.tmp 118) (by rfl) wz.heap.size v9 (([] ++ acc.take cv) ++ [(⟨b, v, (mm : Int)⟩ : Crp)]) [] (some ⟨g, o, none⟩) 0 0 rfl hO9 (Recs.nil _ _) (fun h => by cases h) (by rfl) (by rfl) s9 (by simp only [List.nil_append, List.length_append]; rw [HJ.out]; show cv + 1 + _ < _; omega) (by decide) ?_; intro v11 w11 hO11 hap11; have B11 : Below wi.heap.size wi w11 := B9.trans (hap11.below.mono HZ.out.size))
                        | fail)
                    all_goals
                      have HN := Lib.hid (INS.out v11 w11 _ (hO11.mono HZ.out.size) B11 (by rw [HINS.out, HD0.out]; simp))
                      go_wp2
                      go_roundw
                      case rel => exact ⟨k + 1, _, by omega, by go_num, HN.out⟩
                      case measure => simp [intOf]; omega
                  · have hj3 : (j : Int) ≤ (cv : Int) := by omega
                    have hj4 : ¬ (cv = j) := hjc
                    go_region_held3 (fun W => W.cell? ⟨B, O + 1, none⟩ = some (.string b))
                      (first | exact N1z.out _ hzd | exact N1z.out _ (balloc (Nat.le_refl _) HZ.out _).drew | exact N1z.out _ (balloc (Nat.le_refl _) (balloc (Nat.le_refl _) HZ.out _) _).drew | exact N1z.out _ B7 | exact N1z.out _ (balloc (Nat.le_refl _) B7 _) | exact N1z.out _ B9 | exact N1z.out _ B11 | fail)
                      (first
                        | (refine OwnR.stepAp el_crp (by rfl) (.tmp 103) (.tmp 106) (by rfl) wz.heap.size _ [] (acc.take j) (some ⟨g, o, none⟩) cv j HJ.out (by first | exact (own_e1 wz).drew | exact (own_e2 wz _).drew | exact (own_e3 wz _).drew | fail) ((RVz.out _ (by first | exact (balloc (Nat.le_refl _) HZ.out _).drew | exact (balloc (Nat.le_refl _) (balloc (Nat.le_refl _) HZ.out _) _).drew | fail)).take _) (fun h => by cases h) (by rfl) (by rfl) (by first | exact le_d1 _ _ | exact le_d2 _ _ _ | fail) (by show 0 + _ < _; omega) (by decide) ?_; intro v7 w7 hO7 hap7; have B7 : Below wi.heap.size wi w7 := (by first | exact (balloc (Nat.le_refl _) HZ.out _).drew.trans (hap7.below.mono HZ.out.size) | exact (balloc (Nat.le_refl _) (balloc (Nat.le_refl _) HZ.out _) _).drew.trans (hap7.below.mono HZ.out.size) | fail); have s7 : wz.heap.size ≤ w7.heap.size := (by first | exact Nat.le_trans (le_d1 wz _) hap7.size | exact Nat.le_trans (le_d2 wz _ _) hap7.size | fail))
                        | (refine OwnR.stepAp el_crp (by rfl) (.tmp 107) (.tmp 114) (by rfl) wz.heap.size v7 ([] ++ acc.take j) [(⟨b, v, (mm : Int)⟩ : Crp)] _ 1 1 rfl (by first | exact hO7.below ((Below.refl _ _).alloc (Nat.le_refl _) _) | exact hO7 | fail) (by first | exact one_c w7 _ _ _ | exact (one_c2 wz _ _ _ _).drew.far hap7 (fun x e => by cases e; intro e2; simp [Value.ownBlock] at e2) | exact ((one_c wz _ _ _).below ((Below.refl _ _).alloc (Nat.le_refl _) _)).drew.far hap7 (fun x e => by cases e; intro e2; simp [Value.ownBlock] at e2) | fail) (fun h => by cases h) (by rfl) (by rfl) (by first | exact Nat.le_trans s7 (le_a w7 _) | exact s7 | fail) (by simp only [List.nil_append]; rw [HJ.out]; omega) (by decide) ?_; intro v9 w9 hO9 hap9; have B9 : Below wi.heap.size wi w9 := (by first | exact (balloc (Nat.le_refl _) B7 _).trans (hap9.below.mono HZ.out.size) | exact B7.trans (hap9.below.mono HZ.out.size) | fail); have s9 : wz.heap.size ≤ w9.heap.size := (by first | exact Nat.le_trans (Nat.le_trans s7 (le_a w7 _)) hap9.size | exact Nat.le_trans s7 hap9.size | fail))
                        | (refine OwnR.stepAp el_crp (by rfl) (.tmp 115) (.tmp 118) (by rfl) wz.heap.size v9 (([] ++ acc.take j) ++ [(⟨b, v, (mm : Int)⟩ : Crp)]) [] (some ⟨g, o + j * 3, none⟩) (cv - j) 0 rfl hO9 (Recs.nil _ _) (fun h => by cases h) (by rfl) (by rfl) s9 (by simp only [List.nil_append, List.length_append]; rw [HJ.out]; show j + 1 + _ < _; omega) (by decide) ?_; intro v11 w11 hO11 hap11; have B11 : Below wi.heap.size wi w11 := B9.trans (hap11.below.mono HZ.out.size))
                        | fail)
                    all_goals
                      have HN := Lib.hid (INS.out v11 w11 _ (hO11.mono HZ.out.size) B11 (by rw [HINS.out, HD0.out]; simp))
                      go_wp2
                      go_roundw
                      case rel => exact ⟨k + 1, _, by omega, by go_num, HN.out⟩
                      case measure => simp [intOf]; omega
    · obtain rfl : k = LL.length := by omega
      have HF := Lib.hid (show ParseGive (prsA [] 0 LL) w (.returned (.tuple #[.slice pv acc.length cv, .int .i64 0, .int .i64 0])) wo by
        rw [HS.out.fin]
        exact ⟨pv, cv, rfl, HRV.out, HSW.out⟩)
      clear hb
      go_wp2
      go_ret3
      exact HF.out

end Go.Proofs.YtcghhagnibabeaaGreatDoor
