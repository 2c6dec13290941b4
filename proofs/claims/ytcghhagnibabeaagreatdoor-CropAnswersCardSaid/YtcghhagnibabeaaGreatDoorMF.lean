/-
  MERGED (mergek.py): the texts K16, K17.
-/
import Derived.Test.YtcghhagnibabeaaGreatDoorK15
import Derived.Test.YtcghhagnibabeaaGreatDoorK10
import Derived.Test.YtcghhagnibabeaaGreatDoorMC
import Derived.Test.YtcghhagnibabeaaGreatDoorS5
import Derived.Test.YtcghhagnibabeaaGreatDoorMB
import Derived.Test.YtcghhagnibabeaaGreatDoorK13

namespace Go.Proofs.YtcghhagnibabeaaGreatDoor
open Go.RowKit Cr

theorem lnsA_sub : ∀ (l cur x : List UInt8), x ∈ Wo.lnsA cur l → x.Sublist (cur ++ l)
  | [], cur, x, h => by
    rw [Wo.lnsA] at h
    split at h
    · cases h
    · obtain rfl := List.mem_singleton.1 h
      exact List.sublist_append_left _ _
  | c :: r, cur, x, h => by
    rw [Wo.lnsA] at h
    split at h
    · rcases List.mem_cons.1 h with rfl | h
      · exact List.sublist_append_left _ _
      · have := lnsA_sub r [] x h
        exact ((this.trans (List.sublist_cons_self c r)).trans (List.sublist_append_right cur (c :: r)))
    · have := lnsA_sub r (cur ++ [c]) x h
      rwa [List.append_assoc, List.singleton_append] at this

theorem pcs_sub (s : UInt8) : ∀ (l cur x : List UInt8), x ∈ Wo.pcs s cur l → x.Sublist (cur ++ l)
  | [], cur, x, h => by
    rw [Wo.pcs] at h
    obtain rfl := List.mem_singleton.1 h
    exact List.sublist_append_left _ _
  | c :: r, cur, x, h => by
    rw [Wo.pcs] at h
    split at h
    · rcases List.mem_cons.1 h with rfl | h
      · exact List.sublist_append_left _ _
      · have := pcs_sub s r [] x h
        exact ((this.trans (List.sublist_cons_self c r)).trans (List.sublist_append_right cur (c :: r)))
    · have := pcs_sub s r (cur ++ [c]) x h
      rwa [List.append_assoc, List.singleton_append] at this

/-- The words of a right text are short, and plain. -/
theorem word_of_text {s : ByteArray} (h : Wo.sErr s.data.toList = 0) {ws : List ByteArray} (hw : ws ∈ sLines s) {x : ByteArray} (hx : x ∈ ws) : x.size ≤ 16384 ∧ ∀ y ∈ x.data.toList, y.toNat < 128 := by
  unfold sLines Wo.sList at hw
  rw [if_pos h, List.map_map] at hw
  obtain ⟨l, hl, rfl⟩ := List.mem_map.1 hw
  obtain ⟨y, hy, rfl⟩ := List.mem_map.1 hx
  have h1 := lnsA_sub _ _ _ hl
  have h2 : y.Sublist l := by
    unfold Wo.wds at hy
    exact (pcs_sub 32 _ [] y (List.mem_filter.1 hy).1).trans (List.takeWhile_sublist _)
  have h3 : y.Sublist s.data.toList := h2.trans h1
  have h4 : ¬ (16384 < s.data.toList.length ∨ 400 < s.data.toList.count 10) ∧ s.data.toList.all Wo.plainB = true := by
    unfold Wo.sErr at h
    split at h
    · cases h
    · rename_i a
      split at h
      · cases h
      · rename_i b
        refine ⟨a, ?_⟩
        cases e : s.data.toList.all Wo.plainB with
        | true => rfl
        | false => exact absurd (.inr e) b
  refine ⟨?_, fun c hc => ?_⟩
  · rw [← size_len]
    show y.length ≤ _
    have := h3.length_le
    omega
  · have := List.all_eq_true.1 h4.2 c (h3.mem hc)
    unfold Wo.plainB at this
    simp only [Bool.or_eq_true, beq_iff_eq, Bool.and_eq_true, decide_eq_true_eq] at this
    rcases this with rfl | ⟨-, h⟩
    · decide
    · omega

theorem lines_count {s : ByteArray} (h : Wo.sErr s.data.toList = 0) : (sLines s).length ≤ 16384 := by
  have h4 : ¬ (16384 < s.data.toList.length ∨ 400 < s.data.toList.count 10) := by
    unfold Wo.sErr at h
    split at h
    · cases h
    · assumption
  unfold sLines Wo.sList
  rw [if_pos h, List.length_map, List.length_map]
  have := Wo.lns_len s.data.toList
  omega

def ParseGive (R : List Crp × Int × Int) (w : World) (e : Ending) (w' : World) : Prop :=
  ∃ p c, e = .returned (.tuple #[.slice p R.1.length c, .int .i64 R.2.1, .int .i64 R.2.2]) ∧ Crops w' p R.1 ∧ Below w.heap.size w w'

theorem parse_bad {R : List Crp × Int × Int} {n er : Int} (h : R = ([], n, er)) (w w' : World) (hb : Below w.heap.size w w') : ParseGive R w (.returned (.tuple #[.slice none 0 0, .int .i64 n, .int .i64 er])) w' := by
  subst h
  exact ⟨none, 0, rfl, Recs.nil _ _, hb⟩

/-- What is sorted: any row of the call's own. -/
theorem sort_any (w : World) (B cap n : Nat) (p : Option Addr) (L : List Crp) (hn : L.length = n) (h : OwnR SC w 31 B (.slice p n cap) L) (hB : B ≤ w.heap.size) (h40 : L.length ≤ 1000000) :
    Calls Tryz.prog 38 #[.slice p n cap, .func (.func 39) #[] #[]] w fun e w' => e = .returned (.tuple #[]) ∧ ∃ M : List Crp, M.Perm L ∧ (M.Pairwise fun a b => Cr.lt b.nm a.nm = false) ∧ Crops w' p M ∧ Below B w w' := by
  subst hn
  by_cases h0 : L = []
  · subst h0
    exact (Tryz.slices_SortFunc_none (α := Crp) p cap _ w).mono fun e w' ⟨h1, h2⟩ => ⟨h1, [], List.Perm.refl _, List.Pairwise.nil, h2 ▸ Recs.nil _ _, h2 ▸ Below.refl _ _⟩
  · have hl : 0 < L.length := by cases L with | nil => exact absurd rfl h0 | cons a r => simp
    obtain ⟨g, e, -, -, -⟩ := h.at (k := 0) hl
    subst e
    exact sort_crops w B g cap _ L rfl h hB h40

/-- Behind some lines of a text: the crops read, in the order of the lines. -/
structure PSt (w wr : World) (v : Value) (acc : List Crp) (k : Nat) (LL : List (List ByteArray)) : Prop where
  own : OwnR SC wr 31 w.heap.size v acc
  eq : prsB acc k (LL.drop k) = prsB [] 0 LL
  len : acc.length ≤ 40
  ne : acc.Pairwise fun a b => a.nm ≠ b.nm
  below : Below w.heap.size w wr

theorem PSt.fin {w wr : World} {v : Value} {acc : List Crp} {LL : List (List ByteArray)} (h : PSt w wr v acc LL.length LL) {M : List Crp} (h1 : M.Perm acc) (h2 : M.Pairwise fun a b => Cr.lt b.nm a.nm = false) : prsA [] 0 LL = (M, 0, 0) := by
  have e := h.eq
  rw [List.drop_length, prsB] at e
  obtain ⟨a1, a2, a3⟩ := prs_same LL [] [] 0 List.Pairwise.nil (List.Perm.refl _)
  rw [← e] at a1 a3
  have hM : Asc M := asc_of_sorted h2 ((h1.pairwise_iff (fun {a b} (e : a.nm ≠ b.nm) k => e k.symm)).2 h.ne)
  have := asc_unique a2 hM (a3.trans h1.symm)
  exact Prod.ext this a1

theorem PSt.drop {LL : List (List ByteArray)} {k : Nat} (hk : k < LL.length) : LL.drop k = LL[k] :: LL.drop (k + 1) := List.drop_eq_getElem_cons hk

theorem prsA_bad {LL : List (List ByteArray)} {n er : Int} (h : prsB [] 0 LL = ([], n, er)) : prsA [] 0 LL = ([], n, er) := by
  obtain ⟨a1, a2, a3⟩ := prs_same LL [] [] 0 List.Pairwise.nil (List.Perm.refl _)
  rw [h] at a1 a3
  exact Prod.ext (List.Perm.eq_nil a3) a1

/-- An empty line. -/
theorem PSt.skip {w wr w' : World} {v : Value} {acc : List Crp} {k : Nat} {LL : List (List ByteArray)} (h : PSt w wr v acc k LL) (hk : k < LL.length) (h0 : LL[k] = []) (hb : Below wr.heap.size wr w') : PSt w w' v acc (k + 1) LL := by
  refine ⟨h.own.below hb, ?_, h.len, h.ne, bstep (Nat.le_refl _) h.below hb⟩
  rw [← h.eq, PSt.drop hk, prsB, if_pos h0]

theorem PSt.form {w wr : World} {v : Value} {acc : List Crp} {k : Nat} {LL : List (List ByteArray)} (h : PSt w wr v acc k LL) (hk : k < LL.length) (h0 : LL[k] ≠ []) (hl : lineC LL[k] = none) : prsA [] 0 LL = ([], (k : Int) + 1, 4) := by
  refine prsA_bad ?_
  rw [← h.eq, PSt.drop hk, prsB, if_neg h0, hl]

theorem PSt.twice {w wr : World} {v : Value} {acc : List Crp} {k : Nat} {LL : List (List ByteArray)} (h : PSt w wr v acc k LL) (hk : k < LL.length) (h0 : LL[k] ≠ []) {c : Crp} (hl : lineC LL[k] = some c) (hh : has acc c.nm = true) : prsA [] 0 LL = ([], (k : Int) + 1, 6) := by
  refine prsA_bad ?_
  rw [← h.eq, PSt.drop hk, prsB, if_neg h0, hl]
  simp only
  rw [if_pos hh]

theorem PSt.many {w wr : World} {v : Value} {acc : List Crp} {k : Nat} {LL : List (List ByteArray)} (h : PSt w wr v acc k LL) (hk : k < LL.length) (h0 : LL[k] ≠ []) {c : Crp} (hl : lineC LL[k] = some c) (hh : has acc c.nm = false) (h40 : acc.length = 40) : prsA [] 0 LL = ([], (k : Int) + 1, 1) := by
  refine prsA_bad ?_
  rw [← h.eq, PSt.drop hk, prsB, if_neg h0, hl]
  simp only
  rw [if_neg (by rw [hh]; simp), if_pos h40]

theorem PSt.more {w wr w' : World} {v v' : Value} {acc : List Crp} {k : Nat} {LL : List (List ByteArray)} (h : PSt w wr v acc k LL) (hk : k < LL.length) (h0 : LL[k] ≠ []) {c : Crp} (hl : lineC LL[k] = some c) (hh : has acc c.nm = false) (h40 : acc.length ≠ 40) (hO : OwnR SC w' 31 w.heap.size v' (acc ++ [c])) (hb : Below w.heap.size w w') : PSt w w' v' (acc ++ [c]) (k + 1) LL := by
  refine ⟨hO, ?_, by rw [List.length_append]; have := h.len; simp; omega, ?_, hb⟩
  · rw [← h.eq, PSt.drop hk, prsB, if_neg h0, hl]
    simp only
    rw [if_neg (by rw [hh]; simp), if_neg h40]
  · rw [List.pairwise_append]
    refine ⟨h.ne, List.pairwise_singleton _ _, fun a ha b hb e => ?_⟩
    obtain rfl := List.mem_singleton.1 hb
    rw [(has_iff acc b.nm).2 ⟨a, ha, e⟩] at hh
    cases hh

end Go.Proofs.YtcghhagnibabeaaGreatDoor

namespace Go.Proofs.YtcghhagnibabeaaGreatDoor
open Go.RowKit Cr

theorem parse_err {s : ByteArray} {er : Int} (h : Wo.sErr s.data.toList = er) (h0 : er ≠ 0) : parse s = ([], 0, er) := by
  unfold parse
  rw [if_neg (by rw [h]; exact h0), h]
theorem parse_lines {s : ByteArray} (h : Wo.sErr s.data.toList = 0) : parse s = prsA [] 0 (sLines s) := by
  unfold parse
  rw [if_pos h]

theorem find_not {L : List Crp} {nm : ByteArray} {b : Bool} (h : has L nm = b) : decide (0 ≤ find L nm) = b := by rw [← h]; exact find_has L nm

set_option maxRecDepth 100000 in
set_option maxHeartbeats 8000000 in
theorem parse12_any (s : ByteArray) (w : World) (hE : Env w) (hs : s.size ≤ 9223372036854775807) : Calls Tryz.prog 16 #[.string s] w (ParseGive (parse s) w) := by
  have SP := Lib.hid (split_any s w hE hs)
  unfold SplitGive at SP
  obtain ⟨er, eer⟩ : ∃ x, Wo.sErr s.data.toList = x := ⟨_, rfl⟩
  rw [eer] at SP
  by_cases he : er = 0
  rotate_left
  · have HF := Lib.hid (fun (w' : World) (hb : Below w.heap.size w w') => parse_bad (parse_err eer he) w w' hb)
    have hne : (er != 0) = true := by simpa using he
    clear hE hs he eer
    go_enter Tryz.func16, Tryz.ntmps16
    go_wp2_with (first | (go_at_call 36; (with_reducible refine Calls.mono SP.out ?_); rintro e w1 ⟨p, c, rfl, hL, hp, hb1⟩))
    go_ret3
    exact HF.out _ hb1
  subst he
  have HW := Lib.hid (fun (ws : List ByteArray) (h : ws ∈ sLines s) (x : ByteArray) (hx : x ∈ ws) => word_of_text eer h hx)
  have hll := lines_count eer
  rw [parse_lines eer]
  obtain ⟨LL, eLL⟩ : ∃ x, sLines s = x := ⟨_, rfl⟩
  rw [eLL] at SP HW hll ⊢
  have HE := Lib.hid hE
  clear eLL eer hE hs
  go_enter Tryz.func16, Tryz.ntmps16
  go_wp2_with (first | (go_at_call 36; (with_reducible refine Calls.mono SP.out ?_); rintro e w1 ⟨p, c, rfl, hL, hp, hb1⟩))
  clear SP
  obtain ⟨H, hHl, hRec, hRow⟩ := hL
  have HB1 := Lib.hid hb1
  have HREC := Lib.hid hRec
  have HROW := Lib.hid hRow
  have HHL := Lib.hid hHl
  clear hRec hRow hHl hb1 hp
  go_loopw [7, 22] (fun v i wr => ∃ (k : Nat) (acc : List Crp), k ≤ LL.length ∧ i = .int .i64 k ∧ PSt w1 wr v acc k LL) (fun _ i _ => LL.length - (intOf i).toNat)
  case atStart => exact ⟨0, [], Nat.zero_le _, rfl, ⟨OwnR.nil _ _ _, rfl, Nat.zero_le _, List.Pairwise.nil, Below.refl _ _⟩⟩
  case round =>
    obtain ⟨wo, rfl⟩ : ∃ wo : World, wo = wr := ⟨_, rfl⟩
    obtain ⟨k, acc, hk, rfl, hS⟩ := hrel
    have HS := Lib.hid hS
    have hb := hS.below
    have HSW := Lib.hid (bstep (Nat.le_refl _) HB1.out hS.below)
    have hk0 : (0 : Int) ≤ (k : Int) := Int.natCast_nonneg _
    obtain ⟨pv, cv, rfl, hpn, -, hcl, hcm, hRv⟩ := hS.own.cut rfl
    have HRV := Lib.hid hRv
    have hacc := hS.len
    clear hS hpn hRv
    by_cases hlt : k < LL.length
    · have hk1 : (k : Int) < (LL.length : Int) := by omega
      have hkH : k < H.length := by rw [HHL.out]; exact hlt
      obtain ⟨b, off, rfl, hbl, hcell⟩ := (HREC.out.below hb).at hkH
      have hc0 := hcell 0 _ rfl
      have hWA := (HROW.out k hkH hlt).below hb
      obtain ⟨hd, ehd⟩ : ∃ hd, H[k] = hd := ⟨_, rfl⟩
      rw [ehd] at hc0 hWA
      obtain ⟨ws, ews⟩ : ∃ ws, LL[k] = ws := ⟨_, rfl⟩
      rw [ews] at hWA
      obtain ⟨hp, hn, hc⟩ := hd
      obtain ⟨hw1, hw2, hw3, hw4⟩ := hWA
      simp only at hw1 hw2 hw3 hw4
      subst hw1
      have hc1 : wo.cell? ⟨b, off + k, none⟩ = some (.slice hp ws.length hc) := by
        have : k * SH.k + 0 = k := by show k * 1 + 0 = k; omega
        rw [show off + k * SH.k + 0 = off + k by show off + k * 1 + 0 = off + k; omega] at hc0
        exact hc0
      have HWS := Lib.hid ews
      clear hcell hc0 ehd
      by_cases h0 : ws = []
      · have hl0 : ws.length = 0 := by rw [h0]; rfl
        have HN := Lib.hid (HS.out.skip hlt (HWS.out.trans h0) (Below.refl _ _))
        rw [hl0] at hc1
        clear hw2 hw3 hw4 h0 hl0 hb
        go_wp2
        go_roundw
        case rel => exact ⟨k + 1, acc, by omega, by go_num, HN.out⟩
        case measure => simp [intOf]; omega
      · have hlen : ((ws.length : Int) == 0) = false := by
          have : ws.length ≠ 0 := fun e => h0 (List.length_eq_zero_iff.1 e)
          simp; omega
        have RD := Lib.hid (read_any hp ws ws.length hc wo rfl hw2 (HE.out.below HSW.out) (fun x hx => HW.out ws (by rw [← HWS.out]; exact List.getElem_mem hlt) x hx))
        unfold ReadGive at RD
        have H0 := Lib.hid (show LL[k] ≠ [] by rw [HWS.out]; exact h0)
        clear hw2 hw3 hw4 h0 hb
        go_wp2_with fail
        (with_reducible refine Calls.mono RD.out ?_)
        rintro e w2 ⟨nm, fam, mk, q, rfl, hlc, hb2⟩
        have HB2 := Lib.hid hb2
        have HC2 := Lib.hid (HSW.out.trans (hb2.mono HSW.out.size))
        have HLC := Lib.hid (show lineC LL[k] = if q = true then some ⟨nm, fam, mk⟩ else none by rw [HWS.out]; exact hlc)
        clear RD hlc hb2 hc1
        cases q with
        | false =>
          have HF := Lib.hid (fun (w' : World) (hb : Below w.heap.size w w') => parse_bad (HS.out.form hlt H0.out HLC.out) w w' hb)
          go_wp2
          go_ret3
          exact HF.out _ (HC2.out.alloc HC2.out.size _)
        | true =>
          have hW3 : Below w2.heap.size w2 (w2.alloc (.cells #[.string nm, .int .i64 fam, .int .i64 mk] 31)) := (Below.refl _ _).alloc (Nat.le_refl _) _
          have HLS := Lib.hid (show lineC LL[k] = some ⟨nm, fam, mk⟩ from HLC.out)
          have FD := Lib.hid (find_any pv acc cv nm (w2.alloc (.cells #[.string nm, .int .i64 fam, .int .i64 mk] 31)) ((HRV.out.below HB2.out).below hW3))
          unfold IntGive at FD
          obtain ⟨f, ef⟩ : ∃ f, find acc nm = f := ⟨_, rfl⟩
          rw [ef] at FD
          have HW3 := Lib.hid hW3
          clear HLC hW3
          cases hh : has acc nm with
          | true =>
            have hf : (0 : Int) ≤ f := by have := find_not hh; rw [ef] at this; simpa using this
            have HF := Lib.hid (fun (w' : World) (hb : Below w.heap.size w w') => parse_bad (HS.out.twice hlt H0.out HLS.out hh) w w' hb)
            clear ef hh
            go_wp2_with (first | (go_at_call 12; (with_reducible refine Calls.mono FD.out ?_); rintro e w4 ⟨rfl, hb4⟩))
            go_ret3
            exact HF.out _ (bstep (Nat.le_refl _) (bstep (Nat.le_refl _) HC2.out HW3.out) hb4)
          | false =>
            have hf : ¬ (0 : Int) ≤ f := by have := find_not hh; rw [ef] at this; simpa using this
            clear ef
            by_cases h40 : acc.length = 40
            · have HF := Lib.hid (fun (w' : World) (hb : Below w.heap.size w w') => parse_bad (HS.out.many hlt H0.out HLS.out hh h40) w w' hb)
              have h4 : ((acc.length : Int) == 40) = true := by rw [h40]; rfl
              clear hh h40
              go_wp2_with (first | (go_at_call 12; (with_reducible refine Calls.mono FD.out ?_); rintro e w4 ⟨rfl, hb4⟩))
              go_ret3
              exact HF.out _ (bstep (Nat.le_refl _) (bstep (Nat.le_refl _) HC2.out HW3.out) hb4)
            · have h4 : ((acc.length : Int) == 40) = false := by simp; omega
              have HMO := Lib.hid (fun (w' : World) (v' : Value) (hO : OwnR SC w' 31 w1.heap.size v' (acc ++ [⟨nm, fam, mk⟩])) (hb : Below w1.heap.size w1 w') => HS.out.more hlt H0.out HLS.out hh h40 hO hb)
              have C3 := Lib.hid (World.cell?_alloc_new w2 #[.string nm, .int .i64 fam, .int .i64 mk] 31)
              have HOW := Lib.hid HS.out.own
              have HB4 := Lib.hid (show Below wo.heap.size wo (w2.alloc (.cells #[.string nm, .int .i64 fam, .int .i64 mk] 31)) from bstep (Nat.le_refl _) HB2.out HW3.out)
              have HSB := Lib.hid HS.out.below
              have hsw := HS.out.below.size
              clear hh h40
              go_wp2_with (first
                | (go_at_call 12; (with_reducible refine Calls.mono FD.out ?_); rintro e w4 ⟨rfl, hb4⟩; have A4 := bstep (Nat.le_refl _) HB4.out hb4; have g0 := (hb4.cell (p := ⟨w2.heap.size, 0, none⟩) (by simp)).trans (C3.out 0); have g1 := (hb4.cell (p := ⟨w2.heap.size, 1, none⟩) (by simp)).trans (C3.out 1); have g2 := (hb4.cell (p := ⟨w2.heap.size, 2, none⟩) (by simp)).trans (C3.out 2))
                | (at_builtin; (refine OwnR.append el_crp rfl (.tmp 54) (.tmp 56) rfl w1.heap.size _ acc ⟨nm, fam, mk⟩ #[.string nm, .int .i64 fam, .int .i64 mk] rfl (HOW.out.below A4) rfl (by simp [Act.eval]) (Nat.le_trans hsw A4.size) (by omega) (by decide) ?_); intro v5 w5 hO5 hap5)
                | fail)
              have HN := Lib.hid (HMO.out w5 v5 hO5 ((HSB.out.trans (A4.mono hsw)).trans hap5.below))
              go_wp2
              go_roundw
              case rel => exact ⟨k + 1, _, by omega, by go_num, HN.out⟩
              case measure => simp [intOf]; omega
    · obtain rfl : k = LL.length := by omega
      have ST := Lib.hid (sort_any wo w1.heap.size cv acc.length pv acc rfl HS.out.own HS.out.below.size (by omega))
      have HF := Lib.hid (fun (M : List Crp) (w' : World) (h1 : M.Perm acc) (h2 : M.Pairwise fun a b => Cr.lt b.nm a.nm = false) (h3 : Crops w' pv M) (h4 : Below w1.heap.size wo w') => show ParseGive (prsA [] 0 LL) w (.returned (.tuple #[.slice pv acc.length cv, .int .i64 0, .int .i64 0])) w' from by
        have e := HS.out.fin h1 h2
        rw [e]
        exact ⟨pv, cv, by rw [h1.length_eq], h3, HSW.out.trans (h4.mono HB1.out.size)⟩)
      clear hb
      go_wp2_with (first | (go_at_call 38; (with_reducible refine Calls.mono ST.out ?_); rintro e w2 ⟨rfl, M, h1, h2, h3, h4⟩))
      go_ret3
      exact HF.out M _ h1 h2 h3 h4

end Go.Proofs.YtcghhagnibabeaaGreatDoor
