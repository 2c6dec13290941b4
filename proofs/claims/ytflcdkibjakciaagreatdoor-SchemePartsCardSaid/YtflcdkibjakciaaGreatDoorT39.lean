/-
  THE WALK over scheme.Parse.
-/
import Derived.Test.YtflcdkibjakciaaGreatDoorM27
namespace Go.Proofs.YtflcdkibjakciaaGreatDoor
open Go.RowKit Te Sc

/-- What the reading of a law leaves. -/
def ParseG17 (R : List Sch × Int × Int) (w : World) (e : Ending) (w' : World) : Prop := ∃ p c d, e = .returned (.tuple #[.slice p R.1.length c, .int .i64 R.2.1, .int .i64 R.2.2]) ∧ SsAt (fun b => w.heap.size ≤ b) w' d p R.1 ∧ R.1.length ≤ c ∧ Below w.heap.size w w'

theorem ParseG17.bad {R : List Sch × Int × Int} {n er : Int} (h : R = ([], n, er)) (w w' : World) (hb : Below w.heap.size w w') : ParseG17 R w (.returned (.tuple #[.slice none 0 0, .int .i64 n, .int .i64 er])) w' := by
  subst h
  exact ⟨none, 0, 0, rfl, SsAt.nil _ _ _ _, Nat.le_refl _, hb⟩

theorem BldAt.ss {B : Nat} {wr : World} {v : Value} {L : List Sch} (h : BldAt B wr v L) {n : Nat} (hn : L.length = n) : ∃ p c d, v = .slice p n c ∧ n ≤ c ∧ SsAt (fun b => B ≤ b) wr d p L := by
  rcases h with ⟨rfl, h2⟩ | ⟨A, s, rfl, h2⟩
  · obtain ⟨p, c, e, -, -, h3, -, -⟩ := h2.cut (show ([] : List RSx).length = n from hn)
    exact ⟨p, c, 0, e, h3, SsAt.nil _ _ _ _⟩
  · exact h2.ss hn

theorem lb_sLines {s : ByteArray} : lb (sLines s) = Wo.sList s.data.toList := lb_bw _

theorem lb_drop {LL : List (List ByteArray)} {k : Nat} (hk : k < LL.length) : (lb LL).drop k = ll LL[k] :: (lb LL).drop (k + 1) := by
  unfold lb ll
  rw [List.drop_eq_getElem_cons (by rw [List.length_map]; exact hk), List.getElem_map]

theorem prs_skip {st : PS} {k : Nat} {w : List (List UInt8)} {r : List (List (List UInt8))} (h : w = []) : prs st k (w :: r) = prs st (k + 1) r := by rw [prs, if_pos h]
theorem prs_ok {st st2 : PS} {k : Nat} {w : List (List UInt8)} {r : List (List (List UInt8))} (h : w ≠ []) (h2 : stepP st w = .inl st2) : prs st k (w :: r) = prs st2 (k + 1) r := by rw [prs, if_neg h, h2]
theorem prs_bad {st : PS} {k : Nat} {w : List (List UInt8)} {r : List (List (List UInt8))} {er : Int} (h : w ≠ []) (h2 : stepP st w = .inr er) : prs st k (w :: r) = ([], (k : Int) + 1, er) := by rw [prs, if_neg h, h2]

set_option maxRecDepth 100000 in
set_option maxHeartbeats 8000000 in
theorem parse17_any (s : ByteArray) (w : World) (hE : Env w) (hs : s.size ≤ 9223372036854775807) : Calls Tryz.prog 15 #[.string s] w (ParseG17 (parse17 s.data.toList) w) := by
  have SP := Lib.hid (split_any s w hE hs)
  unfold SplitGive at SP
  obtain ⟨er, eer⟩ : ∃ x, Wo.sErr s.data.toList = x := ⟨_, rfl⟩
  rw [eer] at SP
  obtain ⟨R, eR⟩ : ∃ R, parse17 s.data.toList = R := ⟨_, rfl⟩
  rw [eR]
  by_cases he : er = 0
  rotate_left
  · have HF := Lib.hid (fun (w' : World) (hb : Below w.heap.size w w') => ParseG17.bad (show R = ([], 0, er) by rw [← eR]; unfold parse17; rw [if_neg (by rw [eer]; exact he), eer]) w w' hb)
    have hne : (er != 0) = true := by simpa using he
    clear hE hs he eer eR
    go_enter Tryz.func15, Tryz.ntmps15
    go_wp2_with (first | (go_at_call 42; (with_reducible refine Calls.mono SP.out ?_); rintro e w1 ⟨p, c, rfl, hL, hp, hb1⟩))
    go_ret3
    exact HF.out _ hb1
  subst he
  have HW := Lib.hid (fun (ws : List ByteArray) (h : ws ∈ sLines s) (x : ByteArray) (hx : x ∈ ws) => (word_of_text eer h hx).1)
  have hll := lines_count eer
  have hR0 : R = prs ps0 0 (lb (sLines s)) := by rw [← eR, lb_sLines]; unfold parse17; rw [if_pos eer]
  obtain ⟨LL, eLL⟩ : ∃ x, sLines s = x := ⟨_, rfl⟩
  rw [eLL] at SP HW hll hR0
  have hl4 : LL.length ≤ 400 := by omega
  have HE := Lib.hid hE
  have HR0 := Lib.hid hR0
  have hwl : ∀ ws ∈ LL, ws.length ≤ 1000000 := fun ws hws => by
    rw [← eLL] at hws
    unfold sLines at hws
    obtain ⟨v, hv, rfl⟩ := List.mem_map.1 hws
    rw [List.length_map]
    unfold Wo.sList at hv
    rw [if_pos eer] at hv
    obtain ⟨l, hl, rfl⟩ := List.mem_map.1 hv
    have h1 := lnsA_sub _ _ _ hl
    have h2 : l.length ≤ 16384 := by
      have := h1.length_le
      rw [List.nil_append, size_len] at this
      omega
    unfold Wo.wds
    have h3 := List.length_filter_le (fun x => decide (x ≠ [])) (Wo.pcs 32 [] (l.takeWhile fun x => x != 35))
    have h4 := Wo.pcs_len 32 (l.takeWhile fun x => x != 35) []
    have h5 := (List.takeWhile_sublist (fun x => x != 35) (l := l)).length_le
    omega
  have HWL := Lib.hid hwl
  clear eLL eer hE hs eR hR0 hll hwl
  go_enter Tryz.func15, Tryz.ntmps15
  go_wp2_with (first | (go_at_call 42; (with_reducible refine Calls.mono SP.out ?_); rintro e w1 ⟨p, c, rfl, hL, hp, hb1⟩; have HL := Lib.hid hL; have HB1 := Lib.hid hb1; clear hL hp hb1) | fail)
  clear SP
  obtain ⟨t, et⟩ : ∃ t, w1.heap.size = t := ⟨_, rfl⟩
  have ht16 : gtop < t := by have := HB1.out.size; have := HE.out.top; omega
  have hwt : w.heap.size ≤ t := by have := HB1.out.size; omega
  obtain ⟨W2, eW2⟩ : ∃ W : World, w1.alloc (.cells #[.slice none 0 0, .int .i64 0] 76) = W := ⟨_, rfl⟩
  have RD0 := Lib.hid (show RdrAt W2 t ps0.out 0 from by
    rw [← et, ← eW2]
    exact ⟨⟨_, World.cell?_alloc_new w1 #[.slice none 0 0, .int .i64 0] 76 0, .inl ⟨rfl, OwnR.nil _ _ _⟩⟩, World.cell?_alloc_new w1 #[.slice none 0 0, .int .i64 0] 76 1, fun i => by simp, by simp⟩)
  have HB2 := Lib.hid (show Below t w1 W2 from by rw [← et, ← eW2]; exact (Below.refl _ _).alloc (Nat.le_refl _) _)
  rw [et, eW2]
  have HET := Lib.hid et
  clear eW2 et
  go_loopw [6, 8, 27] (fun e nx i wr => ∃ (k : Nat) (st : PS) (l : Int), k ≤ LL.length ∧ i = .int .i64 k ∧ e = .int .i64 0 ∧ nx = stF (fnS st.state) t ∧ GoodS k st ∧ RdrAt wr t st.out l ∧ (st.state ≠ 0 → l = st.last) ∧ Below t w1 wr ∧ R = prs st k ((lb LL).drop k)) (fun _ _ i _ => LL.length - (intOf i).toNat)
  case atStart => exact ⟨0, ps0, 0, Nat.zero_le _, rfl, rfl, rfl, good0, RD0.out, fun h => absurd rfl h, HB2.out, by rw [List.drop_zero]; exact HR0.out⟩
  case round =>
    obtain ⟨wo, rfl⟩ : ∃ wo : World, wo = wr := ⟨_, rfl⟩
    obtain ⟨k, st, l, hk, rfl, rfl, rfl, hgd, hrd, hlst, hb, hR⟩ := hrel
    have HGD := Lib.hid hgd
    have HRD := Lib.hid hrd
    have HLS := Lib.hid hlst
    have HBO := Lib.hid hb
    have HRR := Lib.hid hR
    have HEO := Lib.hid ((HE.out.below HB1.out).belowB hb ht16)
    have hk0 : (0 : Int) ≤ (k : Int) := Int.natCast_nonneg _
    have HBW := Lib.hid (HB1.out.trans (hb.mono hwt))
    by_cases hlt : k < LL.length
    · have hk1 : (k : Int) < (LL.length : Int) := by omega
      obtain ⟨b, off, q, n, cc, rfl, hbl, hcell, hn, hrec, hnn, hle⟩ := (HL.out.below (HET.out.symm ▸ hb)).at hlt
      have hkw : IntKind.i64.wrap ((k : Int) + 1) = (k : Int) + 1 := by rw [IntKind.wrap_i64]; omega
      have HLD := Lib.hid (lb_drop hlt)
      obtain ⟨ws, ews⟩ : ∃ ws, LL[k] = ws := ⟨_, rfl⟩
      rw [ews] at hn hrec HLD
      have HMW := Lib.hid (show ws ∈ LL from ews ▸ List.getElem_mem hlt)
      cases ws with
      | nil =>
        obtain rfl : n = 0 := hn
        have HN := Lib.hid (show R = prs st (k + 1) ((lb LL).drop (k + 1)) from by rw [HRR.out, HLD.out]; exact prs_skip rfl)
        clear hgd hrd hlst hb hR hrec ews
        unfold stF
        go_wp2
        go_roundw
        case rel => exact ⟨k + 1, st, l, by omega, by go_num, rfl, rfl, HGD.out.mono, HRD.out, HLS.out, HBO.out, HN.out⟩
        case measure => simp [intOf]; omega
      | cons x r =>
        have hrl : r.length ≤ 1000000 := by have := HWL.out _ HMW.out; rw [List.length_cons] at this; omega
        have CS := Lib.hid (step17_any t st l q x r n cc wo hgd (by omega) hn.symm ⟨hrec, by rw [← hn]; exact hle, hnn⟩ (fun y hy => HW.out _ HMW.out y hy) hrl HEO.out hrd hlst ht16)
        have hzn : ((n : Int) == 0) = false := by rw [hn, List.length_cons]; exact beq_eq_false_iff_ne.2 (by omega)
        have HGS := Lib.hid (fun st2 (h : stepP st (ll (x :: r)) = .inl st2) => hgd.step (w := ll (x :: r)) (by simp [ll]) (fun y hy => by
          unfold ll at hy
          obtain ⟨z, hz, rfl⟩ := List.mem_map.1 hy
          rw [size_len]
          exact HW.out _ HMW.out z hz) h)
        have hF : fnS st.state = 43 ∨ fnS st.state = 86 ∨ fnS st.state = 117 ∨ fnS st.state = 142 ∨ fnS st.state = 159 := by
          unfold fnS
          split <;> simp
        obtain ⟨F, eF⟩ : ∃ F, fnS st.state = F := ⟨_, rfl⟩
        rw [eF] at CS hF ⊢
        obtain ⟨o, eo⟩ : ∃ o, stepP st (ll (x :: r)) = o := ⟨_, rfl⟩
        have EO := Lib.hid eo
        rw [eo] at CS
        have hwne : ll (x :: r) ≠ [] := by simp [ll]
        cases o with
        | inl st2 =>
          have HN := Lib.hid (show R = prs st2 (k + 1) ((lb LL).drop (k + 1)) from by rw [HRR.out, HLD.out]; exact prs_ok hwne eo)
          have HG2 := Lib.hid (HGS.out st2 eo)
          clear hgd hrd hlst hb hR hrec ews eF eo hn
          unfold StepG StG at CS
          simp only at CS
          unfold stF at CS ⊢
          rcases hF with rfl | rfl | rfl | rfl | rfl
          all_goals
            go_wp2_with (first | ((with_reducible refine Calls.mono CS.out ?_); rintro e w5 ⟨rfl, hr5, hb5⟩; have HR5 := Lib.hid hr5; have HB5 := Lib.hid (HBO.out.trans hb5); clear hr5 hb5) | fail)
            go_roundw
            case rel => exact ⟨k + 1, st2, st2.last, by omega, by go_num, rfl, rfl, HG2.out, HR5.out, fun _ => rfl, HB5.out, HN.out⟩
            case measure => simp [intOf]; omega
        | inr er =>
          have hne : (er != 0) = true := by have := step_err hwne eo; simp; omega
          have HF := Lib.hid (fun (w' : World) (hb : Below w.heap.size w w') => ParseG17.bad (show R = ([], (k : Int) + 1, er) from by rw [HRR.out, HLD.out]; exact prs_bad hwne eo) w w' hb)
          clear hgd hrd hlst hb hR hrec ews eF eo hn
          unfold StepG StE at CS
          simp only at CS
          unfold stF
          rcases hF with rfl | rfl | rfl | rfl | rfl
          all_goals
            go_wp2_with (first | ((with_reducible refine Calls.mono CS.out ?_); rintro e w5 ⟨⟨f5, rfl⟩, hb5⟩; have HB5 := Lib.hid (HBW.out.trans (hb5.mono hwt)); clear hb5) | fail)
            go_ret3
            exact HF.out _ HB5.out
    · obtain rfl : k = LL.length := by omega
      have hdl : (lb LL).drop LL.length = [] := List.drop_of_length_le (by unfold lb; rw [List.length_map]; exact Nat.le_refl _)
      rw [hdl] at hR
      have hkw : IntKind.i64.wrap ((LL.length : Int) + 1) = (LL.length : Int) + 1 := by rw [IntKind.wrap_i64]; omega
      by_cases h12 : st.state = 1 ∨ st.state = 2
      · obtain ⟨A, s0, ho⟩ := snoc_of (hgd.some (by omega))
        have hA := hgd.len
        have DN := Lib.hid (done17_snoc t A s0 l wo (ho ▸ hrd) (by rw [ho, List.length_append] at hA; simp at hA; omega))
        rw [decide_eq_false (by rw [hgd.few h12 A s0 ho]; simp)] at DN
        have HF := Lib.hid (fun (w' : World) (hb : Below w.heap.size w w') => ParseG17.bad (show R = ([], (LL.length : Int) + 1, 4) from by rw [hR, prs, if_pos h12]) w w' hb)
        clear hgd hrd hlst hb hR hdl ho hA h12
        unfold stF
        go_wp2_with (first | (go_at_call 44; (with_reducible refine Calls.mono DN.out ?_); rintro e w5 ⟨rfl, hb5⟩; have HB5 := Lib.hid (bstep (Nat.le_refl _) HBW.out hb5); clear hb5) | fail)
        go_ret3
        exact HF.out _ HB5.out
      · have hR2 : R = if (chk17 st.out).2 ≠ 0 then ([], 0, (chk17 st.out).2) else (st.out, 0, 0) := by rw [hR, prs, if_neg h12]
        have DN : Calls Tryz.prog 44 #[.pointer (some ⟨t, 0, none⟩)] wo (BoolG true wo) := by
          by_cases h0 : st.state = 0
          · exact done17_nil t l wo (hgd.zero h0 ▸ hrd)
          · obtain ⟨A, s0, ho⟩ := snoc_of (hgd.some h0)
            have hA := hgd.len
            have := done17_snoc t A s0 l wo (ho ▸ hrd) (by rw [ho, List.length_append] at hA; simp at hA; omega)
            rwa [decide_eq_true (hgd.more (by omega) A s0 ho)] at this
        have DN := Lib.hid DN
        obtain ⟨v, c0, hbld⟩ := hrd.v
        have htl := hrd.lt
        obtain ⟨n, en⟩ : ∃ n, st.out.length = n := ⟨_, rfl⟩
        obtain ⟨q, cc, d, rfl, hcc, hss⟩ := hbld.ss en
        have HSS := Lib.hid hss
        have HZ := Lib.hid (fun s (hs : s ∈ st.out) => show s.nm.size ≤ 9223372036854775807 from by have := (hgd.each s hs).2.1; omega)
        have CK := Lib.hid (fun (W : World) (hW : Below wo.heap.size wo W) => show Calls Tryz.prog 18 #[.slice q n cc] W (ChkG (chk17 st.out) W) from en ▸ check17_any d q st.out cc W (hss.below hW) HZ.out (by rw [en]; exact hcc))
        unfold ChkG at CK
        obtain ⟨L, eL⟩ : ∃ L, st.out = L := ⟨_, rfl⟩
        rw [eL] at CK hR2 HSS en
        obtain ⟨⟨ci, er⟩, ec⟩ : ∃ x, chk17 L = x := ⟨_, rfl⟩
        rw [ec] at CK hR2
        simp only at hR2
        have C0 := Lib.hid c0
        clear hgd hrd hlst hb hR hdl hbld hss eL ec c0 h12
        by_cases he : er = 0
        rotate_left
        · rw [if_pos he] at hR2
          have hne : (er != 0) = true := by simpa using he
          have HF := Lib.hid (fun (w' : World) (hb : Below w.heap.size w w') => ParseG17.bad (show R = ([], 0, er) from hR2) w w' hb)
          clear he hR2
          unfold stF
          go_wp2_with (first
            | (go_at_call 44; (with_reducible refine Calls.mono DN.out ?_); rintro e w5 ⟨rfl, hb5⟩; have HB5 := Lib.hid (bstep (Nat.le_refl _) HBW.out hb5); have CK5 := Lib.hid (CK.out _ hb5); have c5 := (hb5.cell (p := ⟨t, 0, none⟩) htl).trans C0.out; clear hb5)
            | (go_at_call 18; (with_reducible refine Calls.mono CK5.out ?_); rintro e w6 ⟨rfl, hb6⟩; have HB6 := Lib.hid (bstep (Nat.le_refl _) HB5.out hb6); clear hb6)
            | fail)
          go_ret3
          exact HF.out _ HB6.out
        · subst he
          rw [if_neg (by simp)] at hR2
          have HF := Lib.hid (fun (w' : World) (hb2 : Below wo.heap.size wo w') (hb : Below w.heap.size w w') => show ParseG17 R w (.returned (.tuple #[.slice q n cc, .int .i64 0, .int .i64 0])) w' from by
            subst hR2
            refine ⟨q, cc, d, by rw [en], ?_, by rw [en]; exact hcc, hb⟩
            exact (HSS.out.below hb2).change (Nat.le_refl _) fun b hq _ => ⟨rfl, by omega⟩)
          clear hR2
          unfold stF
          go_wp2_with (first
            | (go_at_call 44; (with_reducible refine Calls.mono DN.out ?_); rintro e w5 ⟨rfl, hb5⟩; have HB5 := Lib.hid (bstep (Nat.le_refl _) HBW.out hb5); have CK5 := Lib.hid (CK.out _ hb5); have c5 := (hb5.cell (p := ⟨t, 0, none⟩) htl).trans C0.out; have HO5 := Lib.hid hb5; clear hb5)
            | (go_at_call 18; (with_reducible refine Calls.mono CK5.out ?_); rintro e w6 ⟨rfl, hb6⟩; have HB6 := Lib.hid (bstep (Nat.le_refl _) HB5.out hb6); have HO6 := Lib.hid (bstep (Nat.le_refl _) HO5.out hb6); have c6 := (HO6.out.cell (p := ⟨t, 0, none⟩) htl).trans C0.out; clear hb6)
            | fail)
          go_ret3
          exact HF.out _ HO6.out HB6.out

end Go.Proofs.YtflcdkibjakciaaGreatDoor
