/-
  THE WALK over ref39.Waive.
-/
import Derived.Test.YtdnddikchchdkaaD22
import Derived.Test.YtdnddikchchdkaaD17
namespace Go.Proofs.Ytdnddikchchdkaa
open Go.RowKit

set_option maxRecDepth 100000 in
set_option maxHeartbeats 8000000 in
theorem refwaive39_any (farm next : Int) (p : Option Addr) (L : List De.Dbt) (cap : Nat) (n amount : Int) (w : World) (h : Debts w p L) (hc : p = none → cap = 0) (hl : L.length ≤ 1000000) (am : -9223372036854775808 ≤ amount ∧ amount ≤ 9223372036854775807) :
    Calls Try.prog 41 #[accV farm p L.length cap next, .int .i64 n, .int .i64 amount] w (WGive w farm p (De.wList farm L next n amount) next (De.wErr farm L next n amount)) := by
  have hn := h.len
  have hb1 : Below w.heap.size w ((w.alloc (Obj.cells #[.int .i64 farm, .slice p L.length cap, .int .i64 next] 42)).alloc (Obj.cells #[.int .i64 0, .slice none 0 0, .int .i64 0] 42)) := ((Below.refl w.heap.size w).alloc (Nat.le_refl _) _).alloc (by simp) _
  have B1 := Lib.hid hb1
  have h1 := h.below hb1
  have CK := Lib.hid (fun (W : World) (hW : Debts W p L) => refcheck39_any farm next p L cap W hW)
  have H1 := Lib.hid h1
  have HC := Lib.hid hc
  have H0 := Lib.hid h
  have hbx : BoxA ((w.alloc (Obj.cells #[.int .i64 farm, .slice p L.length cap, .int .i64 next] 42)).alloc (Obj.cells #[.int .i64 0, .slice none 0 0, .int .i64 0] 42)) w.heap.size farm p L.length cap next := (BoxA.new w farm p L.length cap next 42).below ((Below.refl _ _).alloc (Nat.le_refl _) _) (by simp)
  have hrx : BoxA ((w.alloc (Obj.cells #[.int .i64 farm, .slice p L.length cap, .int .i64 next] 42)).alloc (Obj.cells #[.int .i64 0, .slice none 0 0, .int .i64 0] 42)) (w.heap.size + 1) 0 none 0 0 0 := by
    have := BoxA.new (w.alloc (Obj.cells #[.int .i64 farm, .slice p L.length cap, .int .i64 next] 42)) 0 none 0 0 0 42
    rw [World.size_alloc] at this
    exact this
  have BX := Lib.hid hbx
  have RX := Lib.hid hrx
  unfold accV at CK
  unfold accV
  obtain ⟨am1, am2⟩ := am
  by_cases hR : De.Right farm L next
  rotate_left
  · obtain ⟨e, v⟩ := w_bad (n := n) (amount := amount) (De.chk_bad hR)
    rw [e, v]
    rw [De.chk_bad hR] at CK
    clear e v h hc h1 hb1 hbx hrx hR
    go_enter Try.func41, Try.ntmps41
    go_wp2_with (first | (go_at_call 36; refine Calls.mono (CK.out _ H1.out) ?_; rintro e w2 ⟨rfl, hb2⟩; have BX2 := Lib.hid (BX.out.below hb2 BX.out.lt); have RX2 := Lib.hid (RX.out.below hb2 RX.out.lt); have H2 := Lib.hid (H1.out.below hb2); have BB2 := Lib.hid (B1.out.trans (hb2.mono (by simp <;> omega))); obtain ⟨b0, b1, b2, -, -, -, blt⟩ := BX2.out; obtain ⟨r0, r1, r2, rg0, rg1, rg2, rlt⟩ := RX2.out))
    exact bodyPost_ret (v := .tuple #[.agg #[.int .i64 farm, .slice p L.length cap, .int .i64 next], .int .i64 22]) (by simp [results, Try.results41, go_sem, r0, r1, r2]) rfl ⟨_, _, rfl, lies_back H0.out HC.out BB2.out _ _ _⟩
  · rw [De.chk_ok hR] at CK
    have R := Lib.hid hR
    have WN := Lib.hid (fun hh => w_none (n := n) (amount := amount) hR hh)
    have WF := Lib.hid (fun (k : Nat) (hk : k < L.length) (hn : (De.g L k).num = n) => w_found (amount := amount) hR hk hn)
    have CP := Lib.hid (fun W (hW : Debts W p L) => copied39_any farm next p L cap W hW hc hl)
    have hl40 := hR.len
    unfold accV at CP
    clear h hc h1 hb1 hbx hrx hR
    go_enter Try.func41, Try.ntmps41
    go_wp2_with (first | (go_at_call 36; refine Calls.mono (CK.out _ H1.out) ?_; rintro e w2 ⟨rfl, hb2⟩; have BX2 := Lib.hid (BX.out.below hb2 BX.out.lt); have RX2 := Lib.hid (RX.out.below hb2 RX.out.lt); have H2 := Lib.hid (H1.out.below hb2); have BB2 := Lib.hid (B1.out.trans (hb2.mono (by simp <;> omega))); obtain ⟨b0, b1, b2, -, -, -, blt⟩ := BX2.out; obtain ⟨r0, r1, r2, rg0, rg1, rg2, rlt⟩ := RX2.out))
    obtain ⟨wz, rfl⟩ : ∃ wz : World, wz = w2 := ⟨_, rfl⟩
    go_loop [9] (fun i => ∃ k : Nat, k ≤ L.length ∧ i = .int .i64 k ∧ ∀ j, j < k → (De.g L j).num ≠ n) (fun i => L.length - (intOf i).toNat)
    case atStart => exact ⟨0, Nat.zero_le _, rfl, fun j hj => absurd hj (Nat.not_lt_zero j)⟩
    case round =>
      obtain ⟨k, hk, rfl, hall⟩ := hrel
      have HA := Lib.hid hall
      clear hall
      by_cases hlt : k < L.length
      · obtain ⟨b, off, d, ep, hbl, hD, hd⟩ := SD_at H2.out hlt
        have EP := Lib.hid ep
        subst ep
        obtain ⟨c0, c1, c2, c3, c4⟩ := hD
        have hgood := (R.out.each _ (De.g_mem hlt)).2.2
        rw [hd.out] at hgood
        have hl0 : 1 ≤ d.left ∧ d.left ≤ 68719476736 := by unfold De.good at hgood; omega
        obtain ⟨hl1, hl2⟩ := hl0
        have hk0 : (0 : Int) ≤ (k : Int) := Int.natCast_nonneg _
        have hk1 : (k : Int) < (L.length : Int) := by omega
        clear hgood
        by_cases hnum : d.num = n
        · have hB : (d.num != n) = false := by rw [hnum]; simp
          have WK := WF.out k hlt (by rw [hd.out]; exact hnum)
          rw [hd.out] at WK
          have WKH := Lib.hid WK
          clear WK hnum
          by_cases ha1 : amount < 1
          · have EV := Lib.hid (WKH.out.1 (.inl ha1))
            go_wp2
            rw [EV.out.1, EV.out.2]
            exact bodyPost_ret (v := .tuple #[.agg #[.int .i64 farm, .slice (some ⟨b, off, none⟩) L.length cap, .int .i64 next], .int .i64 67]) (by simp [results, Try.results41, go_sem, r0, r1, r2]) rfl ⟨_, _, rfl, lies_back H0.out HC.out BB2.out _ _ _⟩
          by_cases ha2 : d.left < amount
          · have EV := Lib.hid (WKH.out.1 (.inr ha2))
            go_wp2
            rw [EV.out.1, EV.out.2]
            exact bodyPost_ret (v := .tuple #[.agg #[.int .i64 farm, .slice (some ⟨b, off, none⟩) L.length cap, .int .i64 next], .int .i64 67]) (by simp [results, Try.results41, go_sem, r0, r1, r2]) rfl ⟨_, _, rfl, lies_back H0.out HC.out BB2.out _ _ _⟩
          · have EV := Lib.hid (WKH.out.2 (by omega))
            go_wp2_with fail
            go_at_call 72
            refine Calls.mono (CP.out _ H2.out) ?_
            rintro e w4 ⟨p1, cc1, rfl, hO1, hb4⟩
            have hs4 := hb4.size
            have hw2 : w.heap.size + 1 < wz.heap.size := RX2.out.lt
            obtain ⟨p1', c1', ee, -, -, hMc, hcm, -⟩ := hO1.cut rfl
            cases ee
            obtain ⟨g, eg, -, hBg, hgl, hD, hfz, -⟩ := SD_put hO1 hlt
            subst eg
            rw [hd.out] at hD
            have hba := (Below.refl w4.heap.size w4).alloc (Nat.le_refl _) (Obj.cells #[.int .i64 farm, .slice (some ⟨g, 0, none⟩) L.length cc1, .int .i64 next] 42)
            have O5 := Lib.hid (hO1.below hba)
            have RX4 := RX2.out.below hb4 RX2.out.lt
            have R5 := Lib.hid (RX4.below hba RX4.lt)
            have X5 := Lib.hid (BoxA.new w4 farm (some ⟨g, 0, none⟩) L.length cc1 next 42)
            have B5 := Lib.hid (balloc (Nat.le_refl _) (bstep (Nat.le_refl _) BB2.out hb4) (Obj.cells #[.int .i64 farm, .slice (some ⟨g, 0, none⟩) L.length cc1, .int .i64 next] 42))
            have f4 := hfz (k * 5 + 4)
            clear c0 c1 c2 c3 c4 b0 b1 b2 blt r0 r1 r2 rg0 rg1 rg2 rlt
            have hD5 := hD.below hba hgl
            have hgo : g ≠ w4.heap.size := by omega
            have hgo2 : w4.heap.size ≠ g := by omega
            have hgr : g ≠ w.heap.size + 1 := by omega
            have hgr2 : w.heap.size + 1 ≠ g := by omega
            have hn3 : w4.heap.size ≠ w.heap.size + 1 := by omega
            have hn4 : w.heap.size + 1 ≠ w4.heap.size := by omega
            have hset : OwnR SD ((w4.alloc (Obj.cells #[.int .i64 farm, .slice (some ⟨g, 0, none⟩) L.length cc1, .int .i64 next] 42)).setCell ⟨g, k * 5 + 4, none⟩ (.int .i64 (d.left - amount))) 49 wz.heap.size (.slice (some ⟨g, 0, none⟩) L.length cc1) (L.set k { d with left := d.left - amount }) := by
              obtain ⟨g', e, -, -, -, -, -, hs⟩ := O5.out.at hlt
              cases e
              refine hs 4 (.int .i64 (d.left - amount)) _ (by decide) ?_
              rw [← De.g_eq hlt, hd.out]
              rfl
            have HSET := Lib.hid hset
            have X7 := Lib.hid (X5.out.other (g := g) (i := k * 5 + 4) hgo (.int .i64 (d.left - amount)))
            have R7 := Lib.hid (R5.out.other (g := g) (i := k * 5 + 4) hgr (.int .i64 (d.left - amount)))
            have B7 := Lib.hid (B5.out.setCell (p := ⟨g, k * 5 + 4, none⟩) (by show w.heap.size ≤ g; omega) (.int .i64 (d.left - amount)))
            unfold accV
            go_upto_region 11 with (fail)
            have hz5 : w4.heap.size < (w4.alloc (Obj.cells #[.int .i64 farm, .slice (some ⟨g, 0, none⟩) L.length cc1, .int .i64 next] 42)).heap.size := by simp
            have f5 : (w4.alloc (Obj.cells #[.int .i64 farm, .slice (some ⟨g, 0, none⟩) L.length cc1, .int .i64 next] 42)).frozen? ⟨g, k * 5 + 4, none⟩ = false := (hba.frozen (p := ⟨g, k * 5 + 4, none⟩) hgl).trans f4
            obtain ⟨wq, hwq⟩ : ∃ wq : World, w4.alloc (Obj.cells #[.int .i64 farm, .slice (some ⟨g, 0, none⟩) L.length cc1, .int .i64 next] 42) = wq := ⟨_, rfl⟩
            rw [hwq] at O5 R5 X5 B5 HSET X7 R7 B7 hD5 hz5 f5 ⊢
            clear hwq hset hfz hO1 hb4 hba f4 RX4 hD
            obtain ⟨c0, c1, c2, c3, c4⟩ := hD5
            obtain ⟨o0, o1, o2, og0, og1, og2, olt⟩ := X5.out
            obtain ⟨r0, r1, r2, rg0, rg1, rg2, rlt⟩ := R5.out
            by_cases hz : d.left = amount
            · have hB2 : ((d.left - amount) == 0) = true := beq_iff_eq.2 (by omega)
              have hz0 : d.left - amount = 0 := by omega
              have HZ := Lib.hid hz0
              clear hz0 hz
              have hrec7 : Debts (wq.setCell ⟨g, k * 5 + 4, none⟩ (.int .i64 (d.left - amount))) (some ⟨g, 0, none⟩) (L.set k { d with left := d.left - amount }) := by
                obtain ⟨p', c', e, -, -, -, -, hr⟩ := HSET.out.cut (n := L.length) List.length_set
                cases e
                exact hr
              have dr := drop39_any (some ⟨g, 0, none⟩) (L.set k { d with left := d.left - amount }) cc1 k _ hrec7 (fun h => by cases h) (by rw [List.length_set]; exact hlt) (by rw [List.length_set]; exact hMc) hcm (by rw [List.length_set]; omega)
              rw [set_cut hlt, List.length_set] at dr
              have DR := Lib.hid dr
              have hM' : De.nz (L.set k { d with left := d.left - amount }) = L.take k ++ L.drop (k + 1) := by
                have := nz_drop R.out.fine hlt
                rw [← De.set_upd R.out.asc hlt, hd.out, ← HZ.out] at this
                exact this
              have HM := Lib.hid hM'
              clear dr hrec7 hM'
              go_wp2_with fail
              go_at_call 74
              refine Calls.mono DR.out ?_
              rintro e w8 ⟨p8, c8, rfl, hO8, hb8⟩
              have hs8 : wq.heap.size ≤ w8.heap.size := by have := hb8.size; simpa [World.setCell] using this
              have X8 := Lib.hid (X7.out.below hb8 X7.out.lt)
              have R8 := Lib.hid (R7.out.below hb8 R7.out.lt)
              have B8 := Lib.hid (bstep (Nat.le_refl _) B7.out hb8)
              have hne8 : (Value.slice p8 (L.take k ++ L.drop (k + 1)).length c8).ownBlock ≠ some w4.heap.size := hO8.notBlock (by simp [World.setCell]; omega)
              have OF := Lib.hid (((hO8.setOther hne8 (.slice p8 (L.take k ++ L.drop (k + 1)).length c8) (i := 1)).mono (B' := wz.heap.size) (by simp [World.setCell]; omega)).setTo (w.heap.size + 1) (by omega) (.int .i64 farm) (.slice p8 (L.take k ++ L.drop (k + 1)).length c8) (.int .i64 next))
              have BF := Lib.hid (bsetTo (B8.out.setCell (p := ⟨w4.heap.size, 1, none⟩) (by show w.heap.size ≤ w4.heap.size; omega) (.slice p8 (L.take k ++ L.drop (k + 1)).length c8)) (w.heap.size + 1) (by omega) (.int .i64 farm) (.slice p8 (L.take k ++ L.drop (k + 1)).length c8) (.int .i64 next))
              clear o0 o1 o2 og0 og1 og2 olt r0 r1 r2 rg0 rg1 rg2 rlt c0 c1 c2 c3 c4 f5 hne8 hO8 hb8
              obtain ⟨o0, o1, o2, og0, og1, og2, olt⟩ := X8.out
              obtain ⟨r0, r1, r2, rg0, rg1, rg2, rlt⟩ := R8.out
              obtain ⟨nn, hnn⟩ : ∃ nn, (L.take k ++ L.drop (k + 1)).length = nn := ⟨_, rfl⟩
              rw [hnn] at OF BF ⊢
              have HNN := Lib.hid hnn
              clear hnn
              go_wp2
              rw [EV.out.1, EV.out.2, HM.out]
              obtain ⟨pz, cz, ez, hzz⟩ := (OF.out.mono (B' := w.heap.size) (by omega)).lies (p0 := some ⟨b, off, none⟩) BF.out
              rw [HNN.out] at ez
              cases ez
              exact bodyPost_ret (v := .tuple #[.agg #[.int .i64 farm, .slice p8 nn c8, .int .i64 next], .int .i64 0]) (by simp [results, Try.results41, go_sem, r0, r1, r2]) rfl ⟨_, _, by unfold accV; rw [HNN.out], hzz⟩
            · have hB2 : ((d.left - amount) == 0) = false := beq_eq_false_iff_ne.2 (by omega)
              have hnz := nz_of_pos (L := L.set k { d with left := d.left - amount }) fun e he => by
                rcases List.mem_or_eq_of_mem_set he with he | rfl
                · exact R.out.fine.pos e he
                · show 1 ≤ d.left - amount; omega
              have HNZ := Lib.hid hnz
              clear hnz hz
              go_wp2
              rw [EV.out.1, EV.out.2, HNZ.out]
              obtain ⟨pz, cz, ez, hzz⟩ := (((show OwnR SD _ _ _ (.slice (some ⟨g, 0, none⟩) (L.set k { d with left := d.left - amount }).length cc1) _ by rw [List.length_set]; exact HSET.out).setTo (w.heap.size + 1) (by omega) (.int .i64 farm) (.slice (some ⟨g, 0, none⟩) L.length cc1) (.int .i64 next)).mono (B' := w.heap.size) (by omega)).lies (p0 := some ⟨b, off, none⟩) (bsetTo B7.out (w.heap.size + 1) (by omega) (.int .i64 farm) (.slice (some ⟨g, 0, none⟩) L.length cc1) (.int .i64 next))
              simp only [List.length_set, Value.slice.injEq, true_and] at ez
              obtain ⟨rfl, rfl⟩ := ez
              exact bodyPost_ret (v := .tuple #[.agg #[.int .i64 farm, (.slice (some ⟨g, 0, none⟩) L.length cc1), .int .i64 next], .int .i64 0]) (by simp [results, Try.results41, go_sem, r0, r1, r2]) rfl ⟨_, _, by unfold accV; simp, hzz⟩
        · have hB : (d.num != n) = true := by simp [hnum]
          have HN := Lib.hid (show (De.g L k).num ≠ n by rw [hd.out]; exact hnum)
          clear hnum
          go_wp2
          go_round
          case rel => exact ⟨k + 1, by omega, by go_num, fun j hj => by
            by_cases e : j = k
            · subst e; exact HN.out
            · exact HA.out j (by omega)⟩
          case measure => simp [intOf]; omega
      · obtain rfl : k = L.length := by omega
        have EV := Lib.hid (WN.out HA.out)
        go_wp2
        rw [EV.out.1, EV.out.2]
        exact bodyPost_ret (v := .tuple #[.agg #[.int .i64 farm, .slice p L.length cap, .int .i64 next], .int .i64 71]) (by simp [results, Try.results41, go_sem, r0, r1, r2]) rfl ⟨_, _, rfl, lies_back H0.out HC.out BB2.out _ _ _⟩

end Go.Proofs.Ytdnddikchchdkaa
