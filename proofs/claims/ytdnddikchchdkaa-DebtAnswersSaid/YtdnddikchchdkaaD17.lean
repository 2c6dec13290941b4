/-
  THE WALK over debt.Waive.
-/
import Derived.Test.YtdnddikchchdkaaD15
namespace Go.Proofs.Ytdnddikchchdkaa
open Go.RowKit

/-- The end of Waive. -/
def WGive (w : World) (farm : Int) (p0 : Option Addr) (L : List De.Dbt) (next er : Int) (e : Ending) (w' : World) : Prop :=
  ∃ p c, e = .returned (.tuple #[accV farm p L.length c next, .int .i64 er]) ∧ Lies w w' p0 p c L

set_option maxRecDepth 100000 in
set_option maxHeartbeats 8000000 in
theorem waive39_any (farm next : Int) (p : Option Addr) (L : List De.Dbt) (cap : Nat) (n amount : Int) (w : World) (h : Debts w p L) (hc : p = none → cap = 0) (hl : L.length ≤ 1000000) (am : -9223372036854775808 ≤ amount ∧ amount ≤ 9223372036854775807) :
    Calls Try.prog 40 #[accV farm p L.length cap next, .int .i64 n, .int .i64 amount] w (WGive w farm p (De.wList farm L next n amount) next (De.wErr farm L next n amount)) := by
  have hn := h.len
  obtain ⟨am1, am2⟩ := am
  have hb1 : Below w.heap.size w (((w.alloc (Obj.cells #[.int .i64 farm, .slice p L.length cap, .int .i64 next] 42)).alloc (Obj.cells #[.int .i64 n] 3)).alloc (Obj.cells #[.int .i64 0, .slice none 0 0, .int .i64 0] 42)) := (((Below.refl w.heap.size w).alloc (Nat.le_refl _) _).alloc (by simp) _).alloc (by simp <;> omega) _
  have B1 := Lib.hid hb1
  have h1 := h.below hb1
  have CL := Lib.hid (clone39_any farm next p L cap (((w.alloc (Obj.cells #[.int .i64 farm, .slice p L.length cap, .int .i64 next] 42)).alloc (Obj.cells #[.int .i64 n] 3)).alloc (Obj.cells #[.int .i64 0, .slice none 0 0, .int .i64 0] 42)) h1 hc hl)
  have CK := Lib.hid (fun (W : World) (hW : Debts W p L) => check39_any farm next p L cap W hW)
  have H1 := Lib.hid h1
  have hbx : BoxA (((w.alloc (Obj.cells #[.int .i64 farm, .slice p L.length cap, .int .i64 next] 42)).alloc (Obj.cells #[.int .i64 n] 3)).alloc (Obj.cells #[.int .i64 0, .slice none 0 0, .int .i64 0] 42)) w.heap.size farm p L.length cap next := (BoxA.new w farm p L.length cap next 42).below (((Below.refl _ _).alloc (Nat.le_refl _) _).alloc (by simp) _) (by simp)
  have hrx : BoxA (((w.alloc (Obj.cells #[.int .i64 farm, .slice p L.length cap, .int .i64 next] 42)).alloc (Obj.cells #[.int .i64 n] 3)).alloc (Obj.cells #[.int .i64 0, .slice none 0 0, .int .i64 0] 42)) (w.heap.size + 1 + 1) 0 none 0 0 0 := by
    have := BoxA.new ((w.alloc (Obj.cells #[.int .i64 farm, .slice p L.length cap, .int .i64 next] 42)).alloc (Obj.cells #[.int .i64 n] 3)) 0 none 0 0 0 42
    rw [World.size_alloc, World.size_alloc] at this
    exact this
  have hnx : (((w.alloc (Obj.cells #[.int .i64 farm, .slice p L.length cap, .int .i64 next] 42)).alloc (Obj.cells #[.int .i64 n] 3)).alloc (Obj.cells #[.int .i64 0, .slice none 0 0, .int .i64 0] 42)).cell? ⟨w.heap.size + 1, 0, none⟩ = some (.int .i64 n) := by go_simp
  have BX := Lib.hid hbx
  have RX := Lib.hid hrx
  have NX := Lib.hid hnx
  unfold accV at CL CK
  unfold accV
  by_cases hR : De.Right farm L next
  rotate_left
  · obtain ⟨e, v⟩ := w_bad (n := n) (amount := amount) (De.chk_bad hR)
    rw [e, v]
    rw [De.chk_bad hR] at CK
    clear e v h hc h1 hb1 hbx hrx hnx hR
    go_enter Try.func40, Try.ntmps40
    go_wp2_with (first | (go_at_call 62; refine Calls.mono CL.out ?_; rintro e w1 ⟨p1, c1, rfl, hO1, hbl1⟩; have BX1 := Lib.hid (BX.out.below hbl1 (by simp <;> omega)); have RX1 := Lib.hid (RX.out.below hbl1 (by simp <;> omega)); have NX1 := Lib.hid ((hbl1.cell (p := ⟨w.heap.size + 1, 0, none⟩) (by simp <;> omega)).trans NX.out); have H2 := Lib.hid ((H1.out.below hbl1).below ((Below.refl _ _).alloc (Nat.le_refl _) (Obj.cells #[.int .i64 farm, .slice p1 L.length c1, .int .i64 next] 42))); have hs1 : w.heap.size + 1 + 1 < w1.heap.size := (by have := hbl1.size; simp at this; omega); obtain ⟨a0, a1, a2, -, -, -, hlt1⟩ := BX1.out; unfold accV) | (go_at_call 30; refine Calls.mono (CK.out _ H2.out) ?_; rintro e w3 ⟨rfl, hb3⟩; have hba := (Below.refl w1.heap.size w1).alloc (Nat.le_refl _) (Obj.cells #[.int .i64 farm, .slice p1 L.length c1, .int .i64 next] 42); have RX3 := Lib.hid ((RX1.out.below hba RX1.out.lt).below hb3 (by simp <;> omega)); have NX3 := Lib.hid ((hb3.cell (p := ⟨w.heap.size + 1, 0, none⟩) (by simp <;> omega)).trans ((hba.cell (p := ⟨w.heap.size + 1, 0, none⟩) (by show w.heap.size + 1 < w1.heap.size; omega)).trans NX1.out)); have OX3 := Lib.hid ((BoxA.new w1 farm p1 L.length c1 next 42).below hb3 (by simp <;> omega)); have O3 := Lib.hid ((hO1.below hba).below hb3); have BB3 := Lib.hid (((B1.out.trans (hbl1.mono (by simp <;> omega))).alloc (by omega) _).trans (hb3.mono (by simp <;> omega))); obtain ⟨o0, o1, o2, og0, og1, og2, olt⟩ := OX3.out; obtain ⟨r0, r1, r2, rg0, rg1, rg2, rlt⟩ := RX3.out))
    obtain ⟨pz, cz, ez, hz⟩ := ((O3.out.setTo (w.heap.size + 1 + 1) (by simp <;> omega) (.int .i64 farm) (.slice p1 L.length c1) (.int .i64 next)).mono (B' := w.heap.size) (by simp <;> omega)).lies (p0 := p) (bsetTo BB3.out (w.heap.size + 1 + 1) (by omega) (.int .i64 farm) (.slice p1 L.length c1) (.int .i64 next))
    cases ez
    exact bodyPost_ret (v := .tuple #[.agg #[.int .i64 farm, .slice p1 L.length c1, .int .i64 next], .int .i64 22]) (by simp [results, Try.results40, go_sem, r0, r1, r2]) rfl ⟨_, _, rfl, hz⟩
  · rw [De.chk_ok hR] at CK
    have R := Lib.hid hR
    have WN := Lib.hid (fun hh => w_none (n := n) (amount := amount) hR hh)
    have WF := Lib.hid (fun (k : Nat) (hk : k < L.length) (hn : (De.g L k).num = n) => w_found (amount := amount) hR hk hn)
    clear h hc h1 hb1 hbx hrx hnx hR
    go_enter Try.func40, Try.ntmps40
    go_wp2_with (first | (go_at_call 62; refine Calls.mono CL.out ?_; rintro e w1 ⟨p1, c1, rfl, hO1, hbl1⟩; have BX1 := Lib.hid (BX.out.below hbl1 (by simp <;> omega)); have RX1 := Lib.hid (RX.out.below hbl1 (by simp <;> omega)); have NX1 := Lib.hid ((hbl1.cell (p := ⟨w.heap.size + 1, 0, none⟩) (by simp <;> omega)).trans NX.out); have H2 := Lib.hid ((H1.out.below hbl1).below ((Below.refl _ _).alloc (Nat.le_refl _) (Obj.cells #[.int .i64 farm, .slice p1 L.length c1, .int .i64 next] 42))); have hs1 : w.heap.size + 1 + 1 < w1.heap.size := (by have := hbl1.size; simp at this; omega); obtain ⟨a0, a1, a2, -, -, -, hlt1⟩ := BX1.out; unfold accV) | (go_at_call 30; refine Calls.mono (CK.out _ H2.out) ?_; rintro e w3 ⟨rfl, hb3⟩; have hba := (Below.refl w1.heap.size w1).alloc (Nat.le_refl _) (Obj.cells #[.int .i64 farm, .slice p1 L.length c1, .int .i64 next] 42); have RX3 := Lib.hid ((RX1.out.below hba RX1.out.lt).below hb3 (by simp <;> omega)); have NX3 := Lib.hid ((hb3.cell (p := ⟨w.heap.size + 1, 0, none⟩) (by simp <;> omega)).trans ((hba.cell (p := ⟨w.heap.size + 1, 0, none⟩) (by show w.heap.size + 1 < w1.heap.size; omega)).trans NX1.out)); have OX3 := Lib.hid ((BoxA.new w1 farm p1 L.length c1 next 42).below hb3 (by simp <;> omega)); have O3 := Lib.hid ((hO1.below hba).below hb3); have BB3 := Lib.hid (((B1.out.trans (hbl1.mono (by simp <;> omega))).alloc (by omega) _).trans (hb3.mono (by simp <;> omega))); obtain ⟨o0, o1, o2, og0, og1, og2, olt⟩ := OX3.out; obtain ⟨r0, r1, r2, rg0, rg1, rg2, rlt⟩ := RX3.out))
    have IX := Lib.hid (idxn_any p1 L c1 (w.heap.size + 1) n w3 (by obtain ⟨p', c', e, -, -, -, -, hr⟩ := O3.out.cut rfl; cases e; exact hr) NX3.out (by omega))
    go_at_call 75
    refine Calls.mono IX.out ?_
    rintro e w4 ⟨i, rfl, hi, hb4⟩
    have RX4 := Lib.hid (RX3.out.below hb4 RX3.out.lt)
    have OX4 := Lib.hid (OX3.out.below hb4 OX3.out.lt)
    have O4 := Lib.hid (O3.out.below hb4)
    have BB4 := Lib.hid (bstep (Nat.le_refl _) BB3.out hb4)
    have hs4 := hb4.size
    have hO1s := Lib.hid (fun (g : Nat) (hg : (Value.slice p1 L.length c1).ownBlock = some g) => (hO1.lt hg).2)
    clear o0 o1 o2 og0 og1 og2 olt r0 r1 r2 rg0 rg1 rg2 rlt a0 a1 a2 IX hb3 hb4 hba hO1 hbl1 RX1 BX1 NX1 H2 H1 CL CK B1 BX RX NX NX3 OX3 RX3 O3 BB3
    obtain ⟨o0, o1, o2, og0, og1, og2, olt⟩ := OX4.out
    obtain ⟨r0, r1, r2, rg0, rg1, rg2, rlt⟩ := RX4.out
    rcases hi with ⟨rfl, hall⟩ | ⟨k, rfl, hk, hkn⟩
    · obtain ⟨e, v⟩ := WN.out hall
      have EV := Lib.hid (And.intro e v)
      clear e v hall
      go_wp2
      rw [EV.out.1, EV.out.2]
      obtain ⟨pz, cz, ez, hz⟩ := ((O4.out.setTo (w.heap.size + 1 + 1) (by simp <;> omega) (.int .i64 farm) (.slice p1 L.length c1) (.int .i64 next)).mono (B' := w.heap.size) (by simp <;> omega)).lies (p0 := p) (bsetTo BB4.out (w.heap.size + 1 + 1) (by omega) (.int .i64 farm) (.slice p1 L.length c1) (.int .i64 next))
      cases ez
      exact bodyPost_ret (v := .tuple #[.agg #[.int .i64 farm, .slice p1 L.length c1, .int .i64 next], .int .i64 71]) (by simp [results, Try.results40, go_sem, r0, r1, r2]) rfl ⟨_, _, rfl, hz⟩

    · obtain ⟨g, eg, -, hBg, hgl, hD, hfz, -⟩ := SD_put O4.out hk
      subst eg
      obtain ⟨d, hd⟩ : ∃ d, De.g L k = d := ⟨_, rfl⟩
      have hgood := (R.out.each _ (De.g_mem hk)).2.2
      have WK := WF.out k hk hkn
      rw [hd] at hD hgood WK
      have Dd := Lib.hid hd
      have hl0 : 1 ≤ d.left ∧ d.left ≤ 68719476736 := by unfold De.good at hgood; omega
      obtain ⟨hl1, hl2⟩ := hl0
      obtain ⟨c0, c1', c2, c3, c4⟩ := hD
      have WKH := Lib.hid WK
      have hk0 : (0 : Int) ≤ (k : Int) := Int.natCast_nonneg _
      have hk1 : (k : Int) < (L.length : Int) := by omega
      have hl40 := R.out.len
      clear WK hgood hd hkn
      by_cases ha1 : amount < 1
      · have EV := Lib.hid (WKH.out.1 (.inl ha1))
        go_wp2
        rw [EV.out.1, EV.out.2]
        obtain ⟨pz, cz, ez, hz⟩ := ((O4.out.setTo (w.heap.size + 1 + 1) (by simp <;> omega) (.int .i64 farm) (.slice (some ⟨g, 0, none⟩) L.length c1) (.int .i64 next)).mono (B' := w.heap.size) (by simp <;> omega)).lies (p0 := p) (bsetTo BB4.out (w.heap.size + 1 + 1) (by omega) (.int .i64 farm) (.slice (some ⟨g, 0, none⟩) L.length c1) (.int .i64 next))
        cases ez
        exact bodyPost_ret (v := .tuple #[.agg #[.int .i64 farm, .slice (some ⟨g, 0, none⟩) L.length c1, .int .i64 next], .int .i64 67]) (by simp [results, Try.results40, go_sem, r0, r1, r2]) rfl ⟨_, _, rfl, hz⟩

      by_cases ha2 : d.left < amount
      · have EV := Lib.hid (WKH.out.1 (.inr ha2))
        go_wp2
        rw [EV.out.1, EV.out.2]
        obtain ⟨pz, cz, ez, hz⟩ := ((O4.out.setTo (w.heap.size + 1 + 1) (by simp <;> omega) (.int .i64 farm) (.slice (some ⟨g, 0, none⟩) L.length c1) (.int .i64 next)).mono (B' := w.heap.size) (by simp <;> omega)).lies (p0 := p) (bsetTo BB4.out (w.heap.size + 1 + 1) (by omega) (.int .i64 farm) (.slice (some ⟨g, 0, none⟩) L.length c1) (.int .i64 next))
        cases ez
        exact bodyPost_ret (v := .tuple #[.agg #[.int .i64 farm, .slice (some ⟨g, 0, none⟩) L.length c1, .int .i64 next], .int .i64 67]) (by simp [results, Try.results40, go_sem, r0, r1, r2]) rfl ⟨_, _, rfl, hz⟩

      · have EV := Lib.hid (WKH.out.2 (by omega))
        have f4 := hfz (k * 5 + 4)
        have hset : OwnR SD (w4.setCell ⟨g, k * 5 + 4, none⟩ (.int .i64 (d.left - amount))) 49 (((w.alloc (Obj.cells #[.int .i64 farm, .slice p L.length cap, .int .i64 next] 42)).alloc (Obj.cells #[.int .i64 n] 3)).alloc (Obj.cells #[.int .i64 0, .slice none 0 0, .int .i64 0] 42)).heap.size (.slice (some ⟨g, 0, none⟩) L.length c1) (L.set k { d with left := d.left - amount }) := by
          obtain ⟨g', e, -, -, -, -, -, hs⟩ := O4.out.at hk
          cases e
          refine hs 4 (.int .i64 (d.left - amount)) _ (by decide) ?_
          rw [← De.g_eq hk, Dd.out]
          rfl
        have hgw1 : g < w1.heap.size := hO1s.out g rfl
        have hng : g ≠ w1.heap.size := by omega
        have hng2 : w1.heap.size ≠ g := by omega
        have hgr : g ≠ w.heap.size + 1 + 1 := by simp at hBg; omega
        have hgr2 : w.heap.size + 1 + 1 ≠ g := by simp at hBg; omega
        have OX5 := Lib.hid (OX4.out.other (g := g) (i := k * 5 + 4) hng (.int .i64 (d.left - amount)))
        have RX5 := Lib.hid (RX4.out.other (g := g) (i := k * 5 + 4) hgr (.int .i64 (d.left - amount)))
        have BB5 := Lib.hid (BB4.out.setCell (p := ⟨g, k * 5 + 4, none⟩) (by simp at hBg; show w.heap.size ≤ g; omega) (.int .i64 (d.left - amount)))
        have dz := delz_any (((w.alloc (Obj.cells #[.int .i64 farm, .slice p L.length cap, .int .i64 next] 42)).alloc (Obj.cells #[.int .i64 n] 3)).alloc (Obj.cells #[.int .i64 0, .slice none 0 0, .int .i64 0] 42)).heap.size (some ⟨g, 0, none⟩) (L.set k { d with left := d.left - amount }) c1 (w4.setCell ⟨g, k * 5 + 4, none⟩ (.int .i64 (d.left - amount))) (by rw [List.length_set]; exact hset) (by simp [World.setCell] <;> omega)
        rw [List.length_set] at dz
        have DZ := Lib.hid dz
        clear dz hset hfz
        go_wp2_with fail
        go_at_call 66
        refine Calls.mono DZ.out ?_
        rintro e w9 ⟨rfl, hO9, hB9, hf9⟩
        have hs9 := hB9.size
        have hbne : (Value.slice (some ⟨g, 0, none⟩) (De.nz (L.set k { d with left := d.left - amount })).length c1).ownBlock ≠ some w1.heap.size := fun e => by
          simp only [Value.ownBlock, Option.some.injEq] at e
          omega
        have hrne : (Value.slice (some ⟨g, 0, none⟩) (De.nz (L.set k { d with left := d.left - amount })).length c1).ownBlock ≠ some (w.heap.size + 1 + 1) := fun e => by
          simp only [Value.ownBlock, Option.some.injEq] at e
          omega
        clear o0 o1 o2 og0 og1 og2 olt r0 r1 r2 rg0 rg1 rg2 rlt c0 c1' c2 c3 c4 f4
        obtain ⟨o0, o1, o2, og0, og1, og2, olt⟩ := OX5.out.blk (hf9 _ OX5.out.lt hbne) hs9
        obtain ⟨r0, r1, r2, rg0, rg1, rg2, rlt⟩ := RX5.out.blk (hf9 _ RX5.out.lt hrne) hs9
        have OF := Lib.hid (((hO9.setOther hbne (.slice (some ⟨g, 0, none⟩) (De.nz (L.set k { d with left := d.left - amount })).length c1) (i := 1)).setTo (w.heap.size + 1 + 1) (by simp <;> omega) (.int .i64 farm) (.slice (some ⟨g, 0, none⟩) (De.nz (L.set k { d with left := d.left - amount })).length c1) (.int .i64 next)).mono (B' := w.heap.size) (by simp <;> omega))
        have BF := Lib.hid (bsetTo ((BB5.out.trans (hB9.mono (by simp <;> omega))).setCell (p := ⟨w1.heap.size, 1, none⟩) (by show w.heap.size ≤ w1.heap.size; omega) (.slice (some ⟨g, 0, none⟩) (De.nz (L.set k { d with left := d.left - amount })).length c1)) (w.heap.size + 1 + 1) (by omega) (.int .i64 farm) (.slice (some ⟨g, 0, none⟩) (De.nz (L.set k { d with left := d.left - amount })).length c1) (.int .i64 next))
        have hn3 : w1.heap.size ≠ w.heap.size + 1 + 1 := by omega
        have hn4 : w.heap.size + 1 + 1 ≠ w1.heap.size := by omega
        clear hO9 hB9 hf9 hbne hrne
        go_wp2
        rw [EV.out.1, EV.out.2]
        obtain ⟨pz, cz, ez, hz⟩ := OF.out.lies (p0 := p) BF.out
        cases ez
        exact bodyPost_ret (v := .tuple #[.agg #[.int .i64 farm, .slice (some ⟨g, 0, none⟩) (De.nz (L.set k { d with left := d.left - amount })).length c1, .int .i64 next], .int .i64 0]) (by simp [results, Try.results40, go_sem, r0, r1, r2]) rfl ⟨_, _, rfl, hz⟩

end Go.Proofs.Ytdnddikchchdkaa
