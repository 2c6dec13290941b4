/-
  THE WALK over ref39.Charge.
-/
import Derived.Test.YtdnddikchchdkaaD8
import Derived.Test.YtdnddikchchdkaaD3
namespace Go.Proofs.Ytdnddikchchdkaa
open Go.RowKit

theorem lies_back {w w' : World} {p : Option Addr} {c : Nat} {L : List De.Dbt} (h : Debts w p L) (hc : p = none → c = 0) (hb : Below w.heap.size w w') (x y z : Value) : Lies w (((w'.setCell ⟨w.heap.size + 1, 0, none⟩ x).setCell ⟨w.heap.size + 1, 1, none⟩ y).setCell ⟨w.heap.size + 1, 2, none⟩ z) p p c L :=
  have h2 := bsetTo hb (w.heap.size + 1) (by omega) x y z
  ⟨h.below h2, hc, .inl rfl, h2⟩

set_option maxRecDepth 100000 in
set_option maxHeartbeats 8000000 in
theorem refcharge39_bad (farm next : Int) (p : Option Addr) (L : List De.Dbt) (cap : Nat) (of due amount : Int) (w : World) (h : Debts w p L) (hc : p = none → cap = 0) (hl : L.length ≤ 1000000) (he : De.cErr farm L next of due amount ≠ 0) :
    Calls Try.prog 38 #[accV farm p L.length cap next, .int .i64 of, .int .i64 due, .int .i64 amount] w (CGive w farm p (De.cList farm L next of due amount) (De.cNext farm L next of due amount) (De.cNum farm L next of due amount) (De.cErr farm L next of due amount)) := by
  have hn := h.len
  have hb1 : Below w.heap.size w ((w.alloc (Obj.cells #[.int .i64 farm, .slice p L.length cap, .int .i64 next] 42)).alloc (Obj.cells #[.int .i64 0, .slice none 0 0, .int .i64 0] 42)) := ((Below.refl w.heap.size w).alloc (Nat.le_refl _) _).alloc (by simp) _
  have B1 := Lib.hid hb1
  have h1 := h.below hb1
  have CK := Lib.hid (fun (W : World) (hW : Debts W p L) => refcheck39_any farm next p L cap W hW)
  have H1 := Lib.hid h1
  have HC := Lib.hid hc
  have H0 := Lib.hid h
  have hbx : BoxA ((w.alloc (Obj.cells #[.int .i64 farm, .slice p L.length cap, .int .i64 next] 42)).alloc (Obj.cells #[.int .i64 0, .slice none 0 0, .int .i64 0] 42)) w.heap.size farm p L.length cap next := (BoxA.new w farm p L.length cap next 42).below ((Below.refl _ _).alloc (Nat.le_refl _) _) (by simp)
  have hrx : BoxA ((w.alloc (Obj.cells #[.int .i64 farm, .slice p L.length cap, .int .i64 next] 42)).alloc (Obj.cells #[.int .i64 0, .slice none 0 0, .int .i64 0] 42)) (w.heap.size + 1) 0 none 0 0 0 := by
    have := BoxA.new (w.alloc (Obj.cells #[.int .i64 farm, .slice p L.length cap, .int .i64 next] 42)) 0 none 0 0 0 42
    rw [World.size_alloc] at this
    exact this
  have BX := Lib.hid hbx
  have RX := Lib.hid hrx
  unfold accV at CK
  unfold accV
  rcases c_cases farm L next of due amount with ⟨c, e⟩ | ⟨hR, c, ⟨d1, e⟩ | ⟨d1, ⟨d2, e⟩ | ⟨d2, ⟨d3, e⟩ | ⟨d3, d4, e⟩ | ⟨d3, d4, d5, e⟩ | ⟨d3, d4, d5, ⟨d6, e⟩ | ⟨d6, ⟨d7, e⟩ | ⟨d7, e⟩⟩⟩⟩⟩⟩
  · obtain ⟨v1, v2, v3⟩ := c_vals e (by omega)
    rw [e, v1, v2, v3]
    rw [c] at CK
    clear v1 v2 v3 e c h hc h1 hb1 hbx hrx he
    go_enter Try.func38, Try.ntmps38
    go_wp2_with (first | (go_at_call 36; refine Calls.mono (CK.out _ H1.out) ?_; rintro e w2 ⟨rfl, hb2⟩; have BX2 := Lib.hid (BX.out.below hb2 BX.out.lt); have RX2 := Lib.hid (RX.out.below hb2 RX.out.lt); have H2 := Lib.hid (H1.out.below hb2); have BB2 := Lib.hid (B1.out.trans (hb2.mono (by simp <;> omega))); obtain ⟨b0, b1, b2, -, -, -, blt⟩ := BX2.out; obtain ⟨r0, r1, r2, rg0, rg1, rg2, rlt⟩ := RX2.out))
    exact bodyPost_ret (v := .tuple #[.agg #[.int .i64 farm, .slice p L.length cap, .int .i64 next], .int .i64 0, .int .i64 22]) (by simp [results, Try.results38, go_sem, r0, r1, r2]) rfl ⟨_, _, rfl, lies_back H0.out HC.out BB2.out _ _ _⟩
  · rcases De.decB_not.1 d1 with d0 | d0
    all_goals
      obtain ⟨v1, v2, v3⟩ := c_vals e (by omega)
      rw [e, v1, v2, v3]
      rw [c] at CK
      clear v1 v2 v3 e c h hc h1 hb1 hbx hrx he
      have SM := Lib.hid (fun W (hW : Debts W p L) => refsum39_any farm next p L cap W hW (amt_of_right hR) (by have := hR.len; omega))
      unfold accV at SM
      have htt := De.total_nonneg (fun d hd => (amt_of_right hR d hd).1)
      have htm := hR.tot
      clear hR
      go_enter Try.func38, Try.ntmps38
      go_wp2_with (first | (go_at_call 36; refine Calls.mono (CK.out _ H1.out) ?_; rintro e w2 ⟨rfl, hb2⟩; have BX2 := Lib.hid (BX.out.below hb2 BX.out.lt); have RX2 := Lib.hid (RX.out.below hb2 RX.out.lt); have H2 := Lib.hid (H1.out.below hb2); have BB2 := Lib.hid (B1.out.trans (hb2.mono (by simp <;> omega))); obtain ⟨b0, b1, b2, -, -, -, blt⟩ := BX2.out; obtain ⟨r0, r1, r2, rg0, rg1, rg2, rlt⟩ := RX2.out) | (go_at_call 71; refine Calls.mono (SM.out _ H2.out) ?_; rintro e w3 ⟨rfl, hb3⟩; have BX3 := Lib.hid (BX2.out.below hb3 BX2.out.lt); have RX3 := Lib.hid (RX2.out.below hb3 RX2.out.lt); have H3 := Lib.hid (H2.out.below hb3); have BB3 := Lib.hid (bstep (Nat.le_refl _) BB2.out hb3); clear b0 b1 b2 blt r0 r1 r2 rg0 rg1 rg2 rlt; obtain ⟨b0, b1, b2, -, -, -, blt⟩ := BX3.out; obtain ⟨r0, r1, r2, rg0, rg1, rg2, rlt⟩ := RX3.out))
      exact bodyPost_ret (v := .tuple #[.agg #[.int .i64 farm, .slice p L.length cap, .int .i64 next], .int .i64 0, .int .i64 76]) (by simp [results, Try.results38, go_sem, r0, r1, r2]) rfl ⟨_, _, rfl, lies_back H0.out HC.out BB2.out _ _ _⟩
  · rcases De.dayB_not.1 d2 with d0 | d0
    all_goals
      obtain ⟨v1, v2, v3⟩ := c_vals e (by omega)
      rw [e, v1, v2, v3]
      rw [c] at CK
      clear v1 v2 v3 e c h hc h1 hb1 hbx hrx he
      have SM := Lib.hid (fun W (hW : Debts W p L) => refsum39_any farm next p L cap W hW (amt_of_right hR) (by have := hR.len; omega))
      unfold accV at SM
      have htt := De.total_nonneg (fun d hd => (amt_of_right hR d hd).1)
      have htm := hR.tot
      clear hR
      obtain ⟨g1, g2⟩ := De.decB_iff.1 d1
      go_enter Try.func38, Try.ntmps38
      go_wp2_with (first | (go_at_call 36; refine Calls.mono (CK.out _ H1.out) ?_; rintro e w2 ⟨rfl, hb2⟩; have BX2 := Lib.hid (BX.out.below hb2 BX.out.lt); have RX2 := Lib.hid (RX.out.below hb2 RX.out.lt); have H2 := Lib.hid (H1.out.below hb2); have BB2 := Lib.hid (B1.out.trans (hb2.mono (by simp <;> omega))); obtain ⟨b0, b1, b2, -, -, -, blt⟩ := BX2.out; obtain ⟨r0, r1, r2, rg0, rg1, rg2, rlt⟩ := RX2.out) | (go_at_call 71; refine Calls.mono (SM.out _ H2.out) ?_; rintro e w3 ⟨rfl, hb3⟩; have BX3 := Lib.hid (BX2.out.below hb3 BX2.out.lt); have RX3 := Lib.hid (RX2.out.below hb3 RX2.out.lt); have H3 := Lib.hid (H2.out.below hb3); have BB3 := Lib.hid (bstep (Nat.le_refl _) BB2.out hb3); clear b0 b1 b2 blt r0 r1 r2 rg0 rg1 rg2 rlt; obtain ⟨b0, b1, b2, -, -, -, blt⟩ := BX3.out; obtain ⟨r0, r1, r2, rg0, rg1, rg2, rlt⟩ := RX3.out))
      exact bodyPost_ret (v := .tuple #[.agg #[.int .i64 farm, .slice p L.length cap, .int .i64 next], .int .i64 0, .int .i64 9]) (by simp [results, Try.results38, go_sem, r0, r1, r2]) rfl ⟨_, _, rfl, lies_back H0.out HC.out BB2.out _ _ _⟩
  · obtain ⟨v1, v2, v3⟩ := c_vals e (by omega)
    rw [e, v1, v2, v3]
    rw [c] at CK
    clear v1 v2 v3 e c h hc h1 hb1 hbx hrx he
    have SM := Lib.hid (fun W (hW : Debts W p L) => refsum39_any farm next p L cap W hW (amt_of_right hR) (by have := hR.len; omega))
    unfold accV at SM
    have htt := De.total_nonneg (fun d hd => (amt_of_right hR d hd).1)
    have htm := hR.tot
    clear hR
    obtain ⟨g1, g2⟩ := De.decB_iff.1 d1
    obtain ⟨g3, g4⟩ := De.dayB_iff.1 d2
    go_enter Try.func38, Try.ntmps38
    go_wp2_with (first | (go_at_call 36; refine Calls.mono (CK.out _ H1.out) ?_; rintro e w2 ⟨rfl, hb2⟩; have BX2 := Lib.hid (BX.out.below hb2 BX.out.lt); have RX2 := Lib.hid (RX.out.below hb2 RX.out.lt); have H2 := Lib.hid (H1.out.below hb2); have BB2 := Lib.hid (B1.out.trans (hb2.mono (by simp <;> omega))); obtain ⟨b0, b1, b2, -, -, -, blt⟩ := BX2.out; obtain ⟨r0, r1, r2, rg0, rg1, rg2, rlt⟩ := RX2.out) | (go_at_call 71; refine Calls.mono (SM.out _ H2.out) ?_; rintro e w3 ⟨rfl, hb3⟩; have BX3 := Lib.hid (BX2.out.below hb3 BX2.out.lt); have RX3 := Lib.hid (RX2.out.below hb3 RX2.out.lt); have H3 := Lib.hid (H2.out.below hb3); have BB3 := Lib.hid (bstep (Nat.le_refl _) BB2.out hb3); clear b0 b1 b2 blt r0 r1 r2 rg0 rg1 rg2 rlt; obtain ⟨b0, b1, b2, -, -, -, blt⟩ := BX3.out; obtain ⟨r0, r1, r2, rg0, rg1, rg2, rlt⟩ := RX3.out))
    exact bodyPost_ret (v := .tuple #[.agg #[.int .i64 farm, .slice p L.length cap, .int .i64 next], .int .i64 0, .int .i64 67]) (by simp [results, Try.results38, go_sem, r0, r1, r2]) rfl ⟨_, _, rfl, lies_back H0.out HC.out BB2.out _ _ _⟩
  · obtain ⟨v1, v2, v3⟩ := c_vals e (by omega)
    rw [e, v1, v2, v3]
    rw [c] at CK
    clear v1 v2 v3 e c h hc h1 hb1 hbx hrx he
    have SM := Lib.hid (fun W (hW : Debts W p L) => refsum39_any farm next p L cap W hW (amt_of_right hR) (by have := hR.len; omega))
    unfold accV at SM
    have htt := De.total_nonneg (fun d hd => (amt_of_right hR d hd).1)
    have htm := hR.tot
    clear hR
    obtain ⟨g1, g2⟩ := De.decB_iff.1 d1
    obtain ⟨g3, g4⟩ := De.dayB_iff.1 d2
    go_enter Try.func38, Try.ntmps38
    go_wp2_with (first | (go_at_call 36; refine Calls.mono (CK.out _ H1.out) ?_; rintro e w2 ⟨rfl, hb2⟩; have BX2 := Lib.hid (BX.out.below hb2 BX.out.lt); have RX2 := Lib.hid (RX.out.below hb2 RX.out.lt); have H2 := Lib.hid (H1.out.below hb2); have BB2 := Lib.hid (B1.out.trans (hb2.mono (by simp <;> omega))); obtain ⟨b0, b1, b2, -, -, -, blt⟩ := BX2.out; obtain ⟨r0, r1, r2, rg0, rg1, rg2, rlt⟩ := RX2.out) | (go_at_call 71; refine Calls.mono (SM.out _ H2.out) ?_; rintro e w3 ⟨rfl, hb3⟩; have BX3 := Lib.hid (BX2.out.below hb3 BX2.out.lt); have RX3 := Lib.hid (RX2.out.below hb3 RX2.out.lt); have H3 := Lib.hid (H2.out.below hb3); have BB3 := Lib.hid (bstep (Nat.le_refl _) BB2.out hb3); clear b0 b1 b2 blt r0 r1 r2 rg0 rg1 rg2 rlt; obtain ⟨b0, b1, b2, -, -, -, blt⟩ := BX3.out; obtain ⟨r0, r1, r2, rg0, rg1, rg2, rlt⟩ := RX3.out))
    exact bodyPost_ret (v := .tuple #[.agg #[.int .i64 farm, .slice p L.length cap, .int .i64 next], .int .i64 0, .int .i64 67]) (by simp [results, Try.results38, go_sem, r0, r1, r2]) rfl ⟨_, _, rfl, lies_back H0.out HC.out BB2.out _ _ _⟩
  · obtain ⟨v1, v2, v3⟩ := c_vals e (by omega)
    rw [e, v1, v2, v3]
    rw [c] at CK
    clear v1 v2 v3 e c h hc h1 hb1 hbx hrx he
    have SM := Lib.hid (fun W (hW : Debts W p L) => refsum39_any farm next p L cap W hW (amt_of_right hR) (by have := hR.len; omega))
    unfold accV at SM
    have htt := De.total_nonneg (fun d hd => (amt_of_right hR d hd).1)
    have htm := hR.tot
    clear hR
    obtain ⟨g1, g2⟩ := De.decB_iff.1 d1
    obtain ⟨g3, g4⟩ := De.dayB_iff.1 d2
    go_enter Try.func38, Try.ntmps38
    go_wp2_with (first | (go_at_call 36; refine Calls.mono (CK.out _ H1.out) ?_; rintro e w2 ⟨rfl, hb2⟩; have BX2 := Lib.hid (BX.out.below hb2 BX.out.lt); have RX2 := Lib.hid (RX.out.below hb2 RX.out.lt); have H2 := Lib.hid (H1.out.below hb2); have BB2 := Lib.hid (B1.out.trans (hb2.mono (by simp <;> omega))); obtain ⟨b0, b1, b2, -, -, -, blt⟩ := BX2.out; obtain ⟨r0, r1, r2, rg0, rg1, rg2, rlt⟩ := RX2.out) | (go_at_call 71; refine Calls.mono (SM.out _ H2.out) ?_; rintro e w3 ⟨rfl, hb3⟩; have BX3 := Lib.hid (BX2.out.below hb3 BX2.out.lt); have RX3 := Lib.hid (RX2.out.below hb3 RX2.out.lt); have H3 := Lib.hid (H2.out.below hb3); have BB3 := Lib.hid (bstep (Nat.le_refl _) BB2.out hb3); clear b0 b1 b2 blt r0 r1 r2 rg0 rg1 rg2 rlt; obtain ⟨b0, b1, b2, -, -, -, blt⟩ := BX3.out; obtain ⟨r0, r1, r2, rg0, rg1, rg2, rlt⟩ := RX3.out))
    exact bodyPost_ret (v := .tuple #[.agg #[.int .i64 farm, .slice p L.length cap, .int .i64 next], .int .i64 0, .int .i64 67]) (by simp [results, Try.results38, go_sem, r0, r1, r2]) rfl ⟨_, _, rfl, lies_back H0.out HC.out BB3.out _ _ _⟩
  · obtain ⟨v1, v2, v3⟩ := c_vals e (by omega)
    rw [e, v1, v2, v3]
    rw [c] at CK
    clear v1 v2 v3 e c h hc h1 hb1 hbx hrx he
    have SM := Lib.hid (fun W (hW : Debts W p L) => refsum39_any farm next p L cap W hW (amt_of_right hR) (by have := hR.len; omega))
    unfold accV at SM
    have htt := De.total_nonneg (fun d hd => (amt_of_right hR d hd).1)
    have htm := hR.tot
    clear hR
    obtain ⟨g1, g2⟩ := De.decB_iff.1 d1
    obtain ⟨g3, g4⟩ := De.dayB_iff.1 d2
    go_enter Try.func38, Try.ntmps38
    go_wp2_with (first | (go_at_call 36; refine Calls.mono (CK.out _ H1.out) ?_; rintro e w2 ⟨rfl, hb2⟩; have BX2 := Lib.hid (BX.out.below hb2 BX.out.lt); have RX2 := Lib.hid (RX.out.below hb2 RX.out.lt); have H2 := Lib.hid (H1.out.below hb2); have BB2 := Lib.hid (B1.out.trans (hb2.mono (by simp <;> omega))); obtain ⟨b0, b1, b2, -, -, -, blt⟩ := BX2.out; obtain ⟨r0, r1, r2, rg0, rg1, rg2, rlt⟩ := RX2.out) | (go_at_call 71; refine Calls.mono (SM.out _ H2.out) ?_; rintro e w3 ⟨rfl, hb3⟩; have BX3 := Lib.hid (BX2.out.below hb3 BX2.out.lt); have RX3 := Lib.hid (RX2.out.below hb3 RX2.out.lt); have H3 := Lib.hid (H2.out.below hb3); have BB3 := Lib.hid (bstep (Nat.le_refl _) BB2.out hb3); clear b0 b1 b2 blt r0 r1 r2 rg0 rg1 rg2 rlt; obtain ⟨b0, b1, b2, -, -, -, blt⟩ := BX3.out; obtain ⟨r0, r1, r2, rg0, rg1, rg2, rlt⟩ := RX3.out))
    exact bodyPost_ret (v := .tuple #[.agg #[.int .i64 farm, .slice p L.length cap, .int .i64 next], .int .i64 0, .int .i64 73]) (by simp [results, Try.results38, go_sem, r0, r1, r2]) rfl ⟨_, _, rfl, lies_back H0.out HC.out BB3.out _ _ _⟩
  · obtain ⟨v1, v2, v3⟩ := c_vals e (by omega)
    rw [e, v1, v2, v3]
    rw [c] at CK
    clear v1 v2 v3 e c h hc h1 hb1 hbx hrx he
    have SM := Lib.hid (fun W (hW : Debts W p L) => refsum39_any farm next p L cap W hW (amt_of_right hR) (by have := hR.len; omega))
    unfold accV at SM
    have htt := De.total_nonneg (fun d hd => (amt_of_right hR d hd).1)
    have htm := hR.tot
    clear hR
    obtain ⟨g1, g2⟩ := De.decB_iff.1 d1
    obtain ⟨g3, g4⟩ := De.dayB_iff.1 d2
    go_enter Try.func38, Try.ntmps38
    go_wp2_with (first | (go_at_call 36; refine Calls.mono (CK.out _ H1.out) ?_; rintro e w2 ⟨rfl, hb2⟩; have BX2 := Lib.hid (BX.out.below hb2 BX.out.lt); have RX2 := Lib.hid (RX.out.below hb2 RX.out.lt); have H2 := Lib.hid (H1.out.below hb2); have BB2 := Lib.hid (B1.out.trans (hb2.mono (by simp <;> omega))); obtain ⟨b0, b1, b2, -, -, -, blt⟩ := BX2.out; obtain ⟨r0, r1, r2, rg0, rg1, rg2, rlt⟩ := RX2.out) | (go_at_call 71; refine Calls.mono (SM.out _ H2.out) ?_; rintro e w3 ⟨rfl, hb3⟩; have BX3 := Lib.hid (BX2.out.below hb3 BX2.out.lt); have RX3 := Lib.hid (RX2.out.below hb3 RX2.out.lt); have H3 := Lib.hid (H2.out.below hb3); have BB3 := Lib.hid (bstep (Nat.le_refl _) BB2.out hb3); clear b0 b1 b2 blt r0 r1 r2 rg0 rg1 rg2 rlt; obtain ⟨b0, b1, b2, -, -, -, blt⟩ := BX3.out; obtain ⟨r0, r1, r2, rg0, rg1, rg2, rlt⟩ := RX3.out))
    exact bodyPost_ret (v := .tuple #[.agg #[.int .i64 farm, .slice p L.length cap, .int .i64 next], .int .i64 0, .int .i64 73]) (by simp [results, Try.results38, go_sem, r0, r1, r2]) rfl ⟨_, _, rfl, lies_back H0.out HC.out BB3.out _ _ _⟩
  · exact absurd e he

end Go.Proofs.Ytdnddikchchdkaa
