/-
  THE WALK over ref39.Offset, for any arguments.
-/
import Derived.Test.YtdnddikchchdkaaD22
import Derived.Test.YtdnddikchchdkaaD13
namespace Go.Proofs.Ytdnddikchchdkaa
open Go.RowKit

set_option maxRecDepth 100000 in
set_option maxHeartbeats 8000000 in
theorem refoffset39_bad (farm next : Int) (p : Option Addr) (L : List De.Dbt) (cap : Nat) (day amount : Int) (w : World) (h : Debts w p L) (hc : p = none → cap = 0) (_hl : L.length ≤ 1000000) (he : oErr farm L next day amount ≠ 0) :
    Calls Try.prog 39 #[accV farm p L.length cap next, .int .i64 day, .int .i64 amount] w (CGive w farm p L next 0 (oErr farm L next day amount)) := by
  have hn := h.len
  have hb1 : Below w.heap.size w ((w.alloc (Obj.cells #[.int .i64 farm, .slice p L.length cap, .int .i64 next] 42)).alloc (Obj.cells #[.int .i64 0, .slice none 0 0, .int .i64 0] 42)) := ((Below.refl w.heap.size w).alloc (Nat.le_refl _) _).alloc (by simp) _
  have B1 := Lib.hid hb1
  have h1 := h.below hb1
  have CK := Lib.hid (fun (W : World) (hW : Debts W p L) => refcheck39_any farm next p L cap W hW)
  have H1 := Lib.hid h1
  have HC := Lib.hid hc
  have H0 := Lib.hid h
  have hbx : BoxA ((w.alloc (Obj.cells #[.int .i64 farm, .slice p L.length cap, .int .i64 next] 42)).alloc (Obj.cells #[.int .i64 0, .slice none 0 0, .int .i64 0] 42)) w.heap.size farm p L.length cap next := (BoxA.new w farm p L.length cap next 42).below ((Below.refl _ _).alloc (Nat.le_refl _) _) (by simp)
  have hrx : BoxA ((w.alloc (Obj.cells #[.int .i64 farm, .slice p L.length cap, .int .i64 next] 42)).alloc (Obj.cells #[.int .i64 0, .slice none 0 0, .int .i64 0] 42)) (w.heap.size + 1) 0 none 0 0 0 := by
    have := BoxA.new (w.alloc (Obj.cells #[.int .i64 farm, .slice p L.length cap, .int .i64 next] 42)) 0 none 0 0 0 42
    rw [World.size_alloc] at this
    exact this
  have BX := Lib.hid hbx
  have RX := Lib.hid hrx
  unfold accV at CK
  unfold accV
  rcases o_cases farm L next day amount with ⟨c, e⟩ | ⟨hR, c, ⟨d1, e⟩ | ⟨d1, ⟨d2, e⟩ | ⟨d2, d3, e⟩ | ⟨d2, d3, e⟩⟩⟩
  · rw [e]
    rw [c] at CK
    clear e c h hc h1 hb1 hbx hrx he
    go_enter Try.func39, Try.ntmps39
    go_wp2_with (first | (go_at_call 36; refine Calls.mono (CK.out _ H1.out) ?_; rintro e w2 ⟨rfl, hb2⟩; have BX2 := Lib.hid (BX.out.below hb2 BX.out.lt); have RX2 := Lib.hid (RX.out.below hb2 RX.out.lt); have H2 := Lib.hid (H1.out.below hb2); have BB2 := Lib.hid (B1.out.trans (hb2.mono (by simp <;> omega))); obtain ⟨b0, b1, b2, -, -, -, blt⟩ := BX2.out; obtain ⟨r0, r1, r2, rg0, rg1, rg2, rlt⟩ := RX2.out))
    exact bodyPost_ret (v := .tuple #[.agg #[.int .i64 farm, .slice p L.length cap, .int .i64 next], .int .i64 0, .int .i64 22]) (by simp [results, Try.results39, go_sem, r0, r1, r2]) rfl ⟨_, _, rfl, lies_back H0.out HC.out BB2.out _ _ _⟩
  · rcases De.dayB_not.1 d1 with d0 | d0
    all_goals
      rw [e]
      rw [c] at CK
      clear e c h hc h1 hb1 hbx hrx he hR
      go_enter Try.func39, Try.ntmps39
      go_wp2_with (first | (go_at_call 36; refine Calls.mono (CK.out _ H1.out) ?_; rintro e w2 ⟨rfl, hb2⟩; have BX2 := Lib.hid (BX.out.below hb2 BX.out.lt); have RX2 := Lib.hid (RX.out.below hb2 RX.out.lt); have H2 := Lib.hid (H1.out.below hb2); have BB2 := Lib.hid (B1.out.trans (hb2.mono (by simp <;> omega))); obtain ⟨b0, b1, b2, -, -, -, blt⟩ := BX2.out; obtain ⟨r0, r1, r2, rg0, rg1, rg2, rlt⟩ := RX2.out))
      exact bodyPost_ret (v := .tuple #[.agg #[.int .i64 farm, .slice p L.length cap, .int .i64 next], .int .i64 0, .int .i64 9]) (by simp [results, Try.results39, go_sem, r0, r1, r2]) rfl ⟨_, _, rfl, lies_back H0.out HC.out BB2.out _ _ _⟩
  · rw [e]
    rw [c] at CK
    clear e c h hc h1 hb1 hbx hrx he hR
    obtain ⟨g3, g4⟩ := De.dayB_iff.1 d1
    go_enter Try.func39, Try.ntmps39
    go_wp2_with (first | (go_at_call 36; refine Calls.mono (CK.out _ H1.out) ?_; rintro e w2 ⟨rfl, hb2⟩; have BX2 := Lib.hid (BX.out.below hb2 BX.out.lt); have RX2 := Lib.hid (RX.out.below hb2 RX.out.lt); have H2 := Lib.hid (H1.out.below hb2); have BB2 := Lib.hid (B1.out.trans (hb2.mono (by simp <;> omega))); obtain ⟨b0, b1, b2, -, -, -, blt⟩ := BX2.out; obtain ⟨r0, r1, r2, rg0, rg1, rg2, rlt⟩ := RX2.out))
    exact bodyPost_ret (v := .tuple #[.agg #[.int .i64 farm, .slice p L.length cap, .int .i64 next], .int .i64 0, .int .i64 67]) (by simp [results, Try.results39, go_sem, r0, r1, r2]) rfl ⟨_, _, rfl, lies_back H0.out HC.out BB2.out _ _ _⟩
  · rw [e]
    rw [c] at CK
    clear e c h hc h1 hb1 hbx hrx he hR
    obtain ⟨g3, g4⟩ := De.dayB_iff.1 d1
    go_enter Try.func39, Try.ntmps39
    go_wp2_with (first | (go_at_call 36; refine Calls.mono (CK.out _ H1.out) ?_; rintro e w2 ⟨rfl, hb2⟩; have BX2 := Lib.hid (BX.out.below hb2 BX.out.lt); have RX2 := Lib.hid (RX.out.below hb2 RX.out.lt); have H2 := Lib.hid (H1.out.below hb2); have BB2 := Lib.hid (B1.out.trans (hb2.mono (by simp <;> omega))); obtain ⟨b0, b1, b2, -, -, -, blt⟩ := BX2.out; obtain ⟨r0, r1, r2, rg0, rg1, rg2, rlt⟩ := RX2.out))
    exact bodyPost_ret (v := .tuple #[.agg #[.int .i64 farm, .slice p L.length cap, .int .i64 next], .int .i64 0, .int .i64 67]) (by simp [results, Try.results39, go_sem, r0, r1, r2]) rfl ⟨_, _, rfl, lies_back H0.out HC.out BB2.out _ _ _⟩
  · exact absurd e he

theorem refoffset39_any (farm next : Int) (p : Option Addr) (L : List De.Dbt) (cap : Nat) (day amount : Int) (w : World) (h : Debts w p L) (hc : p = none → cap = 0) (hl : L.length ≤ 1000000) :
    Calls Try.prog 39 #[accV farm p L.length cap next, .int .i64 day, .int .i64 amount] w (OGives w farm p L next day amount) := by
  by_cases he : oErr farm L next day amount = 0
  · rcases o_cases farm L next day amount with ⟨c, e⟩ | ⟨hR, c, ⟨d1, e⟩ | ⟨d1, ⟨d2, e⟩ | ⟨d2, d3, e⟩ | ⟨d2, d3, e⟩⟩⟩
    all_goals first
      | (exfalso; omega)
      | (refine (refoffset39_ok farm next p L cap day amount w h hc hR d1 d2 d3).mono fun e w' hh => ?_
         obtain ⟨p', c', L', r, h1, h2, h3⟩ := hh
         exact ⟨p', c', L', r, by rw [he]; exact h1, by rw [if_pos he]; exact h2, h3⟩)
  · refine (refoffset39_bad farm next p L cap day amount w h hc hl he).mono fun e w' hh => ?_
    obtain ⟨p', c', h1, h2⟩ := hh
    exact ⟨p', c', L, 0, h1, by rw [if_neg he]; exact ⟨rfl, rfl⟩, h2⟩

end Go.Proofs.Ytdnddikchchdkaa
