/-
  THE WALK over law39.DebtFirst.
-/
import Derived.Test.YtdnddikchchdkaaD28
namespace Go.Proofs.Ytdnddikchchdkaa
open Go.RowKit

theorem first_plain {farm next : Int} {L Lb : List De.Dbt} {d n r : Int} (hR : De.Right farm L next) (n0 : 0 ≤ n) (h : De.Off d L n Lb r) {i j : Nat} {x y : De.Dbt} (hi : i < L.length) (hj : j < L.length) (ex : De.g L i = x) (ey : De.g L j = y) (hl : De.fnd Lb x.num < x.left) :
    x.due ≤ d ∧ (y.due < x.due ∨ (y.due = x.due ∧ y.num < x.num) → De.fnd Lb y.num = 0) := by
  have hx : x ∈ L := ex ▸ De.g_mem hi
  have hy : y ∈ L := ey ▸ De.g_mem hj
  obtain ⟨h1, h2⟩ := h.first hR.fine n0 x hx hl
  exact ⟨h1, fun hb => h2 y hy hb⟩

theorem DAt.new (w : World) (d : De.Dbt) (T : TypeId) : DAt (w.alloc (.cells #[.int .i64 d.num, .int .i64 d.dec, .int .i64 d.due, .int .i64 d.amt, .int .i64 d.left] T)) w.heap.size 0 d := ⟨by go_simp, by go_simp, by go_simp, by go_simp, by go_simp⟩

set_option maxRecDepth 100000 in
set_option maxHeartbeats 16000000 in
theorem debtFirst_walk (a : Option Addr) (len cap : Nat) (z : List Int) (x y : Int) (w : World) (w0 : IsRow .i64 w a len cap z) (w1 : (Lit.int .u16 x).wf = true) (w2 : (Lit.int .u8 y).wf = true) :
    Calls Try.prog 6 #[.slice a len cap, .int .u16 x, .int .u8 y] w fun e w' => e = .returned (.bool true) ∧ Below w.heap.size w w' := by
  obtain ⟨x0, x1⟩ := bd_u16 w1
  obtain ⟨y0, y1⟩ := bd_u8 w2
  have HN := Lib.hid (new_any a len cap z w w0)
  clear w0 w1 w2
  generalize (z.take len).take 400 = l at *
  obtain ⟨hmx, n0, n1⟩ := tmod_u x0 (n := 1500) (by omega)
  obtain ⟨hmy, d0, d1⟩ := tmod_u y0 (n := 25) (by omega)
  generalize x % 1500 = n at *
  generalize y % 25 = d at *
  have AC := Lib.hid (fun (W : World) (h : TapeAt W w.heap.size l 0) => account39_any w.heap.size l 0 W h)
  have AO := Lib.hid (fun (farm next : Int) (p : Option Addr) (L : List De.Dbt) (c : Nat) (W : World) => offset39_any farm next p L c d n W)
  have AF := Lib.hid (fun (farm next : Int) (p : Option Addr) (L : List De.Dbt) (c : Nat) (num : Int) (W : World) => find39_any farm next p L c num W)
  unfold accV at AO AF
  go_enter Try.func6, Try.ntmps6
  go_wp2_with (first | (go_at_call 10; refine (HN.out).mono ?_; rintro e w1 ⟨rfl, ht, hb1⟩) | (go_at_call 27; refine Calls.mono (AC.out _ ht) ?_; rintro e w2 ⟨farm, p, L, ca, next, q, rfl, hR, hD, hnil, hnew, ht2, hbt⟩; unfold accV; have H3 := Lib.hid (AccAt.new (farm := farm) (next := next) hD hnil 42); have hl40 := hR.len; have B3 := Lib.hid (balloc (Nat.le_refl _) (hb1.trans (hbt.below (Nat.le_refl _) hb1.size)) (Obj.cells #[.int .i64 farm, .slice p L.length ca, .int .i64 next] 42))) | (go_at_call 28; refine Calls.mono (AO.out farm next p L ca _ H3.out.recs hnil (by omega)) ?_; rintro e w4 ⟨pb, cb, Lb, r, rfl, ho, hlb⟩; unfold accV; rw [off_fine hR (by omega) (by omega), if_pos rfl] at ho; rw [off_fine hR (by omega) (by omega)]; have A5' := (H3.out.below hlb.below).below ((Below.refl _ _).alloc (Nat.le_refl _) (Obj.cells #[.int .i64 farm, .slice pb Lb.length cb, .int .i64 next] 42)); have A5 := Lib.hid A5'; have E5 := Lib.hid (AccAt.new (farm := farm) (next := next) hlb.recs hlb.nil 42); have B5 := Lib.hid (balloc (Nat.le_refl _) (bstep (Nat.le_refl _) B3.out hlb.below) (Obj.cells #[.int .i64 farm, .slice pb Lb.length cb, .int .i64 next] 42)); obtain ⟨a0, a1, a2, -, -, -, -⟩ := A5'.box))
  have le := Nat.le_refl w.heap.size
  have FP := Lib.hid (fun (i j : Nat) (x y : De.Dbt) (hi : i < L.length) (hj : j < L.length) (ex : De.g L i = x) (ey : De.g L j = y) (hl : De.fnd Lb x.num < x.left) => first_plain hR n0 ho hi hj ex ey hl)
  have FN := Lib.hid (fun (c : Nat) (num : Int) (W : World) (h : Debts W pb Lb) => AF.out farm next pb Lb c num W h)
  have hn := hD.len
  clear AC AO AF ht hb1 ht2 hbt hD hnew ho hlb hR H3 B3 HN A5' a0 a1 a2
  obtain ⟨wz, ez⟩ : ∃ W : World, w4.alloc (Obj.cells #[.int .i64 farm, .slice pb Lb.length cb, .int .i64 next] 42) = W := ⟨_, rfl⟩
  rw [ez] at A5 E5 B5 ⊢
  clear ez
  go_loopw [41] (fun i wr => ∃ k : Nat, k ≤ L.length ∧ i = .int .i64 k ∧ Below wz.heap.size wz wr) (fun i _ => L.length - (intOf i).toNat)
  case atStart => exact ⟨0, Nat.zero_le _, rfl, Below.refl _ _⟩
  case round =>
    obtain ⟨wo, rfl⟩ : ∃ wo : World, wo = wr := ⟨_, rfl⟩
    obtain ⟨k, hk, rfl, hb⟩ := hrel
    have HB := Lib.hid hb
    have GA := Lib.hid (A5.out.below hb)
    have GB := Lib.hid (E5.out.below hb)
    have hsz := hb.size
    clear hb
    by_cases hlt : k < L.length
    · obtain ⟨b, off, xx, rfl, hbl, hD, hd⟩ := SD_at GA.out.recs hlt
      obtain ⟨c0, c1, c2, c3, c4⟩ := hD
      have hk0 : (0 : Int) ≤ (k : Int) := Int.natCast_nonneg _
      have hk1 : (k : Int) < (L.length : Int) := by omega
      have XA := DAt.new wo xx 49
      have GA1 := Lib.hid (GA.out.below ((Below.refl _ _).alloc (Nat.le_refl _) (Obj.cells #[.int .i64 xx.num, .int .i64 xx.dec, .int .i64 xx.due, .int .i64 xx.amt, .int .i64 xx.left] 49)))
      have GB1 := Lib.hid (GB.out.below ((Below.refl _ _).alloc (Nat.le_refl _) (Obj.cells #[.int .i64 xx.num, .int .i64 xx.dec, .int .i64 xx.due, .int .i64 xx.amt, .int .i64 xx.left] 49)))
      have XH := Lib.hid XA
      obtain ⟨e0, e1, e2, -, -, -, -⟩ := GB1.out.box
      clear XA
      by_cases y1 : De.fnd Lb xx.num < xx.left
      · have hxd : ¬ d < xx.due := by have := (FP.out k k xx xx hlt hlt hd.out hd.out y1).1; omega
        go_wp2_with (first | (go_at_call 34; refine Calls.mono (FN.out cb xx.num _ GB1.out.recs) ?_; rintro e w5 ⟨rfl, hb5⟩; have GA2 := Lib.hid (GA1.out.below hb5); have GB2 := Lib.hid (GB1.out.below hb5); have XX := Lib.hid (XH.out.below hb5 (by simp)); have B6 := Lib.hid (bnext (balloc (by omega) HB.out (Obj.cells #[.int .i64 xx.num, .int .i64 xx.dec, .int .i64 xx.due, .int .i64 xx.amt, .int .i64 xx.left] 49)) (by simp; omega) hb5); obtain ⟨f0, f1, f2, -, -, -, -⟩ := GA2.out.box; obtain ⟨h0, h1, h2, h3, h4⟩ := XX.out; have hs5 : wo.heap.size < w5.heap.size := (by have := hb5.size; simp at this; omega)))
        clear c0 c1 c2 c3 c4 e0 e1 e2 f0 f1 f2 h0 h1 h2 h3 h4 GA1 GB1 XH hb5 HB
        go_loopw [62] (fun i wy => ∃ j : Nat, j ≤ L.length ∧ i = .int .i64 j ∧ Below w5.heap.size w5 wy) (fun i _ => L.length - (intOf i).toNat)
        case atStart => exact ⟨0, Nat.zero_le _, rfl, Below.refl _ _⟩
        case round =>
          obtain ⟨wi, rfl⟩ : ∃ wi : World, wi = wr := ⟨_, rfl⟩
          obtain ⟨j, hj, rfl, hb⟩ := hrel
          have HJ := Lib.hid hb
          have GAJ := Lib.hid (GA2.out.below hb)
          have XJ := Lib.hid (XX.out.below hb hs5)
          have GBJ := Lib.hid ((GB2.out.below hb).below ((Below.refl _ _).alloc (Nat.le_refl _) (Obj.cells #[] 49)))
          have hsj := hb.size
          clear hb GBJ
          by_cases hlj : j < L.length
          · obtain ⟨b', off', yy, e', hbl', hD', hd'⟩ := SD_at GAJ.out.recs hlj
            simp only [Option.some.injEq, Addr.mk.injEq] at e'
            obtain ⟨rfl, rfl, -⟩ := e'
            obtain ⟨c0, c1, c2, c3, c4⟩ := hD'
            have hj0 : (0 : Int) ≤ (j : Int) := Int.natCast_nonneg _
            have hj1 : (j : Int) < (L.length : Int) := by omega
            have YA := DAt.new wi yy 49
            have GB3 := Lib.hid ((GB2.out.below HJ.out).below ((Below.refl _ _).alloc (Nat.le_refl _) (Obj.cells #[.int .i64 yy.num, .int .i64 yy.dec, .int .i64 yy.due, .int .i64 yy.amt, .int .i64 yy.left] 49)))
            have XY := XJ.out.below ((Below.refl _ _).alloc (Nat.le_refl _) (Obj.cells #[.int .i64 yy.num, .int .i64 yy.dec, .int .i64 yy.due, .int .i64 yy.amt, .int .i64 yy.left] 49)) (by omega)
            obtain ⟨q0, q1, q2, q3, q4⟩ := YA
            obtain ⟨h0, h1, h2, h3, h4⟩ := XY
            obtain ⟨e0, e1, e2, -, -, -, -⟩ := GB3.out.box
            have BB : Below wi.heap.size wi (wi.alloc (Obj.cells #[.int .i64 yy.num, .int .i64 yy.dec, .int .i64 yy.due, .int .i64 yy.amt, .int .i64 yy.left] 49)) := (Below.refl _ _).alloc (Nat.le_refl _) _
            have ZF := Lib.hid (FP.out k j xx yy hlt hlj hd.out hd'.out y1).2
            by_cases z1 : yy.due < xx.due
            · have hz : De.fnd Lb yy.num = 0 := ZF.out (.inl z1)
              have FNZ := Lib.hid (hz ▸ FN.out cb yy.num _ GB3.out.recs)
              go_wp2_with (first | (go_at_call 34; (with_reducible refine Calls.mono FNZ.out ?_); rintro e w7 ⟨rfl, hb7⟩))
              go_roundw
              case rel => exact ⟨j + 1, by omega, by go_num, bnext (balloc (Nat.le_refl _) HJ.out (Obj.cells #[.int .i64 yy.num, .int .i64 yy.dec, .int .i64 yy.due, .int .i64 yy.amt, .int .i64 yy.left] 49)) (by simp; omega) hb7⟩
              case measure => simp [intOf]; omega
            · cases z2 : (yy.due == xx.due)
              · go_wp2
                go_roundw
                case rel => exact ⟨j + 1, by omega, by go_num, balloc (Nat.le_refl _) HJ.out (Obj.cells #[.int .i64 yy.num, .int .i64 yy.dec, .int .i64 yy.due, .int .i64 yy.amt, .int .i64 yy.left] 49)⟩
                case measure => simp [intOf]; omega
              · by_cases z3 : yy.num < xx.num
                · have hz : De.fnd Lb yy.num = 0 := ZF.out (.inr ⟨beq_iff_eq.1 z2, z3⟩)
                  have FNZ := Lib.hid (hz ▸ FN.out cb yy.num _ GB3.out.recs)
                  go_wp2_with (first | (go_at_call 34; (with_reducible refine Calls.mono FNZ.out ?_); rintro e w7 ⟨rfl, hb7⟩))
                  go_roundw
                  case rel => exact ⟨j + 1, by omega, by go_num, bnext (balloc (Nat.le_refl _) HJ.out (Obj.cells #[.int .i64 yy.num, .int .i64 yy.dec, .int .i64 yy.due, .int .i64 yy.amt, .int .i64 yy.left] 49)) (by simp; omega) hb7⟩
                  case measure => simp [intOf]; omega
                · go_wp2
                  go_roundw
                  case rel => exact ⟨j + 1, by omega, by go_num, balloc (Nat.le_refl _) HJ.out (Obj.cells #[.int .i64 yy.num, .int .i64 yy.dec, .int .i64 yy.due, .int .i64 yy.amt, .int .i64 yy.left] 49)⟩
                  case measure => simp [intOf]; omega
          · obtain rfl : j = L.length := by omega
            clear hj hlj
            go_wp2
            go_roundw
            case rel => exact ⟨k + 1, by omega, by go_num, bnext B6.out (by have := B6.out.size; omega) HJ.out⟩
            case measure => simp [intOf]; omega
      · go_wp2_with (first | (go_at_call 34; refine Calls.mono (FN.out cb xx.num _ GB1.out.recs) ?_; rintro e w5 ⟨rfl, hb5⟩; have GA2 := Lib.hid (GA1.out.below hb5); have GB2 := Lib.hid (GB1.out.below hb5); have XX := Lib.hid (XH.out.below hb5 (by simp)); have B6 := Lib.hid (bnext (balloc (by omega) HB.out (Obj.cells #[.int .i64 xx.num, .int .i64 xx.dec, .int .i64 xx.due, .int .i64 xx.amt, .int .i64 xx.left] 49)) (by simp; omega) hb5); obtain ⟨f0, f1, f2, -, -, -, -⟩ := GA2.out.box; obtain ⟨h0, h1, h2, h3, h4⟩ := XX.out; have hs5 : wo.heap.size < w5.heap.size := (by have := hb5.size; simp at this; omega)))
        clear c0 c1 c2 c3 c4 e0 e1 e2 f0 f1 f2 h0 h1 h2 h3 h4 GA1 GB1 XH hb5 HB
        go_loopw [62] (fun i wy => ∃ j : Nat, j ≤ L.length ∧ i = .int .i64 j ∧ Below w5.heap.size w5 wy) (fun i _ => L.length - (intOf i).toNat)
        case atStart => exact ⟨0, Nat.zero_le _, rfl, Below.refl _ _⟩
        case round =>
          obtain ⟨wi, rfl⟩ : ∃ wi : World, wi = wr := ⟨_, rfl⟩
          obtain ⟨j, hj, rfl, hb⟩ := hrel
          have HJ := Lib.hid hb
          have GAJ := Lib.hid (GA2.out.below hb)
          have XJ := Lib.hid (XX.out.below hb hs5)
          have GBJ := Lib.hid ((GB2.out.below hb).below ((Below.refl _ _).alloc (Nat.le_refl _) (Obj.cells #[] 49)))
          have hsj := hb.size
          clear hb GBJ
          by_cases hlj : j < L.length
          · obtain ⟨b', off', yy, e', hbl', hD', hd'⟩ := SD_at GAJ.out.recs hlj
            simp only [Option.some.injEq, Addr.mk.injEq] at e'
            obtain ⟨rfl, rfl, -⟩ := e'
            obtain ⟨c0, c1, c2, c3, c4⟩ := hD'
            have hj0 : (0 : Int) ≤ (j : Int) := Int.natCast_nonneg _
            have hj1 : (j : Int) < (L.length : Int) := by omega
            have YA := DAt.new wi yy 49
            have GB3 := Lib.hid ((GB2.out.below HJ.out).below ((Below.refl _ _).alloc (Nat.le_refl _) (Obj.cells #[.int .i64 yy.num, .int .i64 yy.dec, .int .i64 yy.due, .int .i64 yy.amt, .int .i64 yy.left] 49)))
            have XY := XJ.out.below ((Below.refl _ _).alloc (Nat.le_refl _) (Obj.cells #[.int .i64 yy.num, .int .i64 yy.dec, .int .i64 yy.due, .int .i64 yy.amt, .int .i64 yy.left] 49)) (by omega)
            obtain ⟨q0, q1, q2, q3, q4⟩ := YA
            obtain ⟨h0, h1, h2, h3, h4⟩ := XY
            obtain ⟨e0, e1, e2, -, -, -, -⟩ := GB3.out.box
            have BB : Below wi.heap.size wi (wi.alloc (Obj.cells #[.int .i64 yy.num, .int .i64 yy.dec, .int .i64 yy.due, .int .i64 yy.amt, .int .i64 yy.left] 49)) := (Below.refl _ _).alloc (Nat.le_refl _) _
            by_cases z1 : yy.due < xx.due
            · go_wp2
              go_roundw
              case rel => exact ⟨j + 1, by omega, by go_num, balloc (Nat.le_refl _) HJ.out (Obj.cells #[.int .i64 yy.num, .int .i64 yy.dec, .int .i64 yy.due, .int .i64 yy.amt, .int .i64 yy.left] 49)⟩
              case measure => simp [intOf]; omega
            · cases z2 : (yy.due == xx.due)
              · go_wp2
                go_roundw
                case rel => exact ⟨j + 1, by omega, by go_num, balloc (Nat.le_refl _) HJ.out (Obj.cells #[.int .i64 yy.num, .int .i64 yy.dec, .int .i64 yy.due, .int .i64 yy.amt, .int .i64 yy.left] 49)⟩
                case measure => simp [intOf]; omega
              · by_cases z3 : yy.num < xx.num
                · go_wp2
                  go_roundw
                  case rel => exact ⟨j + 1, by omega, by go_num, balloc (Nat.le_refl _) HJ.out (Obj.cells #[.int .i64 yy.num, .int .i64 yy.dec, .int .i64 yy.due, .int .i64 yy.amt, .int .i64 yy.left] 49)⟩
                  case measure => simp [intOf]; omega
                · go_wp2
                  go_roundw
                  case rel => exact ⟨j + 1, by omega, by go_num, balloc (Nat.le_refl _) HJ.out (Obj.cells #[.int .i64 yy.num, .int .i64 yy.dec, .int .i64 yy.due, .int .i64 yy.amt, .int .i64 yy.left] 49)⟩
                  case measure => simp [intOf]; omega
          · obtain rfl : j = L.length := by omega
            clear hj hlj
            go_wp2
            go_roundw
            case rel => exact ⟨k + 1, by omega, by go_num, bnext B6.out (by have := B6.out.size; omega) HJ.out⟩
            case measure => simp [intOf]; omega
    · obtain rfl : k = L.length := by omega
      go_wp2_with (first | (go_at_call 32; refine (awake39_any _).mono ?_; rintro e w9 ⟨rfl, hb9⟩))
      go_ret
      exact ⟨rfl, bstep le (bstep le B5.out HB.out) hb9⟩

end Go.Proofs.Ytdnddikchchdkaa
