/-
  THE WALK over law39.DebtKeeps.
-/
import Derived.Test.YtdnddikchchdkaaD26
import Derived.Test.YtdnddikchchdkaaBd
import Derived.Test.YtdnddikchchdkaaD2
namespace Go.Proofs.Ytdnddikchchdkaa
open Go.RowKit

theorem tmod_u {x n : Int} (h : 0 ≤ x) (hn : 0 < n) : x.tmod n = x % n ∧ 0 ≤ x % n ∧ x % n < n :=
  ⟨Int.tmod_eq_emod_of_nonneg h, Int.emod_nonneg _ (by omega), Int.emod_lt_of_pos _ hn⟩

theorem off_fine {farm : Int} {L : List De.Dbt} {next day amount : Int} (hR : De.Right farm L next) (d0 : 0 ≤ day ∧ day ≤ 36864) (a0 : 0 ≤ amount ∧ amount ≤ 68719476736) : oErr farm L next day amount = 0 := by
  unfold oErr
  rw [De.chk_ok hR, De.dayB_iff.2 d0, if_neg (by omega), if_neg (by simp), if_neg (by omega)]

theorem De.Right.sum0 {farm : Int} {L : List De.Dbt} {next : Int} (h : De.Right farm L next) : 0 ≤ De.sum L ∧ De.sum L ≤ 68719476736 := by
  have := left_bd h L.length
  rw [List.take_length] at this
  exact this

theorem c_ok {farm : Int} {L : List De.Dbt} {next of due amount : Int} (e : De.cErr farm L next of due amount = 0) : De.sum (De.cList farm L next of due amount) = De.sum L + amount ∧ De.cNum farm L next of due amount = next := by
  unfold De.cList De.cNum
  rw [if_neg (fun k => k e), if_neg (fun k => k e), De.sum_append]
  simp [De.sum]

theorem c_codes (farm : Int) (L : List De.Dbt) (next of due amount : Int) : De.cErr farm L next of due amount = 0 ∨ De.cErr farm L next of due amount = 22 ∨ De.cErr farm L next of due amount = 76 ∨ De.cErr farm L next of due amount = 9 ∨ De.cErr farm L next of due amount = 67 ∨ De.cErr farm L next of due amount = 73 := by
  unfold De.cErr
  split
  · simp
  split
  · simp
  split
  · simp
  split
  · simp
  split <;> simp

/-- The debts of an account of 'Account', in a later world. -/
theorem Recs.but' {α : Type} {S : Shape α} {w0 w w' : World} {p : Option Addr} {L : List α} (h : Recs S w p L) (hb : But w0.heap.size w w') (hn : ∀ x, p = some x → w0.heap.size < x.block) : Recs S w' p L := h.but hb fun x e => by have := hn x e; omega

set_option maxRecDepth 100000 in
set_option maxHeartbeats 16000000 in
theorem debtKeeps_walk (a : Option Addr) (len cap : Nat) (z : List Int) (x y : Int) (w : World) (w0 : IsRow .i64 w a len cap z) (w1 : (Lit.int .u16 x).wf = true) (w2 : (Lit.int .u8 y).wf = true) :
    Calls Try.prog 4 #[.slice a len cap, .int .u16 x, .int .u8 y] w fun e w' => e = .returned (.bool true) ∧ Below w.heap.size w w' := by
  obtain ⟨x0, x1⟩ := bd_u16 w1
  obtain ⟨y0, y1⟩ := bd_u8 w2
  have HN := Lib.hid (new_any a len cap z w w0)
  clear w0 w1 w2
  generalize (z.take len).take 400 = l at *
  obtain ⟨hmx, n0, n1⟩ := tmod_u x0 (n := 2000) (by omega)
  obtain ⟨hmy, d0, d1⟩ := tmod_u y0 (n := 25) (by omega)
  generalize x % 2000 = n at *
  generalize y % 25 = d at *
  have AC := Lib.hid (fun (W : World) (h : TapeAt W w.heap.size l 0) => account39_any w.heap.size l 0 W h)
  have AO := Lib.hid (fun (farm next : Int) (p : Option Addr) (L : List De.Dbt) (c : Nat) (W : World) => offset39_any farm next p L c d n W)
  have AG := Lib.hid (fun (farm next : Int) (p : Option Addr) (L : List De.Dbt) (c : Nat) (W : World) => charge39_any farm next p L c 5 d (n + 1) W)
  have AW := Lib.hid (fun (farm next : Int) (p : Option Addr) (L : List De.Dbt) (c : Nat) (W : World) => owed39_any farm next p L c W)
  have AK := Lib.hid (fun (farm next : Int) (p : Option Addr) (L : List De.Dbt) (c : Nat) (W : World) => check39_any farm next p L c W)
  unfold accV at AO AG AW AK
  go_enter Try.func4, Try.ntmps4
  go_wp2_with (first | (go_at_call 10; refine (HN.out).mono ?_; rintro e w1 ⟨rfl, ht, hb1⟩) | (go_at_call 27; refine Calls.mono (AC.out _ ht) ?_; rintro e w2 ⟨farm, p, L, ca, next, q, rfl, hR, hD, hnil, hnew, ht2, hbt⟩; unfold accV; have H3 := Lib.hid (AccAt.new (farm := farm) (next := next) hD hnil 42); have hl40 := hR.len; have B3 := Lib.hid (balloc (Nat.le_refl _) (hb1.trans (hbt.below (Nat.le_refl _) hb1.size)) (Obj.cells #[.int .i64 farm, .slice p L.length ca, .int .i64 next] 42))) | (go_at_call 28; refine Calls.mono (AO.out farm next p L ca _ H3.out.recs hnil (by omega)) ?_; rintro e w4 ⟨pb, cb, Lb, r, rfl, ho, hlb⟩; unfold accV; rw [off_fine hR (by omega) (by omega), if_pos rfl] at ho; rw [off_fine hR (by omega) (by omega)]))
  have le := Nat.le_refl w.heap.size
  obtain ⟨r0, r1, hsum, hpos, hfine, hund⟩ := ho.keeps hR.fine n0
  have hRb := hR.under hund hfine
  have A5 := (H3.out.below hlb.below).below ((Below.refl _ _).alloc (Nat.le_refl _) (Obj.cells #[.int .i64 farm, .slice pb Lb.length cb, .int .i64 next] 42))
  have E5 := AccAt.new (farm := farm) (next := next) hlb.recs hlb.nil 42
  have B5 := Lib.hid (balloc le (bstep le B3.out hlb.below) (Obj.cells #[.int .i64 farm, .slice pb Lb.length cb, .int .i64 next] 42))
  obtain ⟨sl, esl⟩ : ∃ x, De.sum L = x := ⟨_, rfl⟩
  obtain ⟨sb, esb⟩ : ∃ x, De.sum Lb = x := ⟨_, rfl⟩
  have sl0 := hR.sum0
  have sb0 := hRb.sum0
  rw [esl] at sl0 hsum
  rw [esb] at sb0 hsum
  have W1 := Lib.hid (fun (p : Option Addr) (c : Nat) (W : World) (h : Debts W p L) => by have k := AW.out farm next p L c W h; rw [owed_ok hR, esl] at k; exact k)
  have W2 := Lib.hid (fun (p : Option Addr) (c : Nat) (W : World) (h : Debts W p Lb) => by have k := AW.out farm next p Lb c W h; rw [owed_ok hRb, esb] at k; exact k)
  have W3 := Lib.hid (fun (p : Option Addr) (c : Nat) (W : World) (h : Debts W p Lb) => by have k := AK.out farm next p Lb c W h; rw [De.chk_ok hRb] at k; exact k)
  have SU := Lib.hid (And.intro esl esb)
  have hw1 : IntKind.i64.wrap (sl - sb) = n - r := by rw [IntKind.wrap_i64]; omega
  have hw2 : IntKind.i64.wrap (n - r) = n - r := by rw [IntKind.wrap_i64]; omega
  obtain ⟨s0, s1⟩ := sl0
  obtain ⟨z0, z1⟩ := sb0
  have RR := Lib.hid hR
  have RB := Lib.hid hRb
  have HP := Lib.hid hpos
  clear AC AO AK ht hb1 ht2 hbt hD hnew ho hlb hfine hund hpos hR hRb H3 B3 HN
  obtain ⟨wz, ez⟩ : ∃ W : World, w4.alloc (Obj.cells #[.int .i64 farm, .slice pb Lb.length cb, .int .i64 next] 42) = W := ⟨_, rfl⟩
  rw [ez] at A5 E5 B5 ⊢
  clear ez
  have GA := Lib.hid A5
  have GB := Lib.hid E5
  obtain ⟨a0, a1, a2, -, -, -, a6⟩ := A5.box
  obtain ⟨b0, b1, b2, -, -, -, b6⟩ := E5.box
  clear A5 E5
  have g1 : decide (r < 0) = false := decide_eq_false (by omega)
  have g2 : decide (n < r) = false := decide_eq_false (by omega)
  have g3 : ((n - r) != (n - r)) = false := by simp
  have HA := Lib.hid (GA.out.below (drewN_below wz 1))
  have HB := Lib.hid (GB.out.below (drewN_below wz 1))
  go_wp2_with fail
  go_region_held3 (fun w' => w'.cell? ⟨w2.heap.size, 0, none⟩ = some (.int .i64 farm) ∧ w'.cell? ⟨w2.heap.size, 1, none⟩ = some (.slice p L.length ca) ∧ w'.cell? ⟨w2.heap.size, 2, none⟩ = some (.int .i64 next) ∧ w'.cell? ⟨w4.heap.size, 0, none⟩ = some (.int .i64 farm) ∧ w'.cell? ⟨w4.heap.size, 1, none⟩ = some (.slice pb Lb.length cb) ∧ w'.cell? ⟨w4.heap.size, 2, none⟩ = some (.int .i64 next)) (first | exact ⟨a0, a1, a2, b0, b1, b2⟩ | exact ⟨A5.out.box.a0, A5.out.box.a1, A5.out.box.a2, C5.out.box.a0, C5.out.box.a1, C5.out.box.a2⟩ | exact ⟨A6.out.box.a0, A6.out.box.a1, A6.out.box.a2, C6.out.box.a0, C6.out.box.a1, C6.out.box.a2⟩ | exact ⟨A7.out.box.a0, A7.out.box.a1, A7.out.box.a2, C7.out.box.a0, C7.out.box.a1, C7.out.box.a2⟩) (first | (go_at_call 29; refine Calls.mono (W1.out p ca _ HA.out.recs) ?_; clear W1; rintro e w5 ⟨rfl, hb5⟩; have A5 := Lib.hid (HA.out.below hb5); have C5 := Lib.hid (HB.out.below hb5)) | (go_at_call 29; refine Calls.mono (W2.out pb cb _ C5.out.recs) ?_; rintro e w6 ⟨rfl, hb6⟩; have A6 := Lib.hid (A5.out.below hb6); have C6 := Lib.hid (C5.out.below hb6)) | (go_at_call 30; refine Calls.mono (W3.out pb cb _ C6.out.recs) ?_; rintro e w7 ⟨rfl, hb7⟩; have A7 := Lib.hid (A6.out.below hb7); have C7 := Lib.hid (C6.out.below hb7)))
  obtain ⟨k0, k1, k2, -, -, -, k6⟩ := A7.out.box
  obtain ⟨l0, l1, l2, -, -, -, l6⟩ := C7.out.box
  have hnb := C7.out.recs.len
  have B7 := Lib.hid (bstep le (bstep le (bstep le (bstep le B5.out (drewN_below _ 1)) hb5) hb6) hb7)
  have GA := Lib.hid A7.out
  have GB := Lib.hid C7.out
  clear a0 a1 a2 a6 b0 b1 b2 b6 HA HB A5 A6 A7 C5 C6 C7 hb5 hb6 hb7 B5
  go_wp2
  clear k0 k1 k2 k6 l0 l1 l2 l6 g1 g2 g3
  go_loopw [67] (fun i wr => ∃ k : Nat, k ≤ Lb.length ∧ i = .int .i64 k ∧ Below w7.heap.size w7 wr) (fun i _ => Lb.length - (intOf i).toNat)
  case atStart => exact ⟨0, Nat.zero_le _, rfl, Below.refl _ _⟩
  case round =>
    obtain ⟨k, hk, rfl, hb⟩ := hrel
    have HB := Lib.hid hb
    have GB' := Lib.hid (GB.out.below hb)
    have hsz := hb.size
    clear hb
    by_cases hlt : k < Lb.length
    · obtain ⟨b, off, dd, rfl, hbl, hD, hd⟩ := SD_at GB'.out.recs hlt
      obtain ⟨c0, c1, c2, c3, c4⟩ := hD
      have hk0 : (0 : Int) ≤ (k : Int) := Int.natCast_nonneg _
      have hk1 : (k : Int) < (Lb.length : Int) := by omega
      have HD := Lib.hid (fun (hr : 0 < r) => hd.out ▸ HP.out hr _ (De.g_mem hlt))
      clear hd
      by_cases y1 : dd.due ≤ d
      · have y2 : ¬ 0 < r := fun h => by have := HD.out h; omega
        go_wp2
        go_roundw
        case rel => exact ⟨k + 1, by omega, by go_num, balloc (Nat.le_refl _) HB.out _⟩
        case measure => simp [intOf]; omega
      · go_wp2
        go_roundw
        case rel => exact ⟨k + 1, by omega, by go_num, balloc (Nat.le_refl _) HB.out _⟩
        case measure => simp [intOf]; omega
    · obtain rfl : k = Lb.length := by omega
      have GA' := Lib.hid (GA.out.below HB.out)
      have BX := Lib.hid (bstep le B7.out HB.out)
      obtain ⟨a0, a1, a2, a3, a4, a5, a6⟩ := GA'.out.box
      clear HB GB GA B7 GB' hlt hk hsz
      have AGX := Lib.hid (AG.out farm next p L ca wr GA'.out.recs GA'.out.nil (by omega))
      clear AG
      cases hE : (De.cErr farm L next 5 d (n + 1) == 0)
      · have hE2 : (De.cErr farm L next 5 d (n + 1) != 0) = true := by simpa using hE
        generalize De.cErr farm L next 5 d (n + 1) = er at *
        generalize De.cList farm L next 5 d (n + 1) = Lc at *
        generalize De.cNext farm L next 5 d (n + 1) = nc at *
        generalize De.cNum farm L next 5 d (n + 1) = nu at *
        go_wp2_with (first | (go_at_call 31; refine Calls.mono AGX.out ?_; rintro e w8 ⟨pc, cc, rfl, hlc⟩; unfold accV; have B8 := Lib.hid (balloc le (bstep le BX.out hlc.below) (Obj.cells #[.int .i64 farm, .slice pc Lc.length cc, .int .i64 nc] 42))))
        obtain ⟨wy, ey⟩ : ∃ W : World, w8.alloc (Obj.cells #[.int .i64 farm, .slice pc Lc.length cc, .int .i64 nc] 42) = W := ⟨_, rfl⟩
        rw [ey] at B8 ⊢
        clear ey
        refine wp_tail 19 (by kernel_rfl) (by kernel_rfl) ?_
        simp only [List.take_succ_cons, List.take_zero, List.drop_succ_cons, List.drop_zero]
        have hne : ¬ er = 0 := by simpa using hE
        clear AGX AW W2 W3 SU RR RB HP GA' BX hlc a0 a1 a2 a3 a4 a5 a6 hsum esl esb hw1 hw2 hnil hl40 hnb hmx hmy hE hE2
        repeat (first | still_step | (refine wpStill_step (fun K hK => ?_); go_simp; rw [if_neg hne]; refine hK _ ?_; clear hK K))
        refine wpStill_nil ?_
        change wpList _ _ _ _ _ (World.drew _)
        go_wp2_with (first | (go_at_call 32; refine Calls.mono (awake39_any _) ?_; rintro e w9 ⟨rfl, hb9⟩))
        go_ret
        exact ⟨rfl, bstep le (bstep le B8.out (drewN_below _ 1)) hb9⟩
      · have e0 : De.cErr farm L next 5 d (n + 1) = 0 := by simpa using hE
        obtain ⟨q1, q2⟩ := c_ok e0
        have hRc := RR.out.cnt 5 d (n + 1)
        have AGY := AGX.out
        rw [e0, q2] at AGY
        rw [SU.out.1, show sl + (n + 1) = sl + n + 1 by omega] at q1
        have hw3 : IntKind.i64.wrap (sl + n) = sl + n := by rw [IntKind.wrap_i64]; omega
        have hw4 : IntKind.i64.wrap (sl + n + 1) = sl + n + 1 := by rw [IntKind.wrap_i64]; omega
        generalize De.cList farm L next 5 d (n + 1) = Lc at *
        generalize De.cNext farm L next 5 d (n + 1) = nc at *
        have V1 := Lib.hid (fun (p : Option Addr) (c : Nat) (W : World) (h : Debts W p Lc) => by have k := AW.out farm nc p Lc c W h; rw [owed_ok hRc, q1] at k; exact k)
        have V2 := Lib.hid (fun (p : Option Addr) (c : Nat) (W : World) (h : Debts W p L) => by have k := AW.out farm next p L c W h; rw [owed_ok RR.out, SU.out.1] at k; exact k)
        have AGZ := Lib.hid AGY
        clear AGY AGX q1 q2 e0 hE hRc AW
        go_wp2_with (first | (go_at_call 31; refine Calls.mono AGZ.out ?_; rintro e w8 ⟨pc, cc, rfl, hlc⟩; unfold accV; have B8 := Lib.hid (balloc le (bstep le BX.out hlc.below) (Obj.cells #[.int .i64 farm, .slice pc Lc.length cc, .int .i64 nc] 42)); have hd9 := (Below.refl (w8.alloc (Obj.cells #[.int .i64 farm, .slice pc Lc.length cc, .int .i64 nc] 42)).heap.size (w8.alloc (Obj.cells #[.int .i64 farm, .slice pc Lc.length cc, .int .i64 nc] 42))).drew; have A9 := Lib.hid (((GA'.out.below hlc.below).below ((Below.refl _ _).alloc (Nat.le_refl _) (Obj.cells #[.int .i64 farm, .slice pc Lc.length cc, .int .i64 nc] 42))).below hd9); have C9 := Lib.hid ((AccAt.new (farm := farm) (next := nc) hlc.recs hlc.nil 42).below hd9)))
        go_region_held3 (fun w' => w'.cell? ⟨w2.heap.size, 0, none⟩ = some (.int .i64 farm) ∧ w'.cell? ⟨w2.heap.size, 1, none⟩ = some (.slice p L.length ca) ∧ w'.cell? ⟨w2.heap.size, 2, none⟩ = some (.int .i64 next) ∧ w'.cell? ⟨w8.heap.size, 0, none⟩ = some (.int .i64 farm) ∧ w'.cell? ⟨w8.heap.size, 1, none⟩ = some (.slice pc Lc.length cc) ∧ w'.cell? ⟨w8.heap.size, 2, none⟩ = some (.int .i64 nc)) (first | exact ⟨A9.out.box.a0, A9.out.box.a1, A9.out.box.a2, C9.out.box.a0, C9.out.box.a1, C9.out.box.a2⟩ | exact ⟨A10.out.box.a0, A10.out.box.a1, A10.out.box.a2, C10.out.box.a0, C10.out.box.a1, C10.out.box.a2⟩ | exact ⟨A11.out.box.a0, A11.out.box.a1, A11.out.box.a2, C11.out.box.a0, C11.out.box.a1, C11.out.box.a2⟩ | exact ⟨A12.out.box.a0, A12.out.box.a1, A12.out.box.a2, C12.out.box.a0, C12.out.box.a1, C12.out.box.a2⟩) (first | (go_at_call 29; refine Calls.mono (V1.out pc cc _ C9.out.recs) ?_; clear V1; rintro e w10 ⟨rfl, hb10⟩; have A10 := Lib.hid (A9.out.below hb10); have C10 := Lib.hid (C9.out.below hb10)) | (go_at_call 29; refine Calls.mono (V2.out p ca _ A10.out.recs) ?_; rintro e w11 ⟨rfl, hb11⟩; have A11 := Lib.hid (A10.out.below hb11); have C11 := Lib.hid (C10.out.below hb11)) | (go_at_call 32; refine Calls.mono (awake39_any _) ?_; rintro e w12 ⟨rfl, hb12⟩; have A12 := Lib.hid (A11.out.below hb12); have C12 := Lib.hid (C11.out.below hb12)))
        go_wp2
        go_ret
        exact ⟨rfl, bstep le (bstep le (bstep le (bstep le B8.out (drewN_below _ 1)) hb10) hb11) hb12⟩

end Go.Proofs.Ytdnddikchchdkaa
