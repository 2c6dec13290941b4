/-
  THE WALK over law39.DebtAnswers.
-/
import Derived.Test.YtdnddikchchdkaaD40
import Derived.Deep.DeepCutAuto
import Derived.Test.YtdnddikchchdkaaD3
import Derived.Test.YtdnddikchchdkaaD21
import Derived.Test.YtdnddikchchdkaaD24
namespace Go.Proofs.Ytdnddikchchdkaa
open Go.RowKit

theorem acc_keep {w w' : World} {b n c : Nat} {farm next : Int} {p : Option Addr} {B : Nat} (h : BoxA w b farm p n c next) (hb : Below B w w') (hB : b < B) : w'.cell? ⟨b, 0, none⟩ = some (.int .i64 farm) ∧ w'.cell? ⟨b, 1, none⟩ = some (.slice p n c) ∧ w'.cell? ⟨b, 2, none⟩ = some (.int .i64 next) :=
  ⟨(h.below hb hB).a0, (h.below hb hB).a1, (h.below hb hB).a2⟩

theorem IsRow.below {k : IntKind} {w w' : World} {a : Option Addr} {len cap : Nat} {zs : List Int} (h : IsRow k w a len cap zs) (hb : Below w.heap.size w w') : IsRow k w' a len cap zs := by
  rcases h with h | ⟨x, e, h1, h2, h3, h4, h5⟩
  · exact .inl h
  · exact .inr ⟨x, e, h1, h2, h3, fun i hi => (hb.cell (World.block_lt_of_cell? w _ (h4 i hi))).trans (h4 i hi), h5⟩

theorem AccAt.butE {w w' : World} {t bx : Nat} {farm next : Int} {p : Option Addr} {c : Nat} {L : List De.Dbt} (h : AccAt w bx farm next p c L) (hb : But t w w') (hn : bx ≠ t) (hp : L = [] ∨ ∀ a, p = some a → a.block ≠ t) : AccAt w' bx farm next p c L := by
  refine ⟨h.box.but hb hn, ?_, h.nil⟩
  rcases hp with e | hp
  · subst e; exact Recs.nil _ _
  · exact h.recs.but hb hp

/-- One of three accounts in a block. -/
structure Sel (w : World) (b k : Nat) (farm : Int) (p : Option Addr) (c : Nat) (L : List De.Dbt) (next : Int) : Prop where
  c0 : w.cell? ⟨b, k * 3, none⟩ = some (.int .i64 farm)
  c1 : w.cell? ⟨b, k * 3 + 1, none⟩ = some (.slice p L.length c)
  c2 : w.cell? ⟨b, k * 3 + 2, none⟩ = some (.int .i64 next)
  recs : Debts w p L
  nil : p = none → c = 0
  len : L.length ≤ 50

theorem sel3 {w : World} {T : TypeId} {f0 f1 f2 x0 x1 x2 : Int} {p0 p1 p2 : Option Addr} {L0 L1 L2 : List De.Dbt} {c0 c1 c2 : Nat} (h0 : Debts w p0 L0) (h1 : Debts w p1 L1) (h2 : Debts w p2 L2) (n0 : p0 = none → c0 = 0) (n1 : p1 = none → c1 = 0) (n2 : p2 = none → c2 = 0) (l0 : L0.length ≤ 50) (l1 : L1.length ≤ 50) (l2 : L2.length ≤ 50) :
    ∀ k, k < 3 → ∃ farm p c L next, Sel (w.alloc (.cells #[.int .i64 f0, .slice p0 L0.length c0, .int .i64 x0, .int .i64 f1, .slice p1 L1.length c1, .int .i64 x1, .int .i64 f2, .slice p2 L2.length c2, .int .i64 x2] T)) w.heap.size k farm p c L next := by
  intro k hk
  have hb : Below w.heap.size w (w.alloc (.cells #[.int .i64 f0, .slice p0 L0.length c0, .int .i64 x0, .int .i64 f1, .slice p1 L1.length c1, .int .i64 x1, .int .i64 f2, .slice p2 L2.length c2, .int .i64 x2] T)) := (Below.refl _ _).alloc (Nat.le_refl _) _
  match k, hk with
  | 0, _ => exact ⟨f0, p0, c0, L0, x0, by go_simp, by go_simp, by go_simp, h0.below hb, n0, l0⟩
  | 1, _ => exact ⟨f1, p1, c1, L1, x1, by go_simp, by go_simp, by go_simp, h1.below hb, n1, l1⟩
  | 2, _ => exact ⟨f2, p2, c2, L2, x2, by go_simp, by go_simp, by go_simp, h2.below hb, n2, l2⟩

theorem kb3 {w : World} {b n c : Nat} {farm next : Int} {p : Option Addr} (h : BoxA w b farm p n c next) : w.cell? ⟨b, 0, none⟩ = some (.int .i64 farm) ∧ w.cell? ⟨b, 1, none⟩ = some (.slice p n c) ∧ w.cell? ⟨b, 2, none⟩ = some (.int .i64 next) := ⟨h.a0, h.a1, h.a2⟩

set_option maxRecDepth 100000 in
set_option maxHeartbeats 32000000 in
theorem debtAnswers_walk (PR : PairRound) (a : Option Addr) (len cap : Nat) (z : List Int) (farm0 : Int) (p0 : Option Addr) (L0 : List De.Dbt) (c0 : Nat) (next0 decision day amount mille number by_ : Int) (w : World) (w0 : IsRow .i64 w a len cap z) (hD0 : Debts w p0 L0) (hn0 : p0 = none → c0 = 0)
    (wa : (Lit.int .i64 decision).wf = true) (wb : (Lit.int .i64 day).wf = true) (wc : (Lit.int .i64 amount).wf = true) (wd : (Lit.int .i64 mille).wf = true) (we : (Lit.int .i64 number).wf = true) (_wf : (Lit.int .i64 by_).wf = true) :
    Calls Try.prog 7 #[.slice a len cap, accV farm0 p0 L0.length c0 next0, .int .i64 decision, .int .i64 day, .int .i64 amount, .int .i64 mille, .int .i64 number, .int .i64 by_] w fun e w' => e = .returned (.bool true) ∧ Below w.heap.size w w' := by
  have PRH := Lib.hid PR
  clear PR
  obtain ⟨wa0, wa1⟩ := bd_i64 wa
  obtain ⟨wb0, wb1⟩ := bd_i64 wb
  obtain ⟨wc0, wc1⟩ := bd_i64 wc
  obtain ⟨wd0, wd1⟩ := bd_i64 wd
  obtain ⟨we0, we1⟩ := bd_i64 we
  clear wa wb wc wd we _wf
  have hlm := hD0.len
  unfold accV
  by_cases hlen : 50 < L0.length
  · have hlI : (50 : Int) < (L0.length : Int) := by omega
    clear w0 hD0 hn0
    go_enter Try.func7, Try.ntmps7
    go_wp2_with (first | (go_at_call 32; refine (awake39_any _).mono ?_; rintro e w9 ⟨rfl, hb9⟩))
    go_ret
    exact ⟨rfl, bstep (Nat.le_refl _) ((Below.refl _ _).alloc (Nat.le_refl _) _) hb9⟩
  have hlI : ¬ (50 : Int) < (L0.length : Int) := by omega
  have le := Nat.le_refl w.heap.size
  have hb0 : Below w.heap.size w (w.alloc (Obj.cells #[.int .i64 farm0, .slice p0 L0.length c0, .int .i64 next0] 42)) := (Below.refl _ _).alloc (Nat.le_refl _) _
  have A0 := Lib.hid (AccAt.new (farm := farm0) (next := next0) hD0 hn0 42)
  have HN := Lib.hid (new_any a len cap z _ (w0.below hb0))
  have B0 := Lib.hid hb0
  clear w0 hb0
  generalize (z.take len).take 400 = l at *
  have AC := Lib.hid (fun (t : Nat) (W : World) (h : TapeAt W t l 0) => account39_any t l 0 W h)
  have AP := Lib.hid (fun (t q : Nat) (W : World) (h : TapeAt W t l q) => spoilt39_any t l q by_ W h)
  go_enter Try.func7, Try.ntmps7
  go_upto_region 4 with (first | (go_at_call 10; refine (HN.out).mono ?_; rintro e w1 ⟨rfl, ht, hb1⟩))
  have hl0 := ht.lt
  have hs1 := hb1.size
  simp only [World.size_alloc] at hs1
  have hd1 : Below w1.heap.size w1 w1.drew := (Below.refl _ _).drew
  have A1 := Lib.hid ((A0.out.below hb1).below hd1)
  have HT := Lib.hid (ht.below hd1)
  have hap := hD0.aparts (b := (w.alloc (Obj.cells #[.int .i64 farm0, .slice p0 L0.length c0, .int .i64 next0] 42)).heap.size) (by simp)
  have AP0 := Lib.hid hap
  simp only [World.size_alloc] at HT AP0 ht
  have K1 := Lib.hid (kb3 A1.out.box)
  have B1 := Lib.hid (bstep le (bstep le B0.out hb1) hd1)
  clear ht hb1 hd1 hap A0 B0 hD0
  go_wp2_with fail
  go_region_held3 (fun w' => w'.cell? ⟨w.heap.size, 0, none⟩ = some (.int .i64 farm0) ∧ w'.cell? ⟨w.heap.size, 1, none⟩ = some (.slice p0 L0.length c0) ∧ w'.cell? ⟨w.heap.size, 2, none⟩ = some (.int .i64 next0)) (first | with_reducible exact K1.out | with_reducible exact K2.out | with_reducible exact K3.out | with_reducible exact K4.out _) (first | (go_at_call 27; (with_reducible refine Calls.mono (AC.out _ _ HT.out) ?_); rintro e w2 ⟨f1, p1, L1, c1, n1, q1, rfl, hR1, hD1, hn1, hx1, ht2, hb2⟩; unfold accV; have A2 := Lib.hid (A1.out.butE hb2 (by omega) AP0.out); have K2 := Lib.hid (kb3 A2.out.box)) | (go_at_call 35; refine Calls.mono (AP.out _ _ _ ht2) ?_; rintro e w3 ⟨f2, p2, L2, c2, n2, q2, rfl, hl2, hD2, hn2, hx2, ht3, hb3⟩; unfold accV; have A3 := Lib.hid (A2.out.butE hb3 (by omega) AP0.out); have K3 := Lib.hid (kb3 A3.out.box); have K4 := Lib.hid (fun (o : Obj) => kb3 (A3.out.box.below ((Below.refl _ _).alloc (Nat.le_refl _) o) A3.out.box.lt)); have G1 := Lib.hid (hD1.but hb3 (fun x e => by have h1 := hx1 x e; have h2 := hl0; simp only [World.size_drew, World.size_alloc] at h1 h2; omega))))
  have hs2 := hb2.size
  have hs3 := hb3.size
  simp only [World.size_drew] at hs2
  have SEL := Lib.hid (sel3 (T := 42) (f0 := f1) (f1 := f2) (f2 := farm0) (x0 := n1) (x1 := n2) (x2 := next0) G1.out hD2 A3.out.recs hn1 hn2 hn0 (by have := hR1.len; omega) (by omega) (by omega))
  have B4 := Lib.hid (balloc le ((B1.out.trans (hb2.below (by omega) (by simp only [World.size_drew]; omega))).trans (hb3.below (by omega) (by omega))) (Obj.cells #[.int .i64 f1, .slice p1 L1.length c1, .int .i64 n1, .int .i64 f2, .slice p2 L2.length c2, .int .i64 n2, .int .i64 farm0, .slice p0 L0.length c0, .int .i64 next0] 42))
  have hbs : w3.heap.size < (w3.alloc (Obj.cells #[.int .i64 f1, .slice p1 L1.length c1, .int .i64 n1, .int .i64 f2, .slice p2 L2.length c2, .int .i64 n2, .int .i64 farm0, .slice p0 L0.length c0, .int .i64 next0] 42)).heap.size := by simp
  clear A1 A2 A3 K1 K2 K3 K4 G1 hR1 hD1 hD2 hn1 hn2 hn0 hx1 hx2 ht2 ht3 hb2 hb3 HT AP0 B1 AC AP HN hl2
  obtain ⟨wb, eb⟩ : ∃ W : World, w3.alloc (Obj.cells #[.int .i64 f1, .slice p1 L1.length c1, .int .i64 n1, .int .i64 f2, .slice p2 L2.length c2, .int .i64 n2, .int .i64 farm0, .slice p0 L0.length c0, .int .i64 next0] 42) = W := ⟨_, rfl⟩
  rw [eb] at SEL B4 hbs ⊢
  clear eb
  obtain ⟨bs, ebs⟩ : ∃ b : Nat, w3.heap.size = b := ⟨_, rfl⟩
  rw [ebs] at SEL hbs ⊢
  clear ebs hs2 hs3
  go_wp2
  go_loopw [57] (fun i wr => ∃ k : Nat, k ≤ 3 ∧ i = .int .i64 k ∧ Below wb.heap.size wb wr) (fun i _ => 3 - (intOf i).toNat)
  case atStart => exact ⟨0, by omega, rfl, Below.refl _ _⟩
  case round =>
    obtain ⟨wo, rfl⟩ : ∃ wo : World, wo = wr := ⟨_, rfl⟩
    obtain ⟨k, hk, rfl, hb⟩ := hrel
    have HB := Lib.hid hb
    have hszo := hb.size
    by_cases hlt : k < 3
    · obtain ⟨farm, p, c, L, next, hS⟩ := SEL.out k hlt
      have q0 := (hb.cell (p := ⟨bs, k * 3, none⟩) hbs).trans hS.c0
      have q1 := (hb.cell (p := ⟨bs, k * 3 + 1, none⟩) hbs).trans hS.c1
      have q2 := (hb.cell (p := ⟨bs, k * 3 + 2, none⟩) hbs).trans hS.c2
      have hk0 : (0 : Int) ≤ (k : Int) := Int.natCast_nonneg _
      have hk1 : (k : Int) < 3 := by omega
      have h50 := hS.len
      have AX := Lib.hid ((AccAt.new (farm := farm) (next := next) (hS.recs.below hb) hS.nil 42).below ((Below.refl _ _).drew))
      have K5 := Lib.hid (kb3 AX.out.box)
      obtain ⟨ck, eck⟩ : ∃ x, De.chk farm L next = x := ⟨_, rfl⟩
      obtain ⟨ow, eow⟩ : ∃ x, owedV farm L next = x := ⟨_, rfl⟩
      have V1 := Lib.hid (fun (W : World) (h : Debts W p L) => by have k := check39_any farm next p L c W h; rw [eck] at k; unfold accV at k; exact k)
      have V2 := Lib.hid (fun (W : World) (h : Debts W p L) => by have k := refcheck39_any farm next p L c W h; rw [eck] at k; unfold accV at k; exact k)
      have V3 := Lib.hid (fun (W : World) (h : Debts W p L) => by have k := owed39_any farm next p L c W h; rw [eow] at k; unfold accV at k; exact k)
      have V4 := Lib.hid (fun (W : World) (h : Debts W p L) => by have k := refowed39_any farm next p L c W h; rw [eow] at k; unfold accV at k; exact k)
      have hck : (ck != ck) = false := by simp
      have how : (ow != ow) = false := by simp
      clear hS hb eck eow
      go_wp2_with fail
      go_region_held3 (fun w' => w'.cell? ⟨wo.heap.size, 0, none⟩ = some (.int .i64 farm) ∧ w'.cell? ⟨wo.heap.size, 1, none⟩ = some (.slice p L.length c) ∧ w'.cell? ⟨wo.heap.size, 2, none⟩ = some (.int .i64 next)) (first | with_reducible exact K5.out | with_reducible exact K6.out | with_reducible exact K7.out | with_reducible exact K8.out | with_reducible exact K9.out) (first | (go_at_call 30; (with_reducible refine Calls.mono (V1.out _ AX.out.recs) ?_); rintro e w6 ⟨rfl, hb6⟩; have A6 := Lib.hid (AX.out.below hb6); have K6 := Lib.hid (kb3 A6.out.box)) | (go_at_call 36; (with_reducible refine Calls.mono (V2.out _ A6.out.recs) ?_); rintro e w7 ⟨rfl, hb7⟩; have A7 := Lib.hid (A6.out.below hb7); have K7 := Lib.hid (kb3 A7.out.box)) | (go_at_call 29; (with_reducible refine Calls.mono (V3.out _ A7.out.recs) ?_); rintro e w8 ⟨rfl, hb8⟩; have A8 := Lib.hid (A7.out.below hb8); have K8 := Lib.hid (kb3 A8.out.box)) | (go_at_call 37; (with_reducible refine Calls.mono (V4.out _ A8.out.recs) ?_); rintro e w9 ⟨rfl, hb9⟩; have A9 := Lib.hid (A8.out.below hb9); have K9 := Lib.hid (kb3 A9.out.box)))
      have lb := Nat.le_refl wb.heap.size
      have B9 := Lib.hid (bstep lb (bstep lb (bstep lb (bstep lb (bstep lb (balloc lb HB.out (Obj.cells #[.int .i64 farm, .slice p L.length c, .int .i64 next] 42)) (drewN_below _ 1)) hb6) hb7) hb8) hb9)
      obtain ⟨bx, ebx⟩ : ∃ b : Nat, wo.heap.size = b := ⟨_, rfl⟩
      rw [ebx] at A9 ⊢
      clear ebx A6 A7 A8 K5 K6 K7 K8 K9 AX V1 V2 V3 V4 hck how hb6 hb7 hb8 hb9 q0 q1 q2 HB hszo hbs
      obtain ⟨m25, e25⟩ : ∃ x, mod day 25 = x := ⟨_, rfl⟩
      obtain ⟨m700, e700⟩ : ∃ x, mod amount 700 = x := ⟨_, rfl⟩
      obtain ⟨r0, r1⟩ := mod_bd amount (n := 700) (by omega)
      rw [e700] at r0 r1
      have M1 := Lib.hid (fun W => by have k := mod_any day 25 W wb0 (by omega); rw [e25] at k; exact k)
      have M2 := Lib.hid (fun W => by have k := mod_any amount 700 W wc0 (by omega); rw [e700] at k; exact k)
      clear e25 e700
      go_wp2_with (first | (go_at_call 13; (with_reducible refine Calls.mono (M1.out _) ?_); rintro e wm ⟨rfl, rfl⟩) | (go_at_call 13; (with_reducible refine Calls.mono (M2.out _) ?_); rintro e wm ⟨rfl, rfl⟩))
      have PR := Lib.hid (show ∀ j, j < 3 → ∃ d am : Int, (w9.alloc (Obj.cells #[.int .i64 day, .int .i64 amount, .int .i64 m25, .int .i64 m700, .int .i64 m25, .int .i64 68719476736] 57)).cell? ⟨w9.heap.size, j * 2, none⟩ = some (.int .i64 d) ∧ (w9.alloc (Obj.cells #[.int .i64 day, .int .i64 amount, .int .i64 m25, .int .i64 m700, .int .i64 m25, .int .i64 68719476736] 57)).cell? ⟨w9.heap.size, j * 2 + 1, none⟩ = some (.int .i64 am) ∧ -9223372036854775808 ≤ am ∧ am ≤ 9223372036854775807 by
        intro j hj
        match j, hj with
        | 0, _ => exact ⟨day, amount, by go_simp, by go_simp, wc0, wc1⟩
        | 1, _ => exact ⟨m25, m700, by go_simp, by go_simp, by omega, by omega⟩
        | 2, _ => exact ⟨m25, 68719476736, by go_simp, by go_simp, by omega, by omega⟩)
      have A10 := Lib.hid (A9.out.below ((Below.refl _ _).alloc (Nat.le_refl _) (Obj.cells #[.int .i64 day, .int .i64 amount, .int .i64 m25, .int .i64 m700, .int .i64 m25, .int .i64 68719476736] 57)))
      have B10 := Lib.hid (balloc lb B9.out (Obj.cells #[.int .i64 day, .int .i64 amount, .int .i64 m25, .int .i64 m700, .int .i64 m25, .int .i64 68719476736] 57))
      have hbp : w9.heap.size < (w9.alloc (Obj.cells #[.int .i64 day, .int .i64 amount, .int .i64 m25, .int .i64 m700, .int .i64 m25, .int .i64 68719476736] 57)).heap.size := by simp
      obtain ⟨wp, ewp⟩ : ∃ W : World, (w9.alloc (Obj.cells #[.int .i64 day, .int .i64 amount, .int .i64 m25, .int .i64 m700, .int .i64 m25, .int .i64 68719476736] 57)) = W := ⟨_, rfl⟩
      rw [ewp] at PR A10 B10 hbp ⊢
      clear ewp
      obtain ⟨bp, ebp⟩ : ∃ b : Nat, w9.heap.size = b := ⟨_, rfl⟩
      rw [ebp] at PR hbp ⊢
      clear ebp A9 B9 M1 M2 r0 r1
      go_loopw [86] (fun i wq => ∃ j : Nat, j ≤ 3 ∧ i = .int .i64 j ∧ Below wp.heap.size wp wq) (fun i _ => 3 - (intOf i).toNat)
      case atStart => exact ⟨0, by omega, rfl, Below.refl _ _⟩
      case round =>
        obtain ⟨wi, rfl⟩ : ∃ wi : World, wi = wr := ⟨_, rfl⟩
        obtain ⟨j, hj, rfl, hb2⟩ := hrel
        by_cases hlt2 : j < 3
        · obtain ⟨d, am, hp0, hp1, hm0, hm1⟩ := PR.out j hlt2
          refine PRH.out _ _ _ _ _ _ _ _ _ _ _ _ _ _ _ _ _ _ _ _ _ _ _ _ _ _ _ _ _ _ _ _ _ _ _ _ _ _ _ _ _ _ _ _ _ _ _ _ _ _ _ _ _ _ _ _ _ _ _ _ _ _ _ _ _ _ _ _ _ _ _ _ _ _ _ _ _ _ _ _ _ _ _ _ _ _ _ _ _ _ _ _ _ _ _ _ _ _ _ _ _ _ _ _ _ _ _ _ _ _ _ _ _ _ _ _ _ _ _ _ _ _ _ _ _ _ _ _ _ _ _ _ _ _ _ _ _ _ _ _ _ _ _ _ _ _ _ _ _ _ _ _ _ _ _ _ _ _ _ _ _ _ _ _ _ _ _ _ _ _ _ _ _ _ _ _ _ _ _ _ _ _ _ _ _ _ _ _ _ _ _ _ _ _ _ _ _ _ _ _ _ _ _ _ _ _ _ _ _ _ _ _ _ _ _ _ _ _ _ _ _ _ _ _ _ _ _ _ _ _ _ _ _ _ _ _ _ _ _ _ _ _ _ _ _ _ _ _ _ _ _ _ _ _ _ _ _ _ _ _ _ _ _ j bx bp farm next p c L decision day amount mille number by_ d am wi _ _ hlt2 (A10.out.below hb2) h50 ((hb2.cell (p := ⟨bp, j * 2, none⟩) hbp).trans hp0) ((hb2.cell (p := ⟨bp, j * 2 + 1, none⟩) hbp).trans hp1) (Nat.lt_of_lt_of_le hbp hb2.size) ⟨wa0, wa1⟩ ⟨wd0, wd1⟩ ⟨we0, we1⟩ ⟨hm0, hm1⟩ ?_
          intro _ _ _ _ _ _ _ _ _ _ _ _ _ _ _ _ _ _ _ _ _ _ _ _ _ _ _ _ _ _ _ _ _ _ _ _ _ _ _ _ _ _ _ _ _ _ _ _ _ _ _ _ _ _ _ _ _ _ _ _ _ _ _ _ _ _ _ _ _ _ _ _ _ _ _ _ _ _ _ _ _ _ _ _ _ _ _ _ _ _ _ _ _ _ _ _ _ _ _ _ _ _ _ _ _ _ _ _ _ _ _ _ _ _ _ _ _ _ _ _ _ _ _ _ _ _ _ _ _ _ _ _ _ _ _ _ _ _ _ _ _ _ _ _ _ _ _ _ _ _ _ _ _ _ _ _ _ w' hb'
          have hb3 := hb2.trans (hb'.mono hb2.size)
          clear hb' hb2 hp0 hp1
          go_roundw
          case rel =>
            (repeat apply Exists.intro)
            refine ⟨⟨j + 1, ?_, ?_, hb3⟩, ?_⟩
            rotate_left 2
            · exact rfl
            · omega
            · go_num
          case measure => simp [intOf]; omega
        · obtain rfl : j = 3 := by omega
          have A11 := Lib.hid (A10.out.below hb2)
          have B11 := Lib.hid (bstep lb B10.out hb2)
          obtain ⟨cl, ecl⟩ : ∃ x, De.cList farm L next decision 3 5 = x := ⟨_, rfl⟩
          obtain ⟨cn, ecn⟩ : ∃ x, De.cNext farm L next decision 3 5 = x := ⟨_, rfl⟩
          obtain ⟨cu, ecu⟩ : ∃ x, De.cNum farm L next decision 3 5 = x := ⟨_, rfl⟩
          obtain ⟨ce, ece⟩ : ∃ x, De.cErr farm L next decision 3 5 = x := ⟨_, rfl⟩
          have CH := Lib.hid (fun (W : World) (h : Debts W p L) => by have k := charge39_any farm next p L c decision 3 5 W h A11.out.nil (by omega); rw [ecl, ecn, ecu, ece] at k; unfold accV at k; exact k)
          have CR := Lib.hid (fun (W : World) (h : Debts W p L) => by have k := refcharge39_any farm next p L c decision 3 5 W h A11.out.nil (by omega); rw [ecl, ecn, ecu, ece] at k; unfold accV at k; exact k)
          have hce : (ce != ce) = false := by simp
          obtain ⟨a0, a1, a2, -, -, -, -⟩ := A11.out.box
          clear ecl ecn ecu ece hb2 PR hbp A10 B10
          go_wp2_with (first | (go_at_call 31; (with_reducible refine Calls.mono (CH.out _ A11.out.recs) ?_); clear CH; rintro e w20 ⟨p1, c1, rfl, hl1⟩; unfold accV; have A20 := Lib.hid ((A11.out.below hl1.below).below ((Below.refl _ _).alloc (Nat.le_refl _) (Obj.cells #[.int .i64 farm, .slice p1 cl.length c1, .int .i64 cn] 42))); have B20 := Lib.hid (balloc lb (bstep lb B11.out hl1.below) (Obj.cells #[.int .i64 farm, .slice p1 cl.length c1, .int .i64 cn] 42)); obtain ⟨d0, d1, d2, -, -, -, -⟩ := A20.out.box) | (go_at_call 38; (with_reducible refine Calls.mono (CR.out _ A20.out.recs) ?_); clear CR; rintro e w21 ⟨p2, c2, rfl, hl2⟩; unfold accV; have B21 := Lib.hid (balloc lb (bstep lb B20.out hl2.below) (Obj.cells #[.int .i64 farm, .slice p2 cl.length c2, .int .i64 cn] 42))))
          go_roundw
          case rel => exact ⟨k + 1, by omega, by go_num, B21.out⟩
          case measure => simp [intOf]; omega
    · obtain rfl : k = 3 := by omega
      have N1 := Lib.hid (fun (W : World) => by have k := new39_any by_ W; unfold accV at k; exact k)
      have N2 := Lib.hid (fun (W : World) => by have k := refnew39_any by_ W; unfold accV at k; exact k)
      have SM := Lib.hid (fun (W : World) => by have k := same39_any (newFarm by_) (newNext by_) none none [] 0 0 W (Recs.nil _ _) (Recs.nil _ _); unfold accV at k; simp only [List.length_nil] at k; exact k)
      obtain ⟨nf, enf⟩ : ∃ x, newFarm by_ = x := ⟨_, rfl⟩
      obtain ⟨nn, enn⟩ : ∃ x, newNext by_ = x := ⟨_, rfl⟩
      obtain ⟨ne, ene⟩ : ∃ x, newErr by_ = x := ⟨_, rfl⟩
      rw [enf, enn, ene] at N1 N2
      rw [enf, enn] at SM
      have hne : (ne == ne) = true := by simp
      have B5 := Lib.hid (bstep le B4.out HB.out)
      clear enf enn ene SEL hszo hbs
      go_wp2_with (first | (go_at_call 44; (with_reducible refine Calls.mono (N1.out _) ?_); rintro e w30 ⟨rfl, hb30⟩; have X30 := Lib.hid (BoxA.new w30 nf none 0 0 nn 42); have B30 := Lib.hid (balloc le (bstep le B5.out hb30) (Obj.cells #[.int .i64 nf, .slice none 0 0, .int .i64 nn] 42))) | (go_at_call 45; (with_reducible refine Calls.mono (N2.out _) ?_); rintro e w31 ⟨rfl, hb31⟩; have X31 := Lib.hid ((X30.out.below hb31 X30.out.lt).below ((Below.refl _ _).alloc (Nat.le_refl _) (Obj.cells #[.int .i64 nf, .slice none 0 0, .int .i64 nn] 42)) (X30.out.below hb31 X30.out.lt).lt); have Y31 := Lib.hid (BoxA.new w31 nf none 0 0 nn 42); have B31 := Lib.hid (balloc le (bstep le B30.out hb31) (Obj.cells #[.int .i64 nf, .slice none 0 0, .int .i64 nn] 42)); obtain ⟨a0, a1, a2, -, -, -, -⟩ := X31.out; obtain ⟨d0, d1, d2, -, -, -, -⟩ := Y31.out) | (go_at_call 33; (with_reducible refine Calls.mono (SM.out _) ?_); rintro e w32 ⟨rfl, hb32⟩) | (go_at_call 32; refine (awake39_any _).mono ?_; rintro e w33 ⟨rfl, hb33⟩))
      go_ret
      exact ⟨rfl, bstep le (bstep le B31.out hb32) hb33⟩

end Go.Proofs.Ytdnddikchchdkaa
