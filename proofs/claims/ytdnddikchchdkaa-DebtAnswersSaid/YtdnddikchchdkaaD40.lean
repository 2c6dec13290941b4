/-
  MERGED (merge39.py): small bounds, the walks D26, Dh, D32, and the plain parts of the inner round.
-/
import Derived.WalkKit
import Derived.Test.YtdnddikchchdkaaD25
import Derived.Test.YtdnddikchchdkaaD14
import Derived.Test.YtdnddikchchdkaaD6
import Derived.Test.YtdnddikchchdkaaD5
import Derived.Test.YtdnddikchchdkaaD21
import Derived.Test.YtdnddikchchdkaaD24
import Derived.Deep.DeepCutAuto
namespace Go.Proofs.Ytdnddikchchdkaa
open Go.RowKit

theorem bd_i32 {n : Int} (h : (Lit.int .i32 n).wf = true) : -2147483648 ≤ n ∧ n ≤ 2147483647 := by simpa [Lit.wf, IntKind.min, IntKind.max, IntKind.signed, IntKind.bits] using h
theorem bd_u16 {n : Int} (h : (Lit.int .u16 n).wf = true) : 0 ≤ n ∧ n ≤ 65535 := by simpa [Lit.wf, IntKind.min, IntKind.max, IntKind.signed, IntKind.bits] using h
theorem bd_u32 {n : Int} (h : (Lit.int .u32 n).wf = true) : 0 ≤ n ∧ n ≤ 4294967295 := by simpa [Lit.wf, IntKind.min, IntKind.max, IntKind.signed, IntKind.bits] using h
theorem bd_u8 {n : Int} (h : (Lit.int .u8 n).wf = true) : 0 ≤ n ∧ n ≤ 255 := by simpa [Lit.wf, IntKind.min, IntKind.max, IntKind.signed, IntKind.bits] using h
theorem bd_i64 {n : Int} (h : (Lit.int .i64 n).wf = true) : -9223372036854775808 ≤ n ∧ n ≤ 9223372036854775807 := by simpa [Lit.wf, IntKind.min, IntKind.max, IntKind.signed, IntKind.bits] using h

end Go.Proofs.Ytdnddikchchdkaa

namespace Go.Proofs.Ytdnddikchchdkaa
open Go.RowKit

/-- A right account in a variable of the law's own. -/
structure AccAt (w : World) (bx : Nat) (farm next : Int) (p : Option Addr) (c : Nat) (L : List De.Dbt) : Prop where
  box : BoxA w bx farm p L.length c next
  recs : Debts w p L
  nil : p = none → c = 0

theorem AccAt.below {w w' : World} {bx : Nat} {farm next : Int} {p : Option Addr} {c : Nat} {L : List De.Dbt} (h : AccAt w bx farm next p c L) (hb : Below w.heap.size w w') : AccAt w' bx farm next p c L :=
  ⟨h.box.below hb h.box.lt, h.recs.below hb, h.nil⟩

theorem AccAt.new {w : World} {farm next : Int} {p : Option Addr} {c : Nat} {L : List De.Dbt} (h : Debts w p L) (hn : p = none → c = 0) (T : TypeId) : AccAt (w.alloc (.cells #[.int .i64 farm, .slice p L.length c, .int .i64 next] T)) w.heap.size farm next p c L :=
  ⟨BoxA.new _ _ _ _ _ _ _, h.below ((Below.refl _ _).alloc (Nat.le_refl _) _), hn⟩

/-- Debts stay where another block is written. -/
theorem Recs.set' {α : Type} {S : Shape α} {w : World} {p : Option Addr} {L : List α} (h : Recs S w p L) (b i : Nat) (u : Value) (hp : L = [] ∨ ∀ a, p = some a → a.block ≠ b) : Recs S (w.setCell ⟨b, i, none⟩ u) p L := by
  rcases hp with e | hp
  · subst e; exact Recs.nil _ _
  · exact h.set b i u hp

theorem Recs.apart {α : Type} {S : Shape α} {w : World} {p : Option Addr} {L : List α} (h : Recs S w p L) : L = [] ∨ ∀ a, p = some a → a.block < w.heap.size := by
  rcases h.2 with e | ⟨b, off, e, hl, -⟩
  · exact .inl e
  · exact .inr fun a ha => by rw [e] at ha; cases ha; exact hl

theorem Lies.apart {w w' : World} {p0 p : Option Addr} {c b : Nat} {L : List De.Dbt} (h : Lies w w' p0 p c L) (hb : b < w.heap.size) (h0 : L = [] ∨ ∀ x, p0 = some x → x.block ≠ b) : L = [] ∨ ∀ x, p = some x → x.block ≠ b := by
  rcases h0 with e | h0
  · exact .inl e
  · rcases h.new with e | hn
    · exact .inr (e ▸ h0)
    · exact .inr fun x ex => by have := hn x ex; omega

/-- An account is stored into a variable. -/
theorem AccAt.to {w : World} {b : Nat} {f0 x0 farm next : Int} {p0 p : Option Addr} {n0 c0 c : Nat} {L : List De.Dbt} (hb : BoxA w b f0 p0 n0 c0 x0) (h : Debts w p L) (hn : p = none → c = 0) (hp : L = [] ∨ ∀ a, p = some a → a.block ≠ b) :
    AccAt (((w.setCell ⟨b, 0, none⟩ (.int .i64 farm)).setCell ⟨b, 1, none⟩ (.slice p L.length c)).setCell ⟨b, 2, none⟩ (.int .i64 next)) b farm next p c L := by
  refine ⟨?_, ((h.set' b 0 _ hp).set' b 1 _ hp).set' b 2 _ hp, hn⟩
  obtain ⟨a0, a1, a2, g0, g1, g2, lt⟩ := hb
  exact ⟨by go_simp, by go_simp, by go_simp, by go_simp, by go_simp, by go_simp, by simpa [World.setCell] using lt⟩

def aw : De.Dbt := ⟨1, 9, 5, 100, 100⟩

theorem aw_right : De.Right 2 [aw] 2 := ⟨by omega, by simp, by omega, by simp [De.Asc], fun d hd => by
  obtain rfl := List.mem_singleton.1 hd
  unfold De.good aw
  simp, by simp [De.total, aw]⟩

theorem aw_c : De.cErr 2 [] 1 9 5 100 = 0 := by
  have h : De.Right 2 [] 1 := De.Right.new (by omega)
  unfold De.cErr
  rw [De.chk_ok h]
  simp [De.decB, De.dayB, De.total]

theorem aw_off {L' : List De.Dbt} {r : Int} (h : De.Off 6 [aw] 130 L' r) : L' = [] ∧ r = 30 := by
  have h2 : De.Off 6 [aw] 130 [] 30 := .step (d := aw) ⟨List.mem_singleton.2 rfl, by decide, fun e he _ hn => absurd (congrArg De.Dbt.num (List.mem_singleton.1 he)) hn⟩ (by omega) (.done (.inr fun e he => by cases he))
  exact h.uniq aw_right.fine h2

theorem aw_o : oErr 2 [aw] 2 6 130 = 0 := by unfold oErr; rw [De.chk_ok aw_right]; simp [De.dayB]

set_option maxRecDepth 100000 in
set_option maxHeartbeats 8000000 in
theorem awake39_any (w : World) : Calls Try.prog 32 #[] w fun e w' => e = .returned (.bool true) ∧ Below w.heap.size w w' := by
  have C1 := Lib.hid (fun (W : World) => new39_any 2 W)
  rw [show newFarm 2 = 2 by decide, show newNext 2 = 1 by decide, show newErr 2 = 0 by decide] at C1
  have C2 := Lib.hid (fun (W : World) => charge39_any 2 1 none [] 0 9 5 100 W (Recs.nil _ _) (fun _ => rfl) (by simp))
  rw [show De.cList 2 [] 1 9 5 100 = [aw] by (unfold De.cList; rw [aw_c]; rfl), show De.cNext 2 [] 1 9 5 100 = 2 by (unfold De.cNext; rw [aw_c]; rfl), show De.cNum 2 [] 1 9 5 100 = 1 by (unfold De.cNum; rw [aw_c]; rfl), aw_c] at C2
  have C3 := Lib.hid (fun (W : World) (p : Option Addr) (c : Nat) (h : Debts W p [aw]) => interest39_any 2 2 p [aw] c 370 50 W h)
  rw [show iErr 2 [aw] 2 370 50 = 0 by (unfold iErr; rw [De.chk_ok aw_right]; simp [De.dayB]), show iVal 2 [aw] 2 370 50 = 5 by (unfold iVal; rw [show iErr 2 [aw] 2 370 50 = 0 by (unfold iErr; rw [De.chk_ok aw_right]; simp [De.dayB])]; rfl)] at C3
  have C4 := Lib.hid (fun (W : World) (p : Option Addr) (c : Nat) (h : Debts W p [aw]) (hc : p = none → c = 0) => offset39_any 2 2 p [aw] c 6 130 W h hc (by simp))
  have C5 := Lib.hid (fun (W : World) (p : Option Addr) (c : Nat) (h : Debts W p [aw]) => owed39_any 2 2 p [aw] c W h)
  rw [show owedV 2 [aw] 2 = 100 by (rw [owed_ok aw_right]; rfl)] at C5
  have C6 := Lib.hid (fun (W : World) (p : Option Addr) (c : Nat) => check39_any 2 2 p [] c W (Recs.nil _ _))
  rw [De.chk_ok (show De.Right 2 [] 2 from ⟨by omega, by simp, by omega, by simp [De.Asc], by simp, by simp [De.total]⟩)] at C6
  unfold accV at C1 C2 C3 C4 C5 C6
  simp only [List.length_nil, List.length_singleton] at C1 C2 C3 C4 C5 C6
  have CD := Lib.hid (fun (W : World) => down_any 7 2 W)
  go_enter Try.func32, Try.ntmps32
  go_wp2_with (first | (go_at_call 44; refine Calls.mono (C1.out _) ?_; rintro e w1 ⟨rfl, hb1⟩) | (go_at_call 31; refine Calls.mono (C2.out _) ?_; rintro e w2 ⟨p2, c2, rfl, hl2⟩; unfold accV; simp only [List.length_singleton]; have hx2 := (BoxA.new w1 2 none 0 0 1 42).below hl2.below (by simp); have A2 := Lib.hid (AccAt.to (farm := 2) (next := 2) hx2 hl2.recs hl2.nil (hl2.apart (by simp) (.inr fun x e => by cases e))); obtain ⟨a0, a1, a2, a3, a4, a5, a6⟩ := hx2) | (go_at_call 42; refine Calls.mono (C3.out _ _ _ A2.out.recs) ?_; rintro e w3 ⟨rfl, hb3⟩; have A3 := Lib.hid (A2.out.below hb3); obtain ⟨b0, b1, b2, b3, b4, b5, b6⟩ := A3.out.box; simp only [List.length_singleton] at b1) | (go_at_call 28; refine Calls.mono (C4.out _ _ _ A3.out.recs A3.out.nil) ?_; rintro e w4 ⟨p4, c4, L4, r4, rfl, ho4, hl4⟩; unfold accV; rw [aw_o, if_pos rfl] at ho4; rw [aw_o]; obtain ⟨rfl, rfl⟩ := aw_off ho4; simp only [List.length_nil]; have A5 := Lib.hid ((A3.out.below hl4.below).below ((Below.refl _ _).alloc (Nat.le_refl _) (Obj.cells #[.int .i64 2, .slice p4 0 c4, .int .i64 2] 42))); have B5 := Lib.hid (AccAt.new (farm := 2) (next := 2) hl4.recs hl4.nil 42); obtain ⟨d0, d1, d2, d3, d4, d5, d6⟩ := A5.out.box; obtain ⟨f0, f1, f2, f3, f4, f5, f6⟩ := B5.out.box; simp only [List.length_singleton] at d1; simp only [List.length_nil] at f0 f1 f2) | (go_at_call 29; refine Calls.mono (C5.out _ _ _ A5.out.recs) ?_; rintro e w6 ⟨rfl, hb6⟩; have B6 := Lib.hid (B5.out.below hb6); obtain ⟨h0, h1, h2, h3, h4, h5, h6⟩ := B6.out.box; simp only [List.length_nil] at h1) | (go_at_call 30; refine Calls.mono (C6.out _ _ _) ?_; rintro e w7 ⟨rfl, hb7⟩) | (go_at_call 16; refine (CD.out _).mono ?_; rintro e w' ⟨rfl, rfl⟩))
  go_ret
  have le := Nat.le_refl w.heap.size
  exact ⟨rfl, bstep le (bstep le (balloc le (bstep le (bstep le (bsetTo (bstep le (balloc le hb1 _) hl2.below) w1.heap.size hb1.size _ _ _) hb3) hl4.below) _) hb6) hb7⟩

end Go.Proofs.Ytdnddikchchdkaa

namespace Go.Proofs.Ytdnddikchchdkaa
open Go.RowKit

theorem De.Under.nil {L' : List De.Dbt} (h : De.Under L' []) : L' = [] := by
  cases L' with
  | nil => rfl
  | cons a l => obtain ⟨y, hy, -⟩ := h.from_ a List.mem_cons_self; cases hy

theorem Recs.aparts {α : Type} {S : Shape α} {w : World} {p : Option Addr} {L : List α} (h : Recs S w p L) {b : Nat} (hb : w.heap.size ≤ b) : L = [] ∨ ∀ a, p = some a → a.block ≠ b := by
  rcases h.apart with e | h
  · exact .inl e
  · exact .inr fun a e => by have := h a e; omega

theorem AccAt.other {w : World} {b bx : Nat} {farm next : Int} {p : Option Addr} {c : Nat} {L : List De.Dbt} (h : AccAt w bx farm next p c L) (hb : b ≠ bx) (hp : L = [] ∨ ∀ a, p = some a → a.block ≠ b) (x y z : Value) : AccAt (((w.setCell ⟨b, 0, none⟩ x).setCell ⟨b, 1, none⟩ y).setCell ⟨b, 2, none⟩ z) bx farm next p c L :=
  ⟨((h.box.other hb x).other hb y).other hb z, ((h.recs.set' b 0 x hp).set' b 1 y hp).set' b 2 z hp, h.nil⟩

end Go.Proofs.Ytdnddikchchdkaa

namespace Go.Proofs.Ytdnddikchchdkaa
open Go.RowKit

/-- The end of 'spoilt'. -/
def SpGive (w : World) (t : Nat) (l : List Int) (e : Ending) (w' : World) : Prop :=
  ∃ farm p L c next q, e = .returned (accV farm p L.length c next) ∧ L.length ≤ 40 ∧ Debts w' p L ∧ (p = none → c = 0) ∧ (∀ x, p = some x → w.heap.size ≤ x.block) ∧ TapeAt w' t l q ∧ But t w w'

structure SpSt (w wr : World) (t : Nat) (l : List Int) (bx rx : Nat) (farm next : Int) (p : Option Addr) (c : Nat) (L : List De.Dbt) (q : Nat) : Prop where
  own : OwnR SD wr 49 (bx + 1) (.slice p L.length c) L
  len : L.length ≤ 40
  box : BoxA wr bx farm p L.length c next
  res : BoxA wr rx 0 none 0 0 0
  tape : TapeAt wr t l q
  but : But t w wr
  t_lt : t < w.heap.size
  rx_ge : w.heap.size ≤ rx
  bx_gt : rx < bx

theorem OwnR.but {α : Type} {S : Shape α} {w w' : World} {T : TypeId} {B t : Nat} {v : Value} {L : List α} (h : OwnR S w T B v L) (hb : But t w w') (ht : t < B) : OwnR S w' T B v L :=
  h.blocks fun g _ hB hg => hb.block g hg (by omega)

theorem SpSt.tape_ {w wr w' : World} {t : Nat} {l : List Int} {bx rx : Nat} {farm next : Int} {p : Option Addr} {c : Nat} {L : List De.Dbt} {q q' : Nat} (h : SpSt w wr t l bx rx farm next p c L q) (ht : TapeAt w' t l q') (hb : But t wr w') : SpSt w w' t l bx rx farm next p c L q' := by
  have := h.t_lt; have := h.rx_ge; have := h.bx_gt
  exact ⟨h.own.but hb (by omega), h.len, h.box.but hb (by omega), h.res.but hb (by omega), ht, h.but.trans hb, h.t_lt, h.rx_ge, h.bx_gt⟩

theorem but_set {t : Nat} {w wr : World} (h : But t w wr) {b i : Nat} (hb : w.heap.size ≤ b) (u : Value) : But t w (wr.setCell ⟨b, i, none⟩ u) := h.stp ((Below.refl _ _).setCell (p := ⟨b, i, none⟩) hb u)

theorem TapeAt.set {w : World} {t : Nat} {l : List Int} {q : Nat} (h : TapeAt w t l q) {b i : Nat} (hb : t < b) (u : Value) : TapeAt (w.setCell ⟨b, i, none⟩ u) t l q := h.belowB ((Below.refl b w).setCell (p := ⟨b, i, none⟩) (Nat.le_refl _) u) hb

theorem SpSt.farm_ {w wr : World} {t : Nat} {l : List Int} {bx rx : Nat} {farm next : Int} {p : Option Addr} {c : Nat} {L : List De.Dbt} {q : Nat} (h : SpSt w wr t l bx rx farm next p c L q) (x : Int) : SpSt w (wr.setCell ⟨bx, 0, none⟩ (.int .i64 x)) t l bx rx x next p c L q := by
  have h1 := h.t_lt; have h2 := h.rx_ge; have h3 := h.bx_gt
  refine ⟨h.own.setOther (h.own.notBlock (by omega)) _, h.len, ?_, h.res.other (by omega) _, h.tape.set (by omega) _, but_set h.but (by omega) _, h1, h2, h3⟩
  obtain ⟨a0, a1, a2, g0, g1, g2, lt⟩ := h.box
  exact ⟨by go_simp, by go_simp, by go_simp, by go_simp, by go_simp, by go_simp, by simpa [World.setCell] using lt⟩

theorem SpSt.next_ {w wr : World} {t : Nat} {l : List Int} {bx rx : Nat} {farm next : Int} {p : Option Addr} {c : Nat} {L : List De.Dbt} {q : Nat} (h : SpSt w wr t l bx rx farm next p c L q) (x : Int) : SpSt w (wr.setCell ⟨bx, 2, none⟩ (.int .i64 x)) t l bx rx farm x p c L q := by
  have h1 := h.t_lt; have h2 := h.rx_ge; have h3 := h.bx_gt
  refine ⟨h.own.setOther (h.own.notBlock (by omega)) _, h.len, ?_, h.res.other (by omega) _, h.tape.set (by omega) _, but_set h.but (by omega) _, h1, h2, h3⟩
  obtain ⟨a0, a1, a2, g0, g1, g2, lt⟩ := h.box
  exact ⟨by go_simp, by go_simp, by go_simp, by go_simp, by go_simp, by go_simp, by simpa [World.setCell] using lt⟩

/-- A field of debt k. -/
theorem SpSt.fld {w wr : World} {t : Nat} {l : List Int} {bx rx : Nat} {farm next : Int} {p : Option Addr} {c : Nat} {L : List De.Dbt} {q : Nat} (h : SpSt w wr t l bx rx farm next p c L q) {k : Nat} (hk : k < L.length) :
    ∃ g, p = some ⟨g, 0, none⟩ ∧ g < wr.heap.size ∧ DAt wr g (k * 5) (De.g L k) ∧ (∀ i, wr.frozen? ⟨g, i, none⟩ = false) ∧ ∀ i u a, i < 5 → dCells a = (dCells (De.g L k)).set i u → SpSt w (wr.setCell ⟨g, k * 5 + i, none⟩ u) t l bx rx farm next p c (L.set k a) q := by
  have h1 := h.t_lt; have h2 := h.rx_ge; have h3 := h.bx_gt
  obtain ⟨g, e, -, hB, hl, hc, hf, hs⟩ := h.own.at hk
  refine ⟨g, e, hl, DAt.of (d := De.g L k) (by rw [De.g_eq hk]; exact hc), hf, fun i u a hi ha => ?_⟩
  refine ⟨by rw [List.length_set]; exact hs i u a hi (by rw [← De.g_eq hk]; exact ha), by rw [List.length_set]; exact h.len, by rw [List.length_set]; exact h.box.other (by omega) _, h.res.other (by omega) _, h.tape.set (by omega) _, but_set h.but (by omega) _, h1, h2, h3⟩

/-- The result is stored. -/
theorem SpSt.end_ {w wr : World} {t : Nat} {l : List Int} {bx rx : Nat} {farm next : Int} {p : Option Addr} {c : Nat} {L : List De.Dbt} {q : Nat} (h : SpSt w wr t l bx rx farm next p c L q) :
    SpGive w t l (.returned (accV farm p L.length c next)) (((wr.setCell ⟨rx, 0, none⟩ (.int .i64 farm)).setCell ⟨rx, 1, none⟩ (.slice p L.length c)).setCell ⟨rx, 2, none⟩ (.int .i64 next)) := by
  have h1 := h.t_lt; have h2 := h.rx_ge; have h3 := h.bx_gt
  obtain ⟨p', c', e, hn, hx, -, -, hr⟩ := h.own.cut rfl
  cases e
  have hne : ∀ x, p = some x → x.block ≠ rx := fun x e => by have := (hx x e).2.2.1; omega
  exact ⟨farm, p, L, c, next, q, rfl, h.len, ((hr.set _ 0 _ hne).set _ 1 _ hne).set _ 2 _ hne, fun e => (hn e).1, fun x e => by have := (hx x e).2.2.1; omega, ((h.tape.set (by omega) _).set (by omega) _).set (by omega) _, but_set (but_set (but_set h.but h2 _) h2 _) h2 _⟩

theorem SpSt.fldSet {w wr : World} {t : Nat} {l : List Int} {bx rx : Nat} {farm next : Int} {g : Nat} {c : Nat} {L : List De.Dbt} {q : Nat} (h : SpSt w wr t l bx rx farm next (some ⟨g, 0, none⟩) c L q) {k : Nat} (hk : k < L.length) (i o : Nat) (ho : o = k * 5 + i) (hi : i < 5) (u : Value) (a : De.Dbt) (ha : dCells a = (dCells (De.g L k)).set i u) : SpSt w (wr.setCell ⟨g, o, none⟩ u) t l bx rx farm next (some ⟨g, 0, none⟩) c (L.set k a) q := by
  obtain ⟨g', e, -, -, -, hs⟩ := h.fld hk
  cases e
  subst ho
  exact hs i u a hi ha

theorem SpSt.named {w wr : World} {t : Nat} {l : List Int} {bx rx : Nat} {farm next : Int} {p : Option Addr} {c : Nat} {L : List De.Dbt} {q : Nat} (h : SpSt w wr t l bx rx farm next p c L q) : ∃ W L', W = wr ∧ SpSt w W t l bx rx farm next p c L' q := ⟨_, _, rfl, h⟩

theorem box_stored {W : World} {rx c0 n0 : Nat} {f0 x0 : Int} {p0 : Option Addr} (h : BoxA W rx f0 p0 n0 c0 x0) (farm next : Int) (p : Option Addr) (n c : Nat) :
    (((W.setCell ⟨rx, 0, none⟩ (.int .i64 farm)).setCell ⟨rx, 1, none⟩ (.slice p n c)).setCell ⟨rx, 2, none⟩ (.int .i64 next)).cell? ⟨rx, 0, none⟩ = some (.int .i64 farm) ∧
    (((W.setCell ⟨rx, 0, none⟩ (.int .i64 farm)).setCell ⟨rx, 1, none⟩ (.slice p n c)).setCell ⟨rx, 2, none⟩ (.int .i64 next)).cell? ⟨rx, 1, none⟩ = some (.slice p n c) ∧
    (((W.setCell ⟨rx, 0, none⟩ (.int .i64 farm)).setCell ⟨rx, 1, none⟩ (.slice p n c)).setCell ⟨rx, 2, none⟩ (.int .i64 next)).cell? ⟨rx, 2, none⟩ = some (.int .i64 next) := by
  obtain ⟨a0, a1, a2, g0, g1, g2, lt⟩ := h
  exact ⟨by go_simp, by go_simp, by go_simp⟩

set_option maxRecDepth 100000 in
set_option maxHeartbeats 8000000 in
theorem spoilt39_any (t : Nat) (l : List Int) (a : Nat) (by_ : Int) (w : World) (h : TapeAt w t l a) :
    Calls Try.prog 35 #[.pointer (some ⟨t, 0, none⟩), .int .i64 by_] w (SpGive w t l) := by
  have hlt := h.lt
  have hb0 : Below w.heap.size w (w.alloc (Obj.cells #[.int .i64 0, .slice none 0 0, .int .i64 0] 42)) := (Below.refl _ _).alloc (Nat.le_refl _) _
  have H0 := Lib.hid (account39_any t l a _ (h.below hb0))
  have X0 := Lib.hid (BoxA.new w 0 none 0 0 0 42)
  clear h
  go_enter Try.func35, Try.ntmps35
  go_wp2_with (first | (go_at_call 27; refine Calls.mono H0.out ?_; rintro e w2 ⟨farm, p, L, ca, next, q, rfl, hR, hD, hnil, hnew, ht2, hbt⟩; unfold accV; have hl40 := hR.len; have hs2 := hbt.size; have A2 := Lib.hid ((hD.below ((Below.refl _ _).alloc (Nat.le_refl _) (Obj.cells #[.int .i64 farm, .slice p L.length ca, .int .i64 next] 42))).below ((Below.refl _ _).alloc (Nat.le_refl _) (Obj.cells #[] 49)))) | (at_builtin; (refine OwnR.appendAll el_dbt rfl (.tmp 10) (.tmp 12) rfl (w2.heap.size + 1) (.slice (some ⟨w2.heap.size + 1, 0, none⟩) 0 0) [] L p ca L.length rfl (by have := OwnR.made0 (S := SD) (w2.alloc (Obj.cells #[.int .i64 farm, .slice p L.length ca, .int .i64 next] 42)) 49; rw [World.size_alloc] at this; exact this) A2.out hnil rfl rfl (by simp) (by simp; omega) (by decide) ?_); intro v1 w4 hO4 hap4; rw [List.nil_append] at hO4; obtain ⟨p1, c1, rfl⟩ := hO4.sl; obtain ⟨k0, k1, k2, k3, k4, k5, k6⟩ := (BoxA.new w2 farm p L.length ca next 42).below (B := w2.heap.size + 1) (((Below.refl (w2.heap.size + 1) _).alloc (by simp) (Obj.cells #[] 49)).trans (hap4.below.mono (by omega))) (by omega)))
  have hs4 := hap4.size
  simp only [World.size_alloc] at hs2 hs4
  have ST : SpSt w (w4.setCell ⟨w2.heap.size, 1, none⟩ (.slice p1 L.length c1)) t l w2.heap.size w.heap.size farm next p1 c1 L q := by
    have hB4 : Below (w2.heap.size + 1) (w2.alloc (Obj.cells #[.int .i64 farm, .slice p L.length ca, .int .i64 next] 42)) w4 := ((Below.refl (w2.heap.size + 1) _).alloc (by simp) (Obj.cells #[] 49)).trans (hap4.below.mono (by omega))
    have hB5 : Below w2.heap.size w2 w4 := ((Below.refl _ _).alloc (Nat.le_refl _) _).trans (hB4.mono (by omega))
    refine ⟨hO4.setOther (hO4.notBlock (by omega)) _, hl40, ⟨by go_simp, by go_simp, by go_simp, by go_simp, by go_simp, by go_simp, by simpa [World.setCell] using k6⟩, (((X0.out.but hbt (by omega)).below hB5 (by omega))).other (by omega) _, ((ht2.belowB hB5 (by have := ht2.lt; omega))).set (by omega) _, but_set (((But.of_below hb0).trans hbt).trans (But.of_below hB5)) (by omega) _, hlt, Nat.le_refl _, by omega⟩
  have SS := Lib.hid ST
  obtain ⟨gk, ek⟩ : ∃ x, gives l q ((L.length : Int) + 1) = x := ⟨_, rfl⟩
  obtain ⟨g0, g1⟩ := gives_bd l q (n := (L.length : Int) + 1) (by omega)
  rw [ek] at g0 g1
  obtain ⟨kk, rfl⟩ : ∃ k : Nat, gk = (k : Int) := Int.eq_ofNat_of_zero_le g0
  obtain ⟨q1, e1⟩ : ∃ x, taken l q = x := ⟨_, rfl⟩
  obtain ⟨q2, e2⟩ : ∃ x, taken l q1 = x := ⟨_, rfl⟩
  obtain ⟨q3, e3⟩ : ∃ x, taken l q2 = x := ⟨_, rfl⟩
  obtain ⟨q4, e4⟩ : ∃ x, taken l q3 = x := ⟨_, rfl⟩
  obtain ⟨b1, k1'⟩ : ∃ x, (gives l q1 3 == 3 - 1) = x := ⟨_, rfl⟩
  obtain ⟨b2, k2'⟩ : ∃ x, (gives l q2 3 == 3 - 1) = x := ⟨_, rfl⟩
  obtain ⟨gj, k3'⟩ : ∃ x, gives l q3 6 = x := ⟨_, rfl⟩
  obtain ⟨j0, j1⟩ := gives_bd l q3 (n := 6) (by omega)
  rw [k3'] at j0 j1
  have M1 := Lib.hid (fun (W : World) (h : TapeAt W t l q) => by have k := next_any t l q ((L.length : Int) + 1) W h (by omega); rw [ek, e1] at k; exact k)
  have M2 := Lib.hid (fun (W : World) (h : TapeAt W t l q1) => by have k := one_any t l q1 3 W h (by omega) (by omega); rw [k1', e2] at k; exact k)
  have M3 := Lib.hid (fun (W : World) (h : TapeAt W t l q2) => by have k := one_any t l q2 3 W h (by omega) (by omega); rw [k2', e3] at k; exact k)
  have M4 := Lib.hid (fun (W : World) (h : TapeAt W t l q3) => by have k := next_any t l q3 6 W h (by omega); rw [k3', e4] at k; exact k)
  clear ST ek e1 e2 e3 e4 k1' k2' k3' H0 hO4 hap4 ht2 hbt hD hnil hnew A2 k0 k1 k2 k3 k4 k5 k6 hb0 X0
  go_upto_region 21 with (first | (go_at_call 11; (with_reducible refine Calls.mono (M1.out _ SS.out.tape) ?_); clear M1; rintro e w5 ⟨rfl, ht5, hb5⟩; have S5 := Lib.hid (SS.out.tape_ ht5 hb5); obtain ⟨x0, x1, x2, x3, x4, x5, x6⟩ := S5.out.box; clear ht5 hb5 SS) | (go_at_call 61; (with_reducible refine Calls.mono (M2.out _ S5.out.tape) ?_); clear M2; rintro e w6 ⟨rfl, ht6, hb6⟩; have S6 := Lib.hid (S5.out.tape_ ht6 hb6); obtain ⟨y0, y1, y2, y3, y4, y5, y6⟩ := S6.out.box; clear ht6 hb6 x0 x1 x2 x3 x4 x5 x6 S5; cases b1) | (go_at_call 61; (with_reducible refine Calls.mono (M3.out _ S6.out.tape) ?_); clear M3; rintro e w7 ⟨rfl, ht7, hb7⟩; have S7 := Lib.hid (S6.out.tape_ ht7 hb7); obtain ⟨u0, u1, u2, u3, u4, u5, u6⟩ := S7.out.box; clear ht7 hb7 y0 y1 y2 y3 y4 y5 y6; cases b2; focus (by_cases hkl : kk < L.length; focus (obtain ⟨g, rfl, hgl, hDA, hfz, -⟩ := S7.out.fld hkl; clear hDA hfz hgl))) | (go_at_call 11; (with_reducible refine Calls.mono (M4.out _ S7.out.tape) ?_); clear M4; rintro e w8 ⟨rfl, ht8, hb8⟩; have S8 := Lib.hid (S7.out.tape_ ht8 hb8); clear ht8 hb8; obtain ⟨g', e', hgl, ⟨d0, d1, d2, d3, d4⟩, hfz, -⟩ := S8.out.fld hkl; cases e'; have f0 := hfz (kk * 5); have f1 := hfz (kk * 5 + 1); have f2 := hfz (kk * 5 + 2); have f3 := hfz (kk * 5 + 3); have f4 := hfz (kk * 5 + 4); clear hfz; have hj : gj = 0 ∨ gj = 1 ∨ gj = 2 ∨ gj = 3 ∨ gj = 4 ∨ gj = 5 := (by omega); clear j0 j1; rcases hj with rfl | rfl | rfl | rfl | rfl | rfl))
  · obtain ⟨W', L', eW, EX⟩ := (S8.out.fldSet hkl 0 (kk * 5) rfl (by decide) (.int .i64 by_) { De.g L kk with num := by_ } rfl).named
    rw [← eW]
    clear eW u0 u1 u2 u3 u4 u5 u6 d0 d1 d2 d3 d4 f0 f1 f2 f3 f4
    obtain ⟨a0, a1, a2, a3, a4, a5, a6⟩ := EX.box
    have RS := Lib.hid EX.res
    obtain ⟨b0, b1, b2, b3, b4, b5, b6⟩ := EX.res
    have EX := Lib.hid EX
    go_wp2
    obtain ⟨r0, r1, r2⟩ := box_stored RS.out farm next (some ⟨g, 0, none⟩) L'.length c1
    exact bodyPost_ret (v := accV farm (some ⟨g, 0, none⟩) L'.length c1 next) (by simp [results, Try.results35, go_sem, r0, r1, r2, accV]) rfl EX.out.end_
  · obtain ⟨W', L', eW, EX⟩ := (S8.out.fldSet hkl 1 (kk * 5 + 1) rfl (by decide) (.int .i64 by_) { De.g L kk with dec := by_ } rfl).named
    rw [← eW]
    clear eW u0 u1 u2 u3 u4 u5 u6 d0 d1 d2 d3 d4 f0 f1 f2 f3 f4
    obtain ⟨a0, a1, a2, a3, a4, a5, a6⟩ := EX.box
    have RS := Lib.hid EX.res
    obtain ⟨b0, b1, b2, b3, b4, b5, b6⟩ := EX.res
    have EX := Lib.hid EX
    go_wp2
    obtain ⟨r0, r1, r2⟩ := box_stored RS.out farm next (some ⟨g, 0, none⟩) L'.length c1
    exact bodyPost_ret (v := accV farm (some ⟨g, 0, none⟩) L'.length c1 next) (by simp [results, Try.results35, go_sem, r0, r1, r2, accV]) rfl EX.out.end_
  · obtain ⟨W', L', eW, EX⟩ := (S8.out.fldSet hkl 2 (kk * 5 + 2) rfl (by decide) (.int .i64 by_) { De.g L kk with due := by_ } rfl).named
    rw [← eW]
    clear eW u0 u1 u2 u3 u4 u5 u6 d0 d1 d2 d3 d4 f0 f1 f2 f3 f4
    obtain ⟨a0, a1, a2, a3, a4, a5, a6⟩ := EX.box
    have RS := Lib.hid EX.res
    obtain ⟨b0, b1, b2, b3, b4, b5, b6⟩ := EX.res
    have EX := Lib.hid EX
    go_wp2
    obtain ⟨r0, r1, r2⟩ := box_stored RS.out farm next (some ⟨g, 0, none⟩) L'.length c1
    exact bodyPost_ret (v := accV farm (some ⟨g, 0, none⟩) L'.length c1 next) (by simp [results, Try.results35, go_sem, r0, r1, r2, accV]) rfl EX.out.end_
  · obtain ⟨W', L', eW, EX⟩ := (S8.out.fldSet hkl 3 (kk * 5 + 3) rfl (by decide) (.int .i64 by_) { De.g L kk with amt := by_ } rfl).named
    rw [← eW]
    clear eW u0 u1 u2 u3 u4 u5 u6 d0 d1 d2 d3 d4 f0 f1 f2 f3 f4
    obtain ⟨a0, a1, a2, a3, a4, a5, a6⟩ := EX.box
    have RS := Lib.hid EX.res
    obtain ⟨b0, b1, b2, b3, b4, b5, b6⟩ := EX.res
    have EX := Lib.hid EX
    go_wp2
    obtain ⟨r0, r1, r2⟩ := box_stored RS.out farm next (some ⟨g, 0, none⟩) L'.length c1
    exact bodyPost_ret (v := accV farm (some ⟨g, 0, none⟩) L'.length c1 next) (by simp [results, Try.results35, go_sem, r0, r1, r2, accV]) rfl EX.out.end_
  · obtain ⟨W', L', eW, EX⟩ := (S8.out.fldSet hkl 4 (kk * 5 + 4) rfl (by decide) (.int .i64 by_) { De.g L kk with left := by_ } rfl).named
    rw [← eW]
    clear eW u0 u1 u2 u3 u4 u5 u6 d0 d1 d2 d3 d4 f0 f1 f2 f3 f4
    obtain ⟨a0, a1, a2, a3, a4, a5, a6⟩ := EX.box
    have RS := Lib.hid EX.res
    obtain ⟨b0, b1, b2, b3, b4, b5, b6⟩ := EX.res
    have EX := Lib.hid EX
    go_wp2
    obtain ⟨r0, r1, r2⟩ := box_stored RS.out farm next (some ⟨g, 0, none⟩) L'.length c1
    exact bodyPost_ret (v := accV farm (some ⟨g, 0, none⟩) L'.length c1 next) (by simp [results, Try.results35, go_sem, r0, r1, r2, accV]) rfl EX.out.end_
  · obtain ⟨W', L', eW, EX⟩ := (S8.out).named
    rw [← eW]
    clear eW u0 u1 u2 u3 u4 u5 u6 d0 d1 d2 d3 d4 f0 f1 f2 f3 f4
    obtain ⟨a0, a1, a2, a3, a4, a5, a6⟩ := EX.box
    have RS := Lib.hid EX.res
    obtain ⟨b0, b1, b2, b3, b4, b5, b6⟩ := EX.res
    have EX := Lib.hid EX
    go_wp2
    obtain ⟨r0, r1, r2⟩ := box_stored RS.out farm next (some ⟨g, 0, none⟩) L'.length c1
    exact bodyPost_ret (v := accV farm (some ⟨g, 0, none⟩) L'.length c1 next) (by simp [results, Try.results35, go_sem, r0, r1, r2, accV]) rfl EX.out.end_
  · obtain ⟨W', L', eW, EX⟩ := (S7.out).named
    rw [← eW]
    clear eW u0 u1 u2 u3 u4 u5 u6
    obtain ⟨a0, a1, a2, a3, a4, a5, a6⟩ := EX.box
    have RS := Lib.hid EX.res
    obtain ⟨b0, b1, b2, b3, b4, b5, b6⟩ := EX.res
    have EX := Lib.hid EX
    go_wp2
    obtain ⟨r0, r1, r2⟩ := box_stored RS.out farm next p1 L'.length c1
    exact bodyPost_ret (v := accV farm p1 L'.length c1 next) (by simp [results, Try.results35, go_sem, r0, r1, r2, accV]) rfl EX.out.end_
  · obtain ⟨W', L', eW, EX⟩ := (S7.out.next_ by_).named
    rw [← eW]
    clear eW u0 u1 u2 u3 u4 u5 u6
    obtain ⟨a0, a1, a2, a3, a4, a5, a6⟩ := EX.box
    have RS := Lib.hid EX.res
    obtain ⟨b0, b1, b2, b3, b4, b5, b6⟩ := EX.res
    have EX := Lib.hid EX
    go_wp2
    obtain ⟨r0, r1, r2⟩ := box_stored RS.out farm by_ p1 L'.length c1
    exact bodyPost_ret (v := accV farm p1 L'.length c1 by_) (by simp [results, Try.results35, go_sem, r0, r1, r2, accV]) rfl EX.out.end_
  · obtain ⟨W', L', eW, EX⟩ := (S6.out.farm_ by_).named
    rw [← eW]
    clear eW y0 y1 y2 y3 y4 y5 y6
    obtain ⟨a0, a1, a2, a3, a4, a5, a6⟩ := EX.box
    have RS := Lib.hid EX.res
    obtain ⟨b0, b1, b2, b3, b4, b5, b6⟩ := EX.res
    have EX := Lib.hid EX
    go_wp2
    obtain ⟨r0, r1, r2⟩ := box_stored RS.out by_ next p1 L'.length c1
    exact bodyPost_ret (v := accV by_ p1 L'.length c1 next) (by simp [results, Try.results35, go_sem, r0, r1, r2, accV]) rfl EX.out.end_

end Go.Proofs.Ytdnddikchchdkaa

namespace Go.Proofs.Ytdnddikchchdkaa
open Go.RowKit

set_option maxRecDepth 100000 in
set_option maxHeartbeats 2000000 in
theorem same39_any (farm next : Int) (p p' : Option Addr) (L : List De.Dbt) (c c' : Nat) (w : World) (h : Debts w p L) (h' : Debts w p' L) :
    Calls Try.prog 33 #[accV farm p L.length c next, accV farm p' L.length c' next] w fun e w' => e = .returned (.bool true) ∧ Below w.heap.size w w' := by
  unfold accV
  have hn := h.len
  have hb1 : Below w.heap.size w ((w.alloc (Obj.cells #[.int .i64 farm, .slice p L.length c, .int .i64 next] 42)).alloc (Obj.cells #[.int .i64 farm, .slice p' L.length c', .int .i64 next] 42)) := ((Below.refl w.heap.size w).alloc (Nat.le_refl _) _).alloc (by simp) _
  have B1 := Lib.hid hb1
  have H := Lib.hid (h.below hb1)
  have H' := Lib.hid (h'.below hb1)
  have hbx : BoxA ((w.alloc (Obj.cells #[.int .i64 farm, .slice p L.length c, .int .i64 next] 42)).alloc (Obj.cells #[.int .i64 farm, .slice p' L.length c', .int .i64 next] 42)) w.heap.size farm p L.length c next := (BoxA.new w farm p L.length c next 42).below ((Below.refl _ _).alloc (Nat.le_refl _) _) (by simp)
  have hrx : BoxA ((w.alloc (Obj.cells #[.int .i64 farm, .slice p L.length c, .int .i64 next] 42)).alloc (Obj.cells #[.int .i64 farm, .slice p' L.length c', .int .i64 next] 42)) (w.heap.size + 1) farm p' L.length c' next := by
    have := BoxA.new (w.alloc (Obj.cells #[.int .i64 farm, .slice p L.length c, .int .i64 next] 42)) farm p' L.length c' next 42
    rw [World.size_alloc] at this
    exact this
  have BX := Lib.hid hbx
  have RX := Lib.hid hrx
  clear h h' hb1 hbx hrx
  go_enter Try.func33, Try.ntmps33
  go_wp2
  go_loopw [5] (fun i wr => ∃ (k n : Nat), k ≤ L.length ∧ i = .int .i64 k ∧ wr = (((w.alloc (Obj.cells #[.int .i64 farm, .slice p L.length c, .int .i64 next] 42)).alloc (Obj.cells #[.int .i64 farm, .slice p' L.length c', .int .i64 next] 42))).drewN n) (fun i _ => L.length - (intOf i).toNat)
  case atStart => exact ⟨0, 0, Nat.zero_le _, rfl, rfl⟩
  case round =>
    obtain ⟨k, n, hk, rfl, hw⟩ := hrel
    have HW := Lib.hid hw
    have hbw : Below (((w.alloc (Obj.cells #[.int .i64 farm, .slice p L.length c, .int .i64 next] 42)).alloc (Obj.cells #[.int .i64 farm, .slice p' L.length c', .int .i64 next] 42))).heap.size (((w.alloc (Obj.cells #[.int .i64 farm, .slice p L.length c, .int .i64 next] 42)).alloc (Obj.cells #[.int .i64 farm, .slice p' L.length c', .int .i64 next] 42))) wr := by rw [hw]; exact drewN_below _ _
    obtain ⟨a0, a1, a2, -, -, -, -⟩ := BX.out.below hbw BX.out.lt
    obtain ⟨r0, r1, r2, -, -, -, -⟩ := RX.out.below hbw RX.out.lt
    have HH := Lib.hid (H.out.below hbw)
    have HH' := Lib.hid (H'.out.below hbw)
    clear hw hbw
    by_cases hlt : k < L.length
    · obtain ⟨b, off, d, rfl, hbl, hD, hd⟩ := SD_at HH.out hlt
      obtain ⟨b', off', d', rfl, hbl', hD', hd'⟩ := SD_at HH'.out hlt
      obtain rfl : d = d' := by rw [← hd.out, hd'.out]
      obtain ⟨c0, c1, c2, c3, c4⟩ := hD
      obtain ⟨q0, q1, q2, q3, q4⟩ := hD'
      have hk0 : (0 : Int) ≤ (k : Int) := Int.natCast_nonneg _
      have hk1 : (k : Int) < (L.length : Int) := by omega
      clear hd hd'
      go_wp2_with fail
      go_quiet (fail)
      go_wp2
      go_roundw
      case rel => exact ⟨k + 1, _, by omega, by go_num, by rw [HW.out]; exact drewN_two _ _ _⟩
      case measure => simp [intOf]; omega
    · obtain rfl : k = L.length := by omega
      go_wp2
      go_ret
      exact ⟨rfl, by rw [HW.out]; exact bstep (Nat.le_refl _) B1.out (drewN_below _ _)⟩

theorem fnd_at {L : List De.Dbt} {n : Int} {k : Nat} (hk : k < L.length) (hall : ∀ j, j < k → (De.g L j).num ≠ n) (hn : (De.g L k).num = n) : De.fnd L n = (De.g L k).left := by
  induction L generalizing k with
  | nil => simp at hk
  | cons a L ih =>
    unfold De.fnd
    cases k with
    | zero =>
      have h0 : a.num = n := hn
      rw [if_pos h0]; rfl
    | succ k =>
      have h0 : a.num ≠ n := hall 0 (by omega)
      rw [if_neg h0]
      exact ih (k := k) (by simpa using hk) (fun j hj => hall (j + 1) (by omega)) hn

theorem fnd_no {L : List De.Dbt} {n : Int} (hall : ∀ j, j < L.length → (De.g L j).num ≠ n) : De.fnd L n = 0 := De.fnd_none fun d hd => by
  obtain ⟨i, hi, rfl⟩ := De.mem_g hd
  exact hall i hi

set_option maxRecDepth 100000 in
set_option maxHeartbeats 2000000 in
theorem find39_any (farm next : Int) (p : Option Addr) (L : List De.Dbt) (c : Nat) (num : Int) (w : World) (h : Debts w p L) :
    Calls Try.prog 34 #[accV farm p L.length c next, .int .i64 num] w fun e w' => e = .returned (.int .i64 (De.fnd L num)) ∧ Below w.heap.size w w' := by
  unfold accV
  have hn := h.len
  have hb0 : Below w.heap.size w (w.alloc (Obj.cells #[.int .i64 farm, .slice p L.length c, .int .i64 next] 42)) := (Below.refl w.heap.size w).alloc (Nat.le_refl _) _
  have H := Lib.hid (h.below hb0)
  have B0 := Lib.hid hb0
  clear h hb0
  go_enter Try.func34, Try.ntmps34
  go_wp2
  obtain ⟨wz, ez⟩ : ∃ wz : World, wz = (w.alloc (Obj.cells #[.int .i64 farm, .slice p L.length c, .int .i64 next] 42)) := ⟨_, rfl⟩
  rw [← ez] at H B0
  rw [← ez]
  clear ez
  go_loopw [10] (fun i wr => ∃ k : Nat, k ≤ L.length ∧ i = .int .i64 k ∧ (∀ j, j < k → (De.g L j).num ≠ num) ∧ Below wz.heap.size wz wr) (fun i _ => L.length - (intOf i).toNat)
  case atStart => exact ⟨0, Nat.zero_le _, rfl, fun j hj => absurd hj (Nat.not_lt_zero j), Below.refl _ _⟩
  case round =>
    obtain ⟨k, hk, rfl, hall, hb⟩ := hrel
    have HA := Lib.hid hall
    have HB := Lib.hid hb
    have hsz := hb.size
    by_cases hlt : k < L.length
    · obtain ⟨b, off, d, rfl, hbl, hD, hd⟩ := SD_at H.out hlt
      obtain ⟨c0, c1, c2, c3, c4⟩ := hD.below hb hbl
      have hk0 : (0 : Int) ≤ (k : Int) := Int.natCast_nonneg _
      have hk1 : (k : Int) < (L.length : Int) := by omega
      clear hall hb hD
      cases hz : (d.num == num)
      · have HN := Lib.hid (show (De.g L k).num ≠ num by rw [hd.out]; exact beq_eq_false_iff_ne.1 hz)
        go_wp2
        go_roundw
        case rel => exact ⟨k + 1, by omega, by go_num, fun j hj => by
          by_cases e : j = k
          · subst e; exact HN.out
          · exact HA.out j (by omega), HB.out.alloc hsz _⟩
        case measure => simp [intOf]; omega
      · have HN := Lib.hid (show De.fnd L num = d.left by rw [← hd.out]; exact fnd_at hlt HA.out (by rw [hd.out]; exact beq_iff_eq.1 hz))
        go_wp2
        go_ret
        exact ⟨by rw [HN.out]; rfl, bnext B0.out B0.out.size (HB.out.alloc hsz _)⟩
    · obtain rfl : k = L.length := by omega
      have HN := Lib.hid (fnd_no hall)
      clear hall hb
      go_wp2
      go_ret
      exact ⟨by rw [HN.out]; rfl, bnext B0.out B0.out.size HB.out⟩

end Go.Proofs.Ytdnddikchchdkaa

namespace Go.Proofs.Ytdnddikchchdkaa
open Go.RowKit

def firstLoop : Code → Option Code
  | .loop c => some c
  | .seq a b => match firstLoop a with
    | some c => some c
    | none => firstLoop b
  | .block _ c => firstLoop c
  | .scope c => firstLoop c
  | .cond _ a b => match firstLoop a with
    | some c => some c
    | none => firstLoop b
  | _ => none
noncomputable def accBody : Code := (((Try.f7).body.bind firstLoop).getD .skip)
noncomputable def pairBody : Code := ((accBody |> firstLoop).getD .skip)

set_option maxRecDepth 100000 in
/-- What the inner round gives. -/
def PairRound : Prop := ∀ (u0 u1 u8 u9 u10 u11 u12 u13 u14 u15 u16 u17 u18 u20 u21 u22 u23 u24 u25 u26 u27 u28 u29 u30 u31 u32 u33 u34 u35 u36 u37 u38 u39 u40 u41 u42 u43 u44 u45 u46 u47 u48 u49 u50 u51 u52 u53 u54 u55 u56 u57 u58 u59 u60 u61 u62 u63 u64 u65 u66 u67 u68 u69 u70 u71 u72 u73 u74 u75 u76 u77 u78 u79 u80 u81 u82 u83 u87 u88 u89 u90 u91 u92 u93 u94 u95 u96 u97 u98 u99 u100 u101 u102 u103 u104 u105 u106 u107 u108 u109 u110 u111 u112 u113 u114 u115 u116 u117 u118 u119 u120 u121 u122 u123 u124 u125 u126 u127 u128 u129 u130 u131 u132 u133 u134 u135 u136 u137 u138 u139 u140 u141 u142 u143 u144 u145 u146 u147 u148 u149 u150 u151 u152 u153 u154 u155 u156 u157 u158 u159 u160 u161 u162 u163 u164 u165 u166 u167 u168 u169 u170 u171 u172 u173 u174 u175 u176 u177 u178 u179 u180 u181 u182 u183 u184 u185 u186 u187 u188 u189 u190 u191 u192 u193 u194 u195 u196 u197 u198 u199 u200 u201 u202 u203 u204 u205 u206 u207 u208 u209 u210 u211 u212 u213 u214 u215 u216 u217 u218 u219 u220 u221 u222 u223 u224 u225 u226 u227 u228 u229 u230 u231 u232 u233 u234 u235 u236 u237 u238 u239 u240 u241 u242 u243 u244 u245 u246 u247 u248 u249 u250 u251 u252 u253 u254 u255 u256 u257 u258 u259 u260 u261 u262 u263 u264 u265 u266 u267 u268 u269 u270 u271 u272 : Value) (k bx bp : Nat) (farm next : Int) (p : Option Addr) (c : Nat) (L : List De.Dbt) (decision day amount mille number by_ d am : Int) (wz : World) (K : Act → World → Prop) (Q0 : Exit → Act → World → Prop)
    (_ : k < 3) (_ : AccAt wz bx farm next p c L) (_ : L.length ≤ 50) (_ : wz.cell? ⟨bp, k * 2, none⟩ = some (.int .i64 d)) (_ : wz.cell? ⟨bp, k * 2 + 1, none⟩ = some (.int .i64 am)) (_ : bp < wz.heap.size)
    (_ : -9223372036854775808 ≤ decision ∧ decision ≤ 9223372036854775807) (_ : -9223372036854775808 ≤ mille ∧ mille ≤ 9223372036854775807) (_ : -9223372036854775808 ≤ number ∧ number ≤ 9223372036854775807) (_ : -9223372036854775808 ≤ am ∧ am ≤ 9223372036854775807)
    (_ : ∀ (v16 v21 v22 v23 v24 v25 v26 v27 v29 v31 v87 v88 v89 v90 v91 v92 v93 v94 v95 v96 v97 v98 v99 v100 v101 v102 v103 v104 v105 v106 v107 v108 v109 v110 v111 v112 v113 v114 v115 v116 v117 v118 v119 v120 v121 v122 v123 v124 v125 v126 v127 v128 v129 v130 v131 v132 v133 v134 v135 v136 v137 v138 v139 v140 v141 v142 v143 v144 v145 v146 v147 v148 v149 v150 v151 v152 v153 v154 v155 v156 v157 v158 v159 v160 v161 v162 v163 v164 v165 v166 v167 v168 v169 v170 v171 v172 v173 v174 v175 v176 v177 v178 v179 v180 v181 v182 v183 v184 v185 v186 v187 v188 v189 v190 v191 v192 v193 v194 v195 v196 v197 v198 v199 v200 v201 v202 v203 v204 v205 v206 v207 v208 v209 v210 v211 v212 v213 v214 v215 v216 v217 v218 v219 v220 v221 v222 v223 v224 v225 v226 v227 v228 v229 v230 v231 v232 v233 : Value) (w' : World), Below wz.heap.size wz w' → K ⟨#[u0, u1, .int .i64 decision, .int .i64 day, .int .i64 amount, .int .i64 mille, .int .i64 number, .int .i64 by_, u8, u9, u10, u11, u12, u13, u14, u15, v16, u17, u18, .pointer (some ⟨bx, 0, none⟩), u20, v21, v22, v23, v24, v25, v26, v27, u28, v29, u30, v31, u32, u33, u34, u35, u36, u37, u38, u39, u40, u41, u42, u43, u44, u45, u46, u47, u48, u49, u50, u51, u52, u53, u54, u55, u56, u57, u58, u59, u60, u61, u62, u63, u64, u65, u66, u67, u68, u69, u70, u71, u72, u73, u74, u75, u76, u77, u78, u79, u80, u81, u82, u83, .slice (some ⟨bp, 0, none⟩) 3 3, .int .i64 3, .int .i64 ((k : Int) + 1), v87, v88, v89, v90, v91, v92, v93, v94, v95, v96, v97, v98, v99, v100, v101, v102, v103, v104, v105, v106, v107, v108, v109, v110, v111, v112, v113, v114, v115, v116, v117, v118, v119, v120, v121, v122, v123, v124, v125, v126, v127, v128, v129, v130, v131, v132, v133, v134, v135, v136, v137, v138, v139, v140, v141, v142, v143, v144, v145, v146, v147, v148, v149, v150, v151, v152, v153, v154, v155, v156, v157, v158, v159, v160, v161, v162, v163, v164, v165, v166, v167, v168, v169, v170, v171, v172, v173, v174, v175, v176, v177, v178, v179, v180, v181, v182, v183, v184, v185, v186, v187, v188, v189, v190, v191, v192, v193, v194, v195, v196, v197, v198, v199, v200, v201, v202, v203, v204, v205, v206, v207, v208, v209, v210, v211, v212, v213, v214, v215, v216, v217, v218, v219, v220, v221, v222, v223, v224, v225, v226, v227, v228, v229, v230, v231, v232, v233, u234, u235, u236, u237, u238, u239, u240, u241, u242, u243, u244, u245, u246, u247, u248, u249, u250, u251, u252, u253, u254, u255, u256, u257, u258, u259, u260, u261, u262, u263, u264, u265, u266, u267, u268, u269, u270, u271, u272], []⟩ w'),
    Code.wp Try.prog pairBody (Exit.then K Q0) ⟨#[u0, u1, .int .i64 decision, .int .i64 day, .int .i64 amount, .int .i64 mille, .int .i64 number, .int .i64 by_, u8, u9, u10, u11, u12, u13, u14, u15, u16, u17, u18, .pointer (some ⟨bx, 0, none⟩), u20, u21, u22, u23, u24, u25, u26, u27, u28, u29, u30, u31, u32, u33, u34, u35, u36, u37, u38, u39, u40, u41, u42, u43, u44, u45, u46, u47, u48, u49, u50, u51, u52, u53, u54, u55, u56, u57, u58, u59, u60, u61, u62, u63, u64, u65, u66, u67, u68, u69, u70, u71, u72, u73, u74, u75, u76, u77, u78, u79, u80, u81, u82, u83, .slice (some ⟨bp, 0, none⟩) 3 3, .int .i64 3, .int .i64 (k : Int), u87, u88, u89, u90, u91, u92, u93, u94, u95, u96, u97, u98, u99, u100, u101, u102, u103, u104, u105, u106, u107, u108, u109, u110, u111, u112, u113, u114, u115, u116, u117, u118, u119, u120, u121, u122, u123, u124, u125, u126, u127, u128, u129, u130, u131, u132, u133, u134, u135, u136, u137, u138, u139, u140, u141, u142, u143, u144, u145, u146, u147, u148, u149, u150, u151, u152, u153, u154, u155, u156, u157, u158, u159, u160, u161, u162, u163, u164, u165, u166, u167, u168, u169, u170, u171, u172, u173, u174, u175, u176, u177, u178, u179, u180, u181, u182, u183, u184, u185, u186, u187, u188, u189, u190, u191, u192, u193, u194, u195, u196, u197, u198, u199, u200, u201, u202, u203, u204, u205, u206, u207, u208, u209, u210, u211, u212, u213, u214, u215, u216, u217, u218, u219, u220, u221, u222, u223, u224, u225, u226, u227, u228, u229, u230, u231, u232, u233, u234, u235, u236, u237, u238, u239, u240, u241, u242, u243, u244, u245, u246, u247, u248, u249, u250, u251, u252, u253, u254, u255, u256, u257, u258, u259, u260, u261, u262, u263, u264, u265, u266, u267, u268, u269, u270, u271, u272], []⟩ wz

end Go.Proofs.Ytdnddikchchdkaa
