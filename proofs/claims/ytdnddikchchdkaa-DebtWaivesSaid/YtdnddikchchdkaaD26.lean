/-
  THE WALK over law39.awake, and accounts as a law's variables.
-/
import Derived.Test.YtdnddikchchdkaaD25
import Derived.Test.YtdnddikchchdkaaD14
import Derived.Test.YtdnddikchchdkaaD6
namespace Go.Proofs.Ytdnddikchchdkaa
open Go.RowKit

/-- A right account in a variable of the law's own. -/
structure AccAt (w : World) (bx : Nat) (farm next : Int) (p : Option Addr) (c : Nat) (L : List De.Dbt) : Prop where
  box : BoxA w bx farm p L.length c next
  recs : Debts w p L
  nil : p = none → c = 0

theorem AccAt.below {w w' : World} {bx : Nat} {farm next : Int} {p : Option Addr} {c : Nat} {L : List De.Dbt} (h : AccAt w bx farm next p c L) (hb : Below w.heap.size w w') : AccAt w' bx farm next p c L :=
  ⟨h.box.below hb h.box.lt, h.recs.below hb, h.nil⟩

theorem AccAt.new {w : World} {farm next : Int} {p : Option Addr} {c : Nat} {L : List De.Dbt} (h : Debts w p L) (hn : p = none → c = 0) (T : TypeId) : AccAt (w.alloc (.cells #[.int .i64 farm, .slice p L.length c, .int .i64 next] T)) w.heap.size farm next p c L :=
  ⟨BoxA.new _ _ _ _ _ _ _, h.below ((Below.refl _ _).alloc (Nat.le_refl _) _), hn⟩

/-- Debts stay where another block is written. -/
theorem Recs.set' {α : Type} {S : Shape α} {w : World} {p : Option Addr} {L : List α} (h : Recs S w p L) (b i : Nat) (u : Value) (hp : L = [] ∨ ∀ a, p = some a → a.block ≠ b) : Recs S (w.setCell ⟨b, i, none⟩ u) p L := by
  rcases hp with e | hp
  · subst e; exact Recs.nil _ _
  · exact h.set b i u hp

theorem Recs.apart {α : Type} {S : Shape α} {w : World} {p : Option Addr} {L : List α} (h : Recs S w p L) : L = [] ∨ ∀ a, p = some a → a.block < w.heap.size := by
  rcases h.2 with e | ⟨b, off, e, hl, -⟩
  · exact .inl e
  · exact .inr fun a ha => by rw [e] at ha; cases ha; exact hl

theorem Lies.apart {w w' : World} {p0 p : Option Addr} {c b : Nat} {L : List De.Dbt} (h : Lies w w' p0 p c L) (hb : b < w.heap.size) (h0 : L = [] ∨ ∀ x, p0 = some x → x.block ≠ b) : L = [] ∨ ∀ x, p = some x → x.block ≠ b := by
  rcases h0 with e | h0
  · exact .inl e
  · rcases h.new with e | hn
    · exact .inr (e ▸ h0)
    · exact .inr fun x ex => by have := hn x ex; omega

/-- An account is stored into a variable. -/
theorem AccAt.to {w : World} {b : Nat} {f0 x0 farm next : Int} {p0 p : Option Addr} {n0 c0 c : Nat} {L : List De.Dbt} (hb : BoxA w b f0 p0 n0 c0 x0) (h : Debts w p L) (hn : p = none → c = 0) (hp : L = [] ∨ ∀ a, p = some a → a.block ≠ b) :
    AccAt (((w.setCell ⟨b, 0, none⟩ (.int .i64 farm)).setCell ⟨b, 1, none⟩ (.slice p L.length c)).setCell ⟨b, 2, none⟩ (.int .i64 next)) b farm next p c L := by
  refine ⟨?_, ((h.set' b 0 _ hp).set' b 1 _ hp).set' b 2 _ hp, hn⟩
  obtain ⟨a0, a1, a2, g0, g1, g2, lt⟩ := hb
  exact ⟨by go_simp, by go_simp, by go_simp, by go_simp, by go_simp, by go_simp, by simpa [World.setCell] using lt⟩

def aw : De.Dbt := ⟨1, 9, 5, 100, 100⟩

theorem aw_right : De.Right 2 [aw] 2 := ⟨by omega, by simp, by omega, by simp [De.Asc], fun d hd => by
  obtain rfl := List.mem_singleton.1 hd
  unfold De.good aw
  simp, by simp [De.total, aw]⟩

theorem aw_c : De.cErr 2 [] 1 9 5 100 = 0 := by
  have h : De.Right 2 [] 1 := De.Right.new (by omega)
  unfold De.cErr
  rw [De.chk_ok h]
  simp [De.decB, De.dayB, De.total]

theorem aw_off {L' : List De.Dbt} {r : Int} (h : De.Off 6 [aw] 130 L' r) : L' = [] ∧ r = 30 := by
  have h2 : De.Off 6 [aw] 130 [] 30 := .step (d := aw) ⟨List.mem_singleton.2 rfl, by decide, fun e he _ hn => absurd (congrArg De.Dbt.num (List.mem_singleton.1 he)) hn⟩ (by omega) (.done (.inr fun e he => by cases he))
  exact h.uniq aw_right.fine h2

theorem aw_o : oErr 2 [aw] 2 6 130 = 0 := by unfold oErr; rw [De.chk_ok aw_right]; simp [De.dayB]

set_option maxRecDepth 100000 in
set_option maxHeartbeats 8000000 in
theorem awake39_any (w : World) : Calls Try.prog 32 #[] w fun e w' => e = .returned (.bool true) ∧ Below w.heap.size w w' := by
  have C1 := Lib.hid (fun (W : World) => new39_any 2 W)
  rw [show newFarm 2 = 2 by decide, show newNext 2 = 1 by decide, show newErr 2 = 0 by decide] at C1
  have C2 := Lib.hid (fun (W : World) => charge39_any 2 1 none [] 0 9 5 100 W (Recs.nil _ _) (fun _ => rfl) (by simp))
  rw [show De.cList 2 [] 1 9 5 100 = [aw] by (unfold De.cList; rw [aw_c]; rfl), show De.cNext 2 [] 1 9 5 100 = 2 by (unfold De.cNext; rw [aw_c]; rfl), show De.cNum 2 [] 1 9 5 100 = 1 by (unfold De.cNum; rw [aw_c]; rfl), aw_c] at C2
  have C3 := Lib.hid (fun (W : World) (p : Option Addr) (c : Nat) (h : Debts W p [aw]) => interest39_any 2 2 p [aw] c 370 50 W h)
  rw [show iErr 2 [aw] 2 370 50 = 0 by (unfold iErr; rw [De.chk_ok aw_right]; simp [De.dayB]), show iVal 2 [aw] 2 370 50 = 5 by (unfold iVal; rw [show iErr 2 [aw] 2 370 50 = 0 by (unfold iErr; rw [De.chk_ok aw_right]; simp [De.dayB])]; rfl)] at C3
  have C4 := Lib.hid (fun (W : World) (p : Option Addr) (c : Nat) (h : Debts W p [aw]) (hc : p = none → c = 0) => offset39_any 2 2 p [aw] c 6 130 W h hc (by simp))
  have C5 := Lib.hid (fun (W : World) (p : Option Addr) (c : Nat) (h : Debts W p [aw]) => owed39_any 2 2 p [aw] c W h)
  rw [show owedV 2 [aw] 2 = 100 by (rw [owed_ok aw_right]; rfl)] at C5
  have C6 := Lib.hid (fun (W : World) (p : Option Addr) (c : Nat) => check39_any 2 2 p [] c W (Recs.nil _ _))
  rw [De.chk_ok (show De.Right 2 [] 2 from ⟨by omega, by simp, by omega, by simp [De.Asc], by simp, by simp [De.total]⟩)] at C6
  unfold accV at C1 C2 C3 C4 C5 C6
  simp only [List.length_nil, List.length_singleton] at C1 C2 C3 C4 C5 C6
  have CD := Lib.hid (fun (W : World) => down_any 7 2 W)
  go_enter Try.func32, Try.ntmps32
  go_wp2_with (first | (go_at_call 44; refine Calls.mono (C1.out _) ?_; rintro e w1 ⟨rfl, hb1⟩) | (go_at_call 31; refine Calls.mono (C2.out _) ?_; rintro e w2 ⟨p2, c2, rfl, hl2⟩; unfold accV; simp only [List.length_singleton]; have hx2 := (BoxA.new w1 2 none 0 0 1 42).below hl2.below (by simp); have A2 := Lib.hid (AccAt.to (farm := 2) (next := 2) hx2 hl2.recs hl2.nil (hl2.apart (by simp) (.inr fun x e => by cases e))); obtain ⟨a0, a1, a2, a3, a4, a5, a6⟩ := hx2) | (go_at_call 42; refine Calls.mono (C3.out _ _ _ A2.out.recs) ?_; rintro e w3 ⟨rfl, hb3⟩; have A3 := Lib.hid (A2.out.below hb3); obtain ⟨b0, b1, b2, b3, b4, b5, b6⟩ := A3.out.box; simp only [List.length_singleton] at b1) | (go_at_call 28; refine Calls.mono (C4.out _ _ _ A3.out.recs A3.out.nil) ?_; rintro e w4 ⟨p4, c4, L4, r4, rfl, ho4, hl4⟩; unfold accV; rw [aw_o, if_pos rfl] at ho4; rw [aw_o]; obtain ⟨rfl, rfl⟩ := aw_off ho4; simp only [List.length_nil]; have A5 := Lib.hid ((A3.out.below hl4.below).below ((Below.refl _ _).alloc (Nat.le_refl _) (Obj.cells #[.int .i64 2, .slice p4 0 c4, .int .i64 2] 42))); have B5 := Lib.hid (AccAt.new (farm := 2) (next := 2) hl4.recs hl4.nil 42); obtain ⟨d0, d1, d2, d3, d4, d5, d6⟩ := A5.out.box; obtain ⟨f0, f1, f2, f3, f4, f5, f6⟩ := B5.out.box; simp only [List.length_singleton] at d1; simp only [List.length_nil] at f0 f1 f2) | (go_at_call 29; refine Calls.mono (C5.out _ _ _ A5.out.recs) ?_; rintro e w6 ⟨rfl, hb6⟩; have B6 := Lib.hid (B5.out.below hb6); obtain ⟨h0, h1, h2, h3, h4, h5, h6⟩ := B6.out.box; simp only [List.length_nil] at h1) | (go_at_call 30; refine Calls.mono (C6.out _ _ _) ?_; rintro e w7 ⟨rfl, hb7⟩) | (go_at_call 16; refine (CD.out _).mono ?_; rintro e w' ⟨rfl, rfl⟩))
  go_ret
  have le := Nat.le_refl w.heap.size
  exact ⟨rfl, bstep le (bstep le (balloc le (bstep le (bstep le (bsetTo (bstep le (balloc le hb1 _) hl2.below) w1.heap.size hb1.size _ _ _) hb3) hl4.below) _) hb6) hb7⟩

end Go.Proofs.Ytdnddikchchdkaa
