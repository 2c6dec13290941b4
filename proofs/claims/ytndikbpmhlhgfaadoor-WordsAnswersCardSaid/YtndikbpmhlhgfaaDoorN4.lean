/-
  What WordsLimits' and WordsBack's walks take: Repeat, and texts with an error.
-/
import Derived.Test.YtndikbpmhlhgfaaDoorN3
namespace Go.Proofs.YtndikbpmhlhgfaaDoor
open Go.RowKit

def RepGive (x : UInt8) (n : Nat) (w : World) (e : Ending) (w' : World) : Prop := ∃ S : ByteArray, S.data.toList = List.replicate n x ∧ e = .returned (.string S) ∧ Below w.heap.size w w'

theorem repeatL_one' (x : UInt8) : ∀ n : Nat, Lib.repeatL [x] n = List.replicate n x
  | 0 => rfl
  | n + 1 => by
    have ih := repeatL_one' x n
    rw [List.replicate_succ, ← ih]
    rfl

theorem rep_any (x : UInt8) (c : Int) (w : World) (h0 : 0 ≤ c) (h1 : c ≤ 1048576) : Calls Tryd.prog 22 #[.string ⟨#[x]⟩, .int .i64 c] w (RepGive x c.toNat w) := by
  obtain ⟨n, rfl⟩ := Int.eq_ofNat_of_zero_le h0
  refine (Tryd.strings_Repeat ⟨#[x]⟩ n w (by omega) (by show 1 * n ≤ _; omega)).mono fun e w' ⟨he, hb⟩ => ⟨_, ?_, he, hb⟩
  rw [Int.toNat_natCast]
  exact repeatL_one' x n

/-- Some lines, and an error. -/
def ErrL (er : Int) (w : World) (e : Ending) (w' : World) : Prop := ∃ (p : Option Addr) (n c : Nat), e = .returned (.tuple #[.slice p n c, .int .i64 er]) ∧ Below w.heap.size w w'
/-- Some text, and an error. -/
def ErrT (er : Int) (w : World) (e : Ending) (w' : World) : Prop := ∃ S : ByteArray, e = .returned (.tuple #[.string S, .int .i64 er]) ∧ Below w.heap.size w w'

theorem splitE (s : ByteArray) (er : Int) (w : World) (hE : Env w) (hs : s.size ≤ 9223372036854775807) (he : Wo.sErr s.data.toList = er) : Calls Tryd.prog 13 #[.string s] w (ErrL er w) :=
  (split_any s w hE hs).mono fun _ _ ⟨p, c, h1, _, _, h4⟩ => ⟨p, (sLines s).length, c, he ▸ h1, h4⟩

theorem joinE (LL : List (List ByteArray)) (p : Option Addr) (n c : Nat) (er : Int) (w : World) (hn : LL.length = n) (h : LinesAt w p LL) (hT : (Wo.jText (lb LL)).length ≤ 1099511627776) (hz : ∀ ws ∈ LL, ws.length ≤ 1099511627776) (he : Wo.jErr (lb LL) = er) :
    Calls Tryd.prog 20 #[.slice p n c] w (ErrT er w) :=
  (hn ▸ join_any LL p c w h hT hz).mono fun _ _ ⟨h1, h2⟩ => ⟨⟨(Wo.jOut (lb LL)).toArray⟩, he ▸ h1, h2⟩

theorem lit_word (W : World) (x : ByteArray) : LinesAt ((W.alloc (.cells #[.string x] 9)).alloc (.cells #[.slice (some ⟨W.heap.size, 0, none⟩) 1 1] 25)) (some ⟨W.heap.size + 1, 0, none⟩) [[x]] := by
  have h1 := Recs.lit (S := SB) W 9 [x] (by unfold maxLen; simp)
  have h2 := Recs.lit (S := SH) (W.alloc (.cells #[.string x] 9)) 25 [⟨some ⟨W.heap.size, 0, none⟩, 1, 1⟩] (by unfold maxLen; simp)
  rw [World.size_alloc] at h2
  refine ⟨[⟨some ⟨W.heap.size, 0, none⟩, 1, 1⟩], rfl, h2, fun k hk hk' => ?_⟩
  obtain rfl : k = 0 := by simp at hk; omega
  exact ⟨rfl, h1.below ((Below.refl _ _).alloc (Nat.le_refl _) _), fun h => (by cases h), Nat.le_refl _⟩

theorem flat_nils : ∀ m : Nat, SH.flat (List.replicate m ⟨none, 0, 0⟩) = List.replicate m (Value.slice none 0 0)
  | 0 => rfl
  | m + 1 => by
    have ih := flat_nils m
    unfold Shape.flat at ih ⊢
    rw [List.replicate_succ, List.flatMap_cons, ih]
    rfl

theorem lit_nils (W : World) (m : Nat) (hm : m ≤ 1048576) : LinesAt (W.alloc (.cells (Array.replicate m (.slice none 0 0)) 25)) (some ⟨W.heap.size, 0, none⟩) (List.replicate m []) := by
  have h2 := Recs.lit (S := SH) W 25 (List.replicate m ⟨none, 0, 0⟩) (by rw [List.length_replicate]; unfold maxLen; omega)
  rw [flat_nils, List.toArray_replicate] at h2
  refine ⟨List.replicate m ⟨none, 0, 0⟩, by simp, h2, fun k hk hk' => ?_⟩
  rw [List.getElem_replicate, List.getElem_replicate]
  exact ⟨rfl, Recs.nil _ _, fun _ => rfl, Nat.le_refl _⟩

theorem lb_nils (m : Nat) : lb (List.replicate m []) = List.replicate m [] := by unfold lb; rw [List.map_replicate]; rfl

end Go.Proofs.YtndikbpmhlhgfaaDoor
