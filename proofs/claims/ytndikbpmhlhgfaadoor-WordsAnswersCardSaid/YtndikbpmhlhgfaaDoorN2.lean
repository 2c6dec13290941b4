/-
  THE WALK over WordsNumbers.
-/
import Derived.Test.YtndikbpmhlhgfaaDoorN1
import Derived.Test.YtndikbpmhlhgfaaDoorBd
namespace Go.Proofs.YtndikbpmhlhgfaaDoor
open Go.RowKit

def NB (v : Int) (q : Bool) (w : World) (e : Ending) (w' : World) : Prop := e = .returned (.tuple #[.int .i64 v, .bool q]) ∧ Below w.heap.size w w'

theorem num_is (S : ByteArray) (least most : Int) (W : World) (hE : Env W) (hs : S.size ≤ 281474976710656) {v : Int} {q : Bool}
    (hv : Wo.numV S.data.toList least most = v) (hq : Wo.numB S.data.toList least most = q) : Calls Tryd.prog 18 #[.string S, .int .i64 least, .int .i64 most] W (NB v q W) :=
  (number_any S least most W hE hs).mono fun e w' ⟨h1, h2⟩ => ⟨by rw [h1, hv, hq], h2⟩

set_option maxRecDepth 100000 in
set_option maxHeartbeats 8000000 in
theorem wordsNumbers_walk (n a b : Int) (n0 : -9223372036854775808 ≤ n) (n1 : n ≤ 9223372036854775807) (w : World) (hE : Env w) :
    Calls Tryd.prog 4 #[.int .i64 n, .int .i64 a, .int .i64 b] w (YesB w) := by
  have HE := Lib.hid hE
  have D1 := Lib.hid (decimal_any n w hE n0 n1)
  obtain ⟨S, hS⟩ : ∃ S : ByteArray, (⟨(Lib.itoa n).toArray⟩ : ByteArray) = S := ⟨_, rfl⟩
  unfold DecGive at D1
  rw [hS] at D1
  have hSd : S.data.toList = Lib.itoa n := by rw [← hS]
  have hlen := Wo.itoa_len20 n n0 n1
  have hSz : S.size ≤ 20 := by rw [← size_len, hSd]; exact hlen.2
  have hZd : ((⟨#[48]⟩ : ByteArray) ++ S).data.toList = 48 :: Lib.itoa n := by simp [hSd]
  have hZz : ((⟨#[48]⟩ : ByteArray) ++ S).size ≤ 21 := by
    rw [← size_len, hZd, List.length_cons]; omega
  have hO := Wo.numO_itoa n n0 n1
  have i1 := num_in (l := S.data.toList) (v := n) (by rw [hSd]; exact hO) (a := min a n) (b := max b n) (by omega)
  have i3 := num_none (l := ((⟨#[48]⟩ : ByteArray) ++ S).data.toList) (by rw [hZd]; exact Wo.numO_zero n n0 n1) (-9223372036854775808) 9223372036854775807
  have G1 := Lib.hid (fun (W : World) (h : Env W) => num_is S (min a n) (max b n) W h (by omega) i1.1 i1.2)
  have G3 := Lib.hid (fun (W : World) (h : Env W) => num_is ((⟨#[48]⟩ : ByteArray) ++ S) (-9223372036854775808) 9223372036854775807 W h (by omega) i3.1 i3.2)
  obtain ⟨m, em⟩ : ∃ m, IntKind.i64.wrap (n - 1) = m := ⟨_, rfl⟩
  have hm : -9223372036854775808 ≤ m ∧ m ≤ 9223372036854775807 ∧ (n ≠ -9223372036854775808 → m = n - 1) := by
    subst em
    have e : IntKind.i64.wrap (n - 1) = if n = -9223372036854775808 then 9223372036854775807 else n - 1 := by
      split
      · next h => subst h; decide
      · exact IntWalk.i64_in _ ⟨by omega, by omega⟩
    rw [e]; split <;> omega
  obtain ⟨v2, q2, ev, eq, hq⟩ : ∃ v2 q2, Wo.numV S.data.toList (-9223372036854775808) m = v2 ∧ Wo.numB S.data.toList (-9223372036854775808) m = q2 ∧ (n = -9223372036854775808 ∨ q2 = false) := by
    refine ⟨_, _, rfl, rfl, ?_⟩
    by_cases h : n = -9223372036854775808
    · exact .inl h
    · exact .inr (num_out (l := S.data.toList) (v := n) (by rw [hSd]; exact hO) (by have := hm.2.2 h; omega)).2
  have G2 := Lib.hid (fun (W : World) (h : Env W) => num_is S (-9223372036854775808) m W h (by omega) ev eq)
  clear hE hS i1 i3 hO hlen hSd hZd ev eq hm
  have HQ := Lib.hid hq
  clear hq
  go_enter Tryd.func4, Tryd.ntmps4
  go_wp2_with (first
    | (go_at_call 11; refine Calls.mono D1.out ?_; rintro e w1 ⟨rfl, hb1⟩)
    | (go_at_call 18; (with_reducible refine Calls.mono (G1.out w1 (HE.out.below hb1)) ?_); rintro e w2 ⟨rfl, hb2⟩; have hc2 := hb1.trans (hb2.mono hb1.size))
    | (go_at_call 18; (with_reducible refine Calls.mono (G2.out w2 (HE.out.below hc2)) ?_); rintro e w3 ⟨rfl, hb3⟩; have hc3 := hc2.trans (hb3.mono hc2.size))
    | (go_at_call 18; (with_reducible refine Calls.mono (G3.out w3 (HE.out.below hc3)) ?_); rintro e w4 ⟨rfl, hb4⟩; have hc4 := hc3.trans (hb4.mono hc3.size))
    | (go_at_call 7; refine Calls.mono (awake02_any w4 (HE.out.below hc4)) ?_; rintro e w5 ⟨rfl, hb5⟩))
  all_goals first
    | (go_ret; exact ⟨rfl, hc4.trans (hb5.mono hc4.size)⟩)
    | (exfalso; rcases HQ.out with h | h <;> simp_all; done)

theorem wordsNumbers_fit (n a b : Int) (w : World) (hn : (Lit.int .i64 n).wf = true) (_ha : (Lit.int .i64 a).wf = true) (_hb : (Lit.int .i64 b).wf = true) (hE : Env w) :
    Calls Tryd.prog 4 #[.int .i64 n, .int .i64 a, .int .i64 b] w (YesB w) :=
  wordsNumbers_walk n a b (bd_i64 hn).1 (bd_i64 hn).2 w hE
end Go.Proofs.YtndikbpmhlhgfaaDoor
