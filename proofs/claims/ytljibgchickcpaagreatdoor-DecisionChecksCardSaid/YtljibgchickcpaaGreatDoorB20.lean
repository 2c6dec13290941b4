/- Packed. -/
import Derived.Test.YtljibgchickcpaaGreatDoorB19
set_option maxHeartbeats 2000000
open Go.Value renaming int → I
open Go.IntKind renaming i64 → O
namespace Go.Proofs.YtljibgchickcpaaGreatDoor
open Go.RowKit Sc As Dn
theorem refnum35_any (y f v : Int) (w : World) : Calls Tryz.prog 15 #[I O y, I O f, I O v] w fun e w' => e = .returned (I O (num y f v)) ∧ w = w' := by
 by_cases h0 : 0 ≤ y
 ·skip
  by_cases h1 : y ≤ 100
  ·skip
   by_cases h2 : 1 ≤ f
   ·skip
    by_cases h3 : f ≤ 60
    ·skip
     by_cases h4 : 1 ≤ v
     ·skip
      by_cases h5 : v ≤ 99
      ·skip
       have HA : num y f v = (y * 61 + f) * 100 + v := if_pos (by unfold named; rw [inR_iff.2 ⟨h0, h1⟩, inR_iff.2 ⟨h2, h3⟩, inR_iff.2 ⟨h4, h5⟩]; rfl); rw [HA]; clear HA; have n0 : ¬ y < 0 := by omega
       have n1 : ¬ 100 < y := by omega
       have n2 : ¬ f < 1 := by omega
       have n3 : ¬ 60 < f := by omega
       have n4 : ¬ v < 1 := by omega
       have n5 : ¬ 99 < v := by omega
       go_enter Tryz.func15, Tryz.ntmps15
       go_wp2
       go_ret
       exact ⟨rfl, rfl⟩
      ·have HA : num y f v = 0 := if_neg (by unfold named inR; simp; omega)
       rw [HA]; clear HA; have n0 : ¬ y < 0 := by omega
       have n1 : ¬ 100 < y := by omega
       have n2 : ¬ f < 1 := by omega
       have n3 : ¬ 60 < f := by omega
       have n4 : ¬ v < 1 := by omega
       have n5 : 99 < v := by omega
       go_enter Tryz.func15, Tryz.ntmps15
       go_wp2
       go_ret
       exact ⟨rfl, rfl⟩
     ·have HA : num y f v = 0 := if_neg (by unfold named inR; simp; omega)
      rw [HA]; clear HA; have n0 : ¬ y < 0 := by omega
      have n1 : ¬ 100 < y := by omega
      have n2 : ¬ f < 1 := by omega
      have n3 : ¬ 60 < f := by omega
      have n4 : v < 1 := by omega
      go_enter Tryz.func15, Tryz.ntmps15
      go_wp2
      go_ret
      exact ⟨rfl, rfl⟩
    ·have HA : num y f v = 0 := if_neg (by unfold named inR; simp; omega)
     rw [HA]; clear HA; have n0 : ¬ y < 0 := by omega
     have n1 : ¬ 100 < y := by omega
     have n2 : ¬ f < 1 := by omega
     have n3 : 60 < f := by omega
     go_enter Tryz.func15, Tryz.ntmps15
     go_wp2
     go_ret
     exact ⟨rfl, rfl⟩
   ·have HA : num y f v = 0 := if_neg (by unfold named inR; simp; omega)
    rw [HA]; clear HA; have n0 : ¬ y < 0 := by omega
    have n1 : ¬ 100 < y := by omega
    have n2 : f < 1 := by omega
    go_enter Tryz.func15, Tryz.ntmps15
    go_wp2
    go_ret
    exact ⟨rfl, rfl⟩
  ·have HA : num y f v = 0 := if_neg (by unfold named inR; simp; omega)
   rw [HA]; clear HA; have n0 : ¬ y < 0 := by omega
   have n1 : 100 < y := by omega
   go_enter Tryz.func15, Tryz.ntmps15
   go_wp2
   go_ret
   exact ⟨rfl, rfl⟩
 ·have HA : num y f v = 0 := if_neg (by unfold named inR; simp; omega)
  rw [HA]; clear HA; have n0 : y < 0 := by omega
  go_enter Tryz.func15, Tryz.ntmps15
  go_wp2
  go_ret
  exact ⟨rfl, rfl⟩
theorem num35_any (y f v : Int) (w : World) : Calls Tryz.prog 18 #[I O y, I O f, I O v] w fun e w' => e = .returned (I O (num y f v)) ∧ w = w' := by
 have I1 := mh (named35_any y f v w)
 by_cases h : named y f v = true
 ·have HA : num y f v = (y * 61 + f) * 100 + v := if_pos h
  rw [h] at I1; unfold named at h; simp only [Bool.and_eq_true, inR_iff] at h; rw [HA]; clear HA; obtain ⟨⟨⟨h0, h1⟩, h2, h3⟩, h4, h5⟩ := h
  go_enter Tryz.func18, Tryz.ntmps18
  go_wp2_with (go_at_call 30; (with_reducible refine cmo I1.out ?_); rintro e w1 ⟨rfl, rfl⟩)
  go_ret
  exact ⟨rfl, rfl⟩
 ·have HA : num y f v = 0 := if_neg h
  rw [Bool.not_eq_true] at h; rw [h] at I1; rw [HA]; clear HA h
  go_enter Tryz.func18, Tryz.ntmps18
  go_wp2_with (go_at_call 30; (with_reducible refine cmo I1.out ?_); rintro e w1 ⟨rfl, rfl⟩)
  go_ret
  exact ⟨rfl, rfl⟩
def Dn.splB (n : Int) : Bool := decide (0 ≤ n) && named (n / 100 / 61) (n / 100 % 61) (n % 100)
def Dn.spl (n : Int) : Array Value := if splB n = true then #[I O (n / 100 / 61), I O (n / 100 % 61), I O (n % 100), .bool true] else #[I O 0, I O 0, I O 0, .bool false]
def SplG (n : Int) (w : World) (e : Ending) (w' : World) : Prop := e = .returned (.tuple (spl n)) ∧ w = w'
theorem SplG.yes {n : Int} (h : splB n = true) (w : World) : SplG n w (.returned (.tuple #[I O (n / 100 / 61), I O (n / 100 % 61), I O (n % 100), .bool true])) w := ⟨by unfold spl; rw [if_pos h], rfl⟩
theorem SplG.no {n : Int} (h : splB n = false) (w : World) : SplG n w (.returned (.tuple #[I O 0, I O 0, I O 0, .bool false])) w := ⟨by unfold spl; rw [if_neg (by rw [h]; decide)], rfl⟩
theorem split35_any (n : Int) (w : World) (h1 : n ≤ 9223372036854775807) (h2 : -9223372036854775808 ≤ n) : Calls Tryz.prog 16 #[I O n] w (SplG n w) := by
 by_cases h0 : 0 ≤ n
 ·have hq : n / 100 ≤ 9223372036854775807 := by omega
  have hq0 : 0 ≤ n / 100 := by omega
  have I1 := mh (named35_any (n / 100 / 61) (n / 100 % 61) (n % 100) w); have hn : ¬ n < 0 := by omega
  have ES : splB n = named (n / 100 / 61) (n / 100 % 61) (n % 100) := by unfold splB; rw [dqt h0]; rfl
  cases e : named (n / 100 / 61) (n / 100 % 61) (n % 100)
  ·have GV := mh (fun W => SplG.no (ES.trans e) W)
   rw [e] at I1; clear e ES
   go_enter Tryz.func16, Tryz.ntmps16
   go_wp2_with (go_at_call 30; (with_reducible refine cmo I1.out ?_); rintro e w1 ⟨rfl, rfl⟩)
   exact bodyPost_ret (v := .tuple #[I O 0, I O 0, I O 0, .bool false]) (by simp [results, Tryz.results16, go_sem]) rfl (GV.out _)
  ·have GV := mh (fun W => SplG.yes (ES.trans e) W)
   rw [e] at I1; clear e ES
   go_enter Tryz.func16, Tryz.ntmps16
   go_wp2_with (go_at_call 30; (with_reducible refine cmo I1.out ?_); rintro e w1 ⟨rfl, rfl⟩)
   exact bodyPost_ret (v := .tuple #[I O (n / 100 / 61), I O (n / 100 % 61), I O (n % 100), .bool true]) (by simp [results, Tryz.results16, go_sem]) rfl (GV.out _)
 ·have hn : n < 0 := by omega
  have GV := mh (fun W => SplG.no (n := n) (by unfold splB; rw [dqf h0]; rfl) W); clear h0
  go_enter Tryz.func16, Tryz.ntmps16
  go_wp2_with fail
  exact bodyPost_ret (v := .tuple #[I O 0, I O 0, I O 0, .bool false]) (by simp [results, Tryz.results16, go_sem]) rfl (GV.out _)
theorem Dn.num_back {n : Int} (h : splB n = true) : num (n / 100 / 61) (n / 100 % 61) (n % 100) = n ∧ n ≠ 0 := by
 unfold splB at h; rw [Bool.and_eq_true, decide_eq_true_eq] at h; obtain ⟨h0, h⟩ := h; have e : num (n / 100 / 61) (n / 100 % 61) (n % 100) = (n / 100 / 61 * 61 + n / 100 % 61) * 100 + n % 100 := if_pos h; unfold named at h; simp only [Bool.and_eq_true, inR_iff] at h; rw [e]; omega
theorem Dn.num_not {n : Int} (h0 : 0 ≤ n) (h : splB n = false) : num (n / 100 / 61) (n / 100 % 61) (n % 100) = 0 := by
 unfold splB at h; rw [dqt h0, Bool.true_and] at h; exact if_neg (by rw [h]; decide)
theorem refsplit35_any (n : Int) (w : World) (h1 : n ≤ 9223372036854775807) (h2 : -9223372036854775808 ≤ n) : Calls Tryz.prog 17 #[I O n] w (SplG n w) := by
 by_cases h0 : 0 ≤ n
 ·have hq : n / 100 ≤ 9223372036854775807 := by omega
  have hq0 : 0 ≤ n / 100 := by omega
  have I1 := mh (refnum35_any (n / 100 / 61) (n / 100 % 61) (n % 100) w); have hn : ¬ n < 0 := by omega
  cases e : splB n
  ·have GV := mh (fun W => SplG.no e W)
   rw [num_not h0 e] at I1; clear e
   by_cases hz : n = 0
   ·have hzb : ((0 : Int) != n) = false := by subst hz; rfl
    have hzc : (n == 0) = true := by subst hz; rfl
    clear hz
    go_enter Tryz.func17, Tryz.ntmps17
    go_wp2_with (go_at_call 15; (with_reducible refine cmo I1.out ?_); rintro e w1 ⟨rfl, rfl⟩)
    exact bodyPost_ret (v := .tuple #[I O 0, I O 0, I O 0, .bool false]) (by simp [results, Tryz.results17, go_sem]) rfl (GV.out _)
   ·have hzb : ((0 : Int) != n) = true := by simp; omega
    go_enter Tryz.func17, Tryz.ntmps17
    go_wp2_with (go_at_call 15; (with_reducible refine cmo I1.out ?_); rintro e w1 ⟨rfl, rfl⟩)
    exact bodyPost_ret (v := .tuple #[I O 0, I O 0, I O 0, .bool false]) (by simp [results, Tryz.results17, go_sem]) rfl (GV.out _)
  ·have GV := mh (fun W => SplG.yes e W)
   obtain ⟨b1, b2⟩ := num_back e; rw [b1] at I1; have hzc : (n == 0) = false := by simpa using b2
   clear e b1 b2
   go_enter Tryz.func17, Tryz.ntmps17
   go_wp2_with (go_at_call 15; (with_reducible refine cmo I1.out ?_); rintro e w1 ⟨rfl, rfl⟩)
   exact bodyPost_ret (v := .tuple #[I O (n / 100 / 61), I O (n / 100 % 61), I O (n % 100), .bool true]) (by simp [results, Tryz.results17, go_sem]) rfl (GV.out _)
 ·have hn : n < 0 := by omega
  have GV := mh (fun W => SplG.no (n := n) (by unfold splB; rw [dqf h0]; rfl) W); clear h0
  go_enter Tryz.func17, Tryz.ntmps17
  go_wp2_with fail
  exact bodyPost_ret (v := .tuple #[I O 0, I O 0, I O 0, .bool false]) (by simp [results, Tryz.results17, go_sem]) rfl (GV.out _)
end Go.Proofs.YtljibgchickcpaaGreatDoor
