/-
  THE WALK over law17.awake.
-/
import Derived.Test.YtflcdkibjakciaaGreatDoorT39
import Derived.Test.YtflcdkibjakciaaGreatDoorT44
import Derived.Test.YtflcdkibjakciaaGreatDoorT43
namespace Go.Proofs.YtflcdkibjakciaaGreatDoor
open Go.RowKit Te Sc

def Yes (w : World) (e : Ending) (w' : World) : Prop := e = .returned (.bool true) ∧ Below w.heap.size w w'

/-- One scheme, in a new row. -/
theorem ss_one {B d : Nat} {W : World} {r : RSx} {s : Sch} (sv : SV (NewQ B) W d r s) (hB : B ≤ W.heap.size) (T : TypeId) : SsAt (NewQ B) (W.alloc (.cells (sCells r).toArray T)) d (some ⟨W.heap.size, 0, none⟩) [s] := by
  have hA : Below W.heap.size W (W.alloc (.cells (sCells r).toArray T)) := (Below.refl _ _).alloc (Nat.le_refl _) _
  refine ⟨⟨[r], rfl, Recs.lit (S := SSc) W T [r] (by show 1 ≤ _; unfold maxLen; omega), fun k a b => ?_⟩, fun a e => .inr (by cases e; exact hB)⟩
  match k, a with
  | 0, _ => exact sv.below hA

def awS : Sch := ⟨0, ⟨#[98, 97, 115, 105, 99]⟩, .mk 1 0 0 [], [⟨1000, 200⟩, ⟨3000, 100⟩], 0, 0, false⟩
def awR (b : Nat) : RSx := ⟨0, ⟨#[98, 97, 115, 105, 99]⟩, ⟨1, 0, 0, none, 0, 0⟩, some ⟨b, 0, none⟩, 2, 2, 0, 0, false⟩

set_option maxRecDepth 100000 in
theorem aw_amt : (amtV awS 2000, amtE awS 2000) = (3000, 0) := by kernel_rfl
set_option maxRecDepth 100000 in
theorem aw_chk : chk17 [awS] = (-1, 0) := by kernel_rfl
set_option maxRecDepth 100000 in
theorem aw_text : prT17 [awS] = (⟨#[115, 99, 104, 101, 109, 101, 32, 48, 32, 98, 97, 115, 105, 99, 32, 48, 10, 105, 102, 32, 116, 114, 117, 101, 10, 114, 97, 116, 101, 32, 49, 48, 48, 48, 32, 50, 48, 48, 10, 114, 97, 116, 101, 32, 51, 48, 48, 48, 32, 49, 48, 48, 10]⟩ : ByteArray).data.toList := by kernel_rfl
set_option maxRecDepth 100000 in
theorem aw_parse : parse17 (⟨#[115, 99, 104, 101, 109, 101, 32, 48, 32, 98, 97, 115, 105, 99, 32, 48, 10, 105, 102, 32, 116, 114, 117, 101, 10, 114, 97, 116, 101, 32, 49, 48, 48, 48, 32, 50, 48, 48, 10, 114, 97, 116, 101, 32, 51, 48, 48, 48, 32, 49, 48, 48, 10]⟩ : ByteArray).data.toList = ([awS], 0, 0) := by kernel_rfl

theorem aw_sv (w : World) (T : TypeId) : SV (NewQ w.heap.size) (w.alloc (.cells #[.int .i64 1000, .int .i64 200, .int .i64 3000, .int .i64 100] T)) 0 (awR w.heap.size) awS := by
  have h := Recs.lit (S := SBk) w T [⟨1000, 200⟩, ⟨3000, 100⟩] (by show 2 ≤ _; unfold maxLen; omega)
  exact ⟨rfl, rfl, ⟨⟨rfl, rfl, rfl, rfl, Nat.le_refl _, fun _ => rfl⟩, TmsAt.nil _ _ _ _⟩, h, rfl, Nat.le_refl _, fun e => (by cases e), fun a e => .inr (by cases e; exact Nat.le_refl _), rfl, rfl, rfl⟩

set_option maxRecDepth 100000 in
set_option maxHeartbeats 8000000 in
theorem awake17_any (w : World) (hE : Env w) : Calls Tryz.prog 12 #[] w (Yes w) := by
  have HE := Lib.hid hE
  have hA1 : Below w.heap.size w (w.alloc (.cells #[.int .i64 1000, .int .i64 200, .int .i64 3000, .int .i64 100] 34)) := (Below.refl _ _).alloc (Nat.le_refl _) _
  obtain ⟨W1, eW1⟩ : ∃ W : World, (w.alloc (.cells #[.int .i64 1000, .int .i64 200, .int .i64 3000, .int .i64 100] 34)).alloc (.cells #[.int .i64 0, .string ⟨#[98, 97, 115, 105, 99]⟩, .int .i64 1, .int .i64 0, .int .i64 0, .slice none 0 0, .slice (some ⟨w.heap.size, 0, none⟩) 2 2, .int .i64 0, .int .i64 0, .bool false] 32) = W := ⟨_, rfl⟩
  have hA2 := balloc (Nat.le_refl _) (Below.refl (w.alloc (.cells #[.int .i64 1000, .int .i64 200, .int .i64 3000, .int .i64 100] 34)).heap.size (w.alloc (.cells #[.int .i64 1000, .int .i64 200, .int .i64 3000, .int .i64 100] 34))) (.cells #[.int .i64 0, .string ⟨#[98, 97, 115, 105, 99]⟩, .int .i64 1, .int .i64 0, .int .i64 0, .slice none 0 0, .slice (some ⟨w.heap.size, 0, none⟩) 2 2, .int .i64 0, .int .i64 0, .bool false] 32)
  have SV1 := Lib.hid (show SV (NewQ w.heap.size) W1 0 (awR w.heap.size) awS from by rw [← eW1]; exact (aw_sv w 34).below hA2)
  have B1 := Lib.hid (show Below w.heap.size w W1 from by rw [← eW1]; exact bstep (Nat.le_refl _) hA1 hA2)
  have SC1 := Lib.hid (show SCells W1 (w.heap.size + 1) 0 (awR w.heap.size) from by
    rw [← eW1]
    have := SCells.box (w.alloc (.cells #[.int .i64 1000, .int .i64 200, .int .i64 3000, .int .i64 100] 34)) (awR w.heap.size) 32
    rw [World.size_alloc] at this
    exact this)
  have L1 := Lib.hid (show w.heap.size + 1 < W1.heap.size by rw [← eW1]; simp)
  have EW := Lib.hid eW1
  clear hE hA1 hA2 eW1
  go_enter Tryz.func12, Tryz.ntmps12
  go_wp2_with fail
  rw [EW.out]
  have AM := Lib.hid (amount17_any 0 (awR w.heap.size) awS 2000 W1 SV1.out (by show 5 ≤ _; omega))
  rw [aw_amt] at AM
  unfold ChkG at AM
  simp only [awR] at AM
  (with_reducible refine Calls.mono AM.out ?_)
  rintro e w2 ⟨rfl, hb2⟩
  have B2 := Lib.hid (bstep (Nat.le_refl _) B1.out hb2)
  have SV2 := Lib.hid (SV1.out.below hb2)
  obtain ⟨c0, c1, c2, c3, c4, c5, c6, c7, c8, c9⟩ := SC1.out.below hb2 L1.out
  simp only [Nat.zero_add, awR] at c0 c1 c2 c3 c4 c5 c6 c7 c8 c9
  have L2 := Lib.hid (Nat.lt_of_lt_of_le L1.out hb2.size)
  have SC2 := Lib.hid (SC1.out.below hb2 L1.out)
  clear hb2
  go_wp2_with fail
  have hA3 := balloc (Nat.le_refl _) (Below.refl w2.heap.size w2) (.cells #[.int .i64 0, .string ⟨#[98, 97, 115, 105, 99]⟩, .int .i64 1, .int .i64 0, .int .i64 0, .slice none 0 0, .slice (some ⟨w.heap.size, 0, none⟩) 2 2, .int .i64 0, .int .i64 0, .bool false] 32)
  have PR := Lib.hid (print17_any 0 (some ⟨w2.heap.size, 0, none⟩) [awS] 1 _ (ss_one SV2.out B2.out.size 32) (fun s hs => by obtain rfl := List.mem_singleton.1 hs; show 5 ≤ _; omega) (Nat.le_refl _) ((HE.out.below B2.out).below hA3))
  unfold PrintG17 at PR
  rw [aw_text, aw_chk, show [awS].length = 1 from rfl] at PR
  have PR := Lib.hid (show Calls Tryz.prog 13 #[.slice (some ⟨w2.heap.size, 0, none⟩) 1 1] (w2.alloc (.cells #[.int .i64 0, .string ⟨#[98, 97, 115, 105, 99]⟩, .int .i64 1, .int .i64 0, .int .i64 0, .slice none 0 0, .slice (some ⟨w.heap.size, 0, none⟩) 2 2, .int .i64 0, .int .i64 0, .bool false] 32)) (fun e w' => e = .returned (.tuple #[.string ⟨#[115, 99, 104, 101, 109, 101, 32, 48, 32, 98, 97, 115, 105, 99, 32, 48, 10, 105, 102, 32, 116, 114, 117, 101, 10, 114, 97, 116, 101, 32, 49, 48, 48, 48, 32, 50, 48, 48, 10, 114, 97, 116, 101, 32, 51, 48, 48, 48, 32, 49, 48, 48, 10]⟩, .int .i64 0]) ∧ Below (w2.alloc (.cells #[.int .i64 0, .string ⟨#[98, 97, 115, 105, 99]⟩, .int .i64 1, .int .i64 0, .int .i64 0, .slice none 0 0, .slice (some ⟨w.heap.size, 0, none⟩) 2 2, .int .i64 0, .int .i64 0, .bool false] 32)).heap.size (w2.alloc (.cells #[.int .i64 0, .string ⟨#[98, 97, 115, 105, 99]⟩, .int .i64 1, .int .i64 0, .int .i64 0, .slice none 0 0, .slice (some ⟨w.heap.size, 0, none⟩) 2 2, .int .i64 0, .int .i64 0, .bool false] 32)) w') from PR.out)
  (with_reducible refine Calls.mono PR.out ?_)
  rintro e w3 ⟨rfl, hb3⟩
  have hb23 := bstep (Nat.le_refl _) hA3 hb3
  have B3 := Lib.hid (bstep (Nat.le_refl _) B2.out hb23)
  have SV3 := Lib.hid (SV2.out.below hb23)
  have SC3 := Lib.hid (SC2.out.below hb23 L2.out)
  have L3 := Lib.hid (Nat.lt_of_lt_of_le L2.out hb23.size)
  clear hb3 hb23 hA3 c0 c1 c2 c3 c4 c5 c6 c7 c8 c9
  go_wp2_with fail
  have PA := Lib.hid (parse17_any ⟨#[115, 99, 104, 101, 109, 101, 32, 48, 32, 98, 97, 115, 105, 99, 32, 48, 10, 105, 102, 32, 116, 114, 117, 101, 10, 114, 97, 116, 101, 32, 49, 48, 48, 48, 32, 50, 48, 48, 10, 114, 97, 116, 101, 32, 51, 48, 48, 48, 32, 49, 48, 48, 10]⟩ w3 (HE.out.below B3.out) (by show 53 ≤ _; omega))
  rw [aw_parse] at PA
  (with_reducible refine Calls.mono PA.out ?_)
  rintro e w4 ⟨p4, c4, d4, rfl, hss, hlc, hb4⟩
  have B4 := Lib.hid (bstep (Nat.le_refl _) B3.out hb4)
  have SV4 := Lib.hid (SV3.out.below hb4)
  have HS := Lib.hid hss
  obtain ⟨c0, c1, c2, c3, c4', c5, c6, c7, c8, c9⟩ := SC3.out.below hb4 L3.out
  simp only [Nat.zero_add, awR] at c0 c1 c2 c3 c4' c5 c6 c7 c8 c9
  clear hb4 hss hlc
  rw [show ([awS], (0 : Int), (0 : Int)).1.length = 1 from rfl]
  go_wp2_with fail
  have hA5 := balloc (Nat.le_refl _) (Below.refl w4.heap.size w4) (.cells #[.int .i64 0, .string ⟨#[98, 97, 115, 105, 99]⟩, .int .i64 1, .int .i64 0, .int .i64 0, .slice none 0 0, .slice (some ⟨w.heap.size, 0, none⟩) 2 2, .int .i64 0, .int .i64 0, .bool false] 32)
  have SM := Lib.hid (same17_any d4 0 p4 (some ⟨w4.heap.size, 0, none⟩) [awS] 1 c4 1 _ rfl (HS.out.below hA5) (ss_one SV4.out B4.out.size 32))
  unfold BoolG at SM
  (with_reducible refine Calls.mono SM.out ?_)
  rintro e w5 ⟨rfl, hb5⟩
  have HF := Lib.hid (bstep (Nat.le_refl _) B4.out (bstep (Nat.le_refl _) hA5 hb5))
  clear hb5 hA5
  go_wp2
  go_ret
  exact ⟨rfl, HF.out⟩

end Go.Proofs.YtflcdkibjakciaaGreatDoor
