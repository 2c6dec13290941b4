/-
  strings.Builder's WriteString and WriteByte, laid by hand (lay-shelf.mjs stops at them at this dump: no body of the closure names the type interface{}).
-/
import Derived.Test.YtcghhagnibabeaaGreatDoorShelf
namespace Go.Proofs.YtcghhagnibabeaaGreatDoor
open Go.Shelf Go.RowKit

def ren167 : Go.Shelf.Ren := ⟨fun n => if n = 167 then 57 else Tryz.lays156_ren.f n, Tryz.lays156_ren.t, Tryz.lays156_ren.g⟩

theorem lays166 : Go.Proofs.Lays.n166 Tryz.prog Tryz.lays156_ren := { Tryz.lays156 with }

theorem lays167 : Go.Proofs.Lays.n167 Tryz.prog ren167 := {
  mixed := by kernel_rfl
  f167 := Tryz.func57.trans (congrArg some (by kernel_rfl))
  f240 := Tryz.func84.trans (congrArg some (by kernel_rfl))
  f276 := Tryz.func110.trans (congrArg some (by kernel_rfl))
  t0 := Tryz.lays156.t0
  a0 := Tryz.lays156.a0
  z0 := Tryz.lays156.z0
  v0 := Tryz.lays156.v0
  t4 := Tryz.lays156.t4
  a4 := Tryz.lays156.a4
  z4 := Tryz.lays156.z4
  v4 := Tryz.lays156.v4
  t5 := Tryz.Builder_Extra_156.t5
  a5 := Tryz.Builder_Extra_156.a5
  z5 := Tryz.Builder_Extra_156.z5
  v5 := Tryz.Builder_Extra_156.v5
  t9 := Tryz.lays156.t9
  a9 := Tryz.lays156.a9
  z9 := Tryz.lays156.z9
  v9 := Tryz.lays156.v9
  t20 := Tryz.lays156.t20
  a20 := Tryz.lays156.a20
  z20 := Tryz.lays156.z20
  v20 := Tryz.lays156.v20
  t37 := Tryz.lays156.t37
  a37 := Tryz.lays156.a37
  z37 := Tryz.lays156.z37
  v37 := Tryz.lays156.v37
  t70 := Tryz.lays156.t70
  a70 := Tryz.lays156.a70
  z70 := Tryz.lays156.z70
  v70 := Tryz.lays156.v70
  t72 := Tryz.lays156.t72
  a72 := Tryz.lays156.a72
  z72 := Tryz.lays156.z72
  v72 := Tryz.lays156.v72
  t75 := Tryz.lays156.t75
  a75 := Tryz.lays156.a75
  z75 := Tryz.lays156.z75
  v75 := Tryz.lays156.v75
  t164 := Tryz.lays156.t164
  a164 := Tryz.lays156.a164
  z164 := Tryz.lays156.z164
  v164 := Tryz.lays156.v164 }

theorem extra167 : Builder.Extra Tryz.prog ren167 := {
  sizeBuilder := by kernel_rfl
  liesBuilder := by kernel_rfl
  t5 := Tryz.Builder_Extra_156.t5
  a5 := Tryz.Builder_Extra_156.a5
  z5 := Tryz.Builder_Extra_156.z5
  v5 := Tryz.Builder_Extra_156.v5
  infoByte := by kernel_rfl
  cellsByte := by kernel_rfl
  sizeByte := by kernel_rfl
  neB5 := by decide }

theorem bwriteString (B b : Nat) (bs : List Value) (s : ByteArray) (w : World) (h : Lib.IsBuilderF 77 5 B b bs w) (hlen : bs.length + s.size ≤ 140737488355328) (hBw : B ≤ w.heap.size) :
    Calls Tryz.prog 56 #[.pointer (some ⟨b, 0, none⟩), .string s] w fun e w' => e = .returned (.tuple #[.int .i64 s.size, .nilIface]) ∧ (Lib.BuilderAtF 77 5 B b (.pointer (some ⟨b, 0, none⟩)) (bs ++ Lib.strCells s) w' ∧ Below B w w' ∧ Lib.OthersKept 5 (some b) w w') :=
  Any.Builder_WriteString_k lays166 Tryz.Builder_Extra_156 B b bs s w h hlen hBw

theorem bwriteByte (B b : Nat) (bs : List Value) (c : Int) (w : World) (h : Lib.IsBuilderF 77 5 B b bs w) (hlen : bs.length + 1 ≤ 140737488355328) (hBw : B ≤ w.heap.size) :
    Calls Tryz.prog 57 #[.pointer (some ⟨b, 0, none⟩), .int .u8 c] w fun e w' => e = .returned .nilIface ∧ (Lib.BuilderAtF 77 5 B b (.pointer (some ⟨b, 0, none⟩)) (bs ++ [.int .u8 c]) w' ∧ Below B w w' ∧ Lib.OthersKept 5 (some b) w w') :=
  Any.Builder_WriteByte_k lays167 extra167 B b bs c w h hlen hBw

end Go.Proofs.YtcghhagnibabeaaGreatDoor
