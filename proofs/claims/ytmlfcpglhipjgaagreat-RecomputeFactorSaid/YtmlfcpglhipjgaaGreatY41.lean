/-
  PACKED (pack8.py): what is needed of the texts Fw.
-/
import Derived.Test.YtmlfcpglhipjgaaGreatY0
import Derived.Test.YtmlfcpglhipjgaaGreatY6
import Derived.Test.YtmlfcpglhipjgaaGreatY32
import Derived.Test.YtmlfcpglhipjgaaGreatY40
namespace Go.Proofs.YtmlfcpglhipjgaaGreat.Sc
end Go.Proofs.YtmlfcpglhipjgaaGreat.Sc
namespace Go.Proofs.YtmlfcpglhipjgaaGreat.As
end Go.Proofs.YtmlfcpglhipjgaaGreat.As
namespace Go.Proofs.YtmlfcpglhipjgaaGreat
open Go.RowKit Sc As
theorem recomputeFactor_walk (a : Option Addr) (len cap : Nat) (z : List Int) (w : World) (w0 : IsRow .i64 w a len cap z) :
  Calls Tryz.prog 13 #[.slice a len cap] w fun e w' => e = .returned (.bool true) ∧ Below w.heap.size w w' := recomputeFactor_walk_of awake38_any a len cap z w w0
end Go.Proofs.YtmlfcpglhipjgaaGreat
