/- strings.Compare at this program's numbers. No conditions. -/
import Derived.Shelf.Small.Strs
import Derived.Test.YtllepjhimkogjaaProg
namespace Go.Proofs.Ytllepjhimkogjaa.Sc
open Go.Shelf
def lays106_ren : Go.Shelf.Ren := ⟨fun | 106 => 62 | 213 => 92 | 265 => 117 | n => n, fun | 3 => 3 | 9 => 9 | n => n, fun | n => n⟩
theorem lays106 : Go.Proofs.Lays.n106 Try.prog lays106_ren := {
  mixed := by kernel_rfl
  f106 := Try.func62.trans (congrArg some (by kernel_rfl))
  f213 := Try.func92.trans (congrArg some (by kernel_rfl))
  f265 := Try.func117.trans (congrArg some (by kernel_rfl))
  t3 := Try.underlying3
  a3 := Try.isAgg3
  z3 := Try.sizeOf3
  v3 := Try.zeroValue3
  t9 := Try.underlying9
  a9 := Try.isAgg9
  z9 := Try.sizeOf9
  v9 := Try.zeroValue9 }
theorem compare_calls (a b : ByteArray) (w : World) : Calls Try.prog 62 #[.string a, .string b] w fun e w' => e = .returned (.int .i64 (Lib.compareBytes a.data.toList b.data.toList)) ∧ w' = w := Any.strings_Compare lays106 a b w
end Go.Proofs.Ytllepjhimkogjaa.Sc
