/- Programs: instructions in memory; the shapes of their signs. -/
import Derived.Test.YtbibchinimhamaaF
import Derived.Deep.RegionHeld3
namespace Go.Proofs.Ytbibchinimhamaa
open Go.RowKit

def shapeO (op : ByteArray) : Int :=
  if op.toList == [99, 111, 110, 115, 116] || op.toList == [99, 111, 108] then 0
  else if op.toList == [110, 101, 103] || op.toList == [110, 117, 108, 108] || op.toList == [115, 111, 109, 101] || op.toList == [110, 111, 116] || op.toList == [99, 111, 112, 121] then 1
  else if op.toList == [43] || op.toList == [45] || op.toList == [42] || op.toList == [61] || op.toList == [60, 62] || op.toList == [60] || op.toList == [60, 61] || op.toList == [62] || op.toList == [62, 61] || op.toList == [97, 110, 100] || op.toList == [111, 114] then 2
  else -1

set_option maxHeartbeats 1000000 in
theorem shape35 (op : ByteArray) (w : World) : Calls Try.prog 35 #[.string op] w fun e w' => e = .returned (.int .i64 (shapeO op)) ∧ w = w' := by
  go_enter Try.func35, Try.ntmps35
  go_wp2
  all_goals go_ret
  all_goals refine ⟨ret_int ?_, rfl⟩
  all_goals first | (simp [shapeO, *]; done) | (exfalso; simp_all; done)

def namedN (op : ByteArray) : Int := if shapeO op = -1 then 0 else shapeO op
def namedB (op : ByteArray) : Bool := !(shapeO op == -1)
set_option maxHeartbeats 1000000 in
theorem named56 (op : ByteArray) (w : World) : Calls Try.prog 56 #[.string op] w fun e w' => e = .returned (.tuple #[.int .i64 (namedN op), .bool (namedB op)]) ∧ w = w' := by
  go_enter Try.func56, Try.ntmps56
  go_wp2
  all_goals go_ret2
  all_goals refine ⟨?_, rfl⟩
  all_goals first | (simp [namedN, namedB, shapeO, *]; done) | (exfalso; simp_all; done)
end Go.Proofs.Ytbibchinimhamaa
