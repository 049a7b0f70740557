/- The world of the rows' witness: both tables of Go laid. -/
import Derived.Test.YtbibchinimhamaaDoorRows
import Derived.WalkKit
import Derived.ProofKit
import Derived.Deep.DeepHandedRow
import Derived.Lib.LaidTab
namespace Go.Proofs.YtbibchinimhamaaDoor.SK
open Go.ChangeShapes Go.WideShapes Go.ChangeAt Go.RowKit
theorem own : ownKnob Tryd.prog.godebug = none := by kernel_rfl
def relay (cs : Array Value) : Obj → Obj
  | .cells _ q fr => .cells cs q fr
  | o => o
/-- A world for the witness: the settled one, with both tables of Go's laid. -/
noncomputable def laidWorld (os : Os) : World :=
  { World.holding Tryd.prog os ⟨#[], #[], []⟩ with heap := ((World.holding Tryd.prog os ⟨#[], #[], []⟩).heap.modify 1 (relay (Go.Pinned.utf8FirstZ.map fun n : Nat => Value.int .u8 (n : Int)).toArray)).modify 2 (relay (([128, 191, 160, 191, 128, 159, 144, 191, 128, 143] ++ List.replicate 22 0 : List Nat).map fun n : Nat => Value.int .u8 (n : Int)).toArray) }
theorem laid_met (os : Os) (args : Array Value) : laidMet Tryd.prog Rows.keysKeyRow.laid ((laidWorld os).forCall (fun _ _ => 0) ⟨#[], args, []⟩).memory :=
  laidMet_of_run' 8 (by kernel_rfl) (by kernel_rfl)
end Go.Proofs.YtbibchinimhamaaDoor.SK
