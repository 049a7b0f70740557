/- KeysAfter's walk for every argument; the world of the rows' witness, and sizes of an argument. -/
import Derived.Test.YtbibchinimhamaaDoorL4
import Derived.Test.YtbibchinimhamaaDoorRows
import Derived.Test.YtbibchinimhamaaDoorWSized
import Derived.WalkKit
import Derived.ProofKit
import Derived.OpenShut
import Derived.ShutString
import Derived.ChangeOld
import Derived.Below
import Derived.SizedLaws
import Derived.Deep.DeepHandedRow
import Derived.Lib.LaidTab
namespace Go.Proofs.YtbibchinimhamaaDoor.SA
open Go.ChangeShapes Go.WideShapes Go.ChangeAt Go.RowKit Go.Proofs.YtbibchinimhamaaDoorW.PrintWords

theorem u8_range {l : List Int} (h : ∀ x ∈ l, (Lit.int .u8 x).wf = true) : ∀ x ∈ l, 0 ≤ x ∧ x ≤ 255 := fun x hx => bounds_u8 (h x hx)

theorem law3 {A0 A1 A2 : Option Addr} {c0 c1 c2 : Nat} {l0 l1 l2 : List Int} {w : World}
    (hr0 : Kd.C (Kd.int .u8) w A0 l0.length l0) (hc0 : l0.length ≤ c0) (hr1 : Kd.C (Kd.int .u8) w A1 l1.length l1) (hc1 : l1.length ≤ c1) (hr2 : Kd.C (Kd.int .u8) w A2 l2.length l2) (hc2 : l2.length ≤ c2)
    (hw0 : ∀ x ∈ l0, (Lit.int .u8 x).wf = true) (h0 : l0.length ≤ 140737488351232) (h1 : l1.length ≤ 140737488351232) :
    Calls Tryd.prog 3 #[.slice A0 l0.length c0, .slice A1 l1.length c1, .slice A2 l2.length c2] w fun e w' => e = .returned (.bool true) ∧ Below w.heap.size w w' := by
  have hne : ∀ l : List Int, (l.length : Int) ≠ 0 → l ≠ [] := fun l h e => by subst e; exact h rfl
  exact keysAfter_walk (l0.length + 3) A0 c0 l0 A1 c1 l1 A2 c2 l2 (aft l0.length l0) w hr0 hc0 hr1 hc1 hr2 hc2 ⟨awake_f _ (by omega)⟩ ⟨keys_After_f l0 (by omega) _ (by omega)⟩ ⟨ref_After_f l0 (by omega) _ (by omega)⟩
    (by rw [strOfNums_size, strOfNums_size]; omega)
    (fun h => by rw [strOf_append, strOf_toList]; exact aft_above l0 l1 (u8_range hw0) (hne _ h))
    (fun h => by simp only [strOf_toList]; exact aft_of l0 l2 (u8_range hw0) (hne _ h))

theorem own : ownKnob Tryd.prog.godebug = none := by kernel_rfl
theorem laidOut : laidOutB Tryd.prog = true := by kernel_rfl

def relay (cs : Array Value) : Obj → Obj
  | .cells _ q fr => .cells cs q fr
  | o => o
/-- A world for the witness: the settled one, with both tables of Go's laid. -/
noncomputable def laidWorld (os : Os) : World :=
  { World.holding Tryd.prog os ⟨#[], #[], []⟩ with heap := ((World.holding Tryd.prog os ⟨#[], #[], []⟩).heap.modify 1 (relay (Go.Pinned.utf8FirstZ.map fun n : Nat => Value.int .u8 (n : Int)).toArray)).modify 2 (relay (([128, 191, 160, 191, 128, 159, 144, 191, 128, 143] ++ List.replicate 22 0 : List Nat).map fun n : Nat => Value.int .u8 (n : Int)).toArray) }
theorem laid_met (os : Os) (args : Array Value) : laidMet Tryd.prog Rows.keysAfterRow.laid ((laidWorld os).forCall (fun _ _ => 0) ⟨#[], args, []⟩).memory :=
  laidMet_of_run' 8 (by kernel_rfl) (by kernel_rfl)
end Go.Proofs.YtbibchinimhamaaDoor.SA
