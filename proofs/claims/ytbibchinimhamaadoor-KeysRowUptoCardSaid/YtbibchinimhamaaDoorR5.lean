/- KeysRow's walk for every argument of bulk at most 1048576; what the bound says of a slice of numbers. -/
import Derived.Test.YtbibchinimhamaaDoorRP
import Derived.Test.YtbibchinimhamaaDoorBulk
import Derived.WalkKit
import Derived.ProofKit
import Derived.OpenShut
import Derived.ChangeOld
import Derived.Below
import Derived.SizedLaws
import Derived.Deep.DeepHandedRow
import Derived.Lib.LaidTab
namespace Go.Proofs.YtbibchinimhamaaDoor.SR
open Go.ChangeShapes Go.WideShapes Go.ChangeAt Go.RowKit Go.Proofs.YtbibchinimhamaaDoorW.PrintWords

theorem law5 {A0 : Option Addr} {c0 : Nat} {l0 : List Int} {w : World} (hr0 : Kd.C (Kd.int .u8) w A0 l0.length l0) (hc0 : l0.length ≤ c0)
    (hw0 : ∀ x ∈ l0, (Lit.int .u8 x).wf = true) (h0 : l0.length ≤ 1048576) :
    Calls Tryd.prog 5 #[.slice A0 l0.length c0] w fun e w' => e = .returned (.bool true) ∧ Below w.heap.size w w' :=
  wainscotlaw04_KeysRow.calls 1048600 A0 c0 l0 true w hr0 hc0 (law_true l0 (fun x hx => bounds_u8 (hw0 x hx)) h0)

theorem bulk_ints {H : Type} {enc : TypeId × Value → H} {P : Program} {W : World} {base : Nat} {spare : Nat → Bool} {held : Bool} {t e : TypeId} {k : IntKind} {a : Option Addr} {len cap : Nat} {d : DataW H} {ps : List MemPlace} {ds : List (DataW H)}
    (hk : Rows.uptoSmall H ds = true) (hd : d ∈ ds) (hu : P.underlying t = some (.slice e)) (he : P.underlying e = some (.int k)) (hc : P.cellsOf e = 1)
    (h : DataW.Trod enc P W base spare held t (.slice a len cap) d ps) : len ≤ 1048576 := by
  have hb := bulks.bound hk
  have hp := bulks.part_le hd
  obtain ⟨fuel, hf⟩ := h
  rcases open_ints hu he hc hf with ⟨hcs, _⟩ | ⟨x, l, c, zs, hcs, _, hl, _, hz, hx, _, _⟩
  · simp [Value.cells] at hcs
    omega
  · simp [Value.cells] at hcs
    obtain ⟨rfl, rfl, rfl⟩ := hcs
    simp only [Prod.mk.injEq] at hx
    obtain ⟨rfl, _⟩ := hx
    have h2 := bulks.slice_le (lits (H := H) k (zs.take len)) (lits k (zs.drop len))
    have h3 : (lits (H := H) k (zs.take len)).length = (zs.take len).length := by simp [lits]
    have h4 : (zs.take len).length = len := by
      rw [List.length_take]
      split at hz <;> omega
    omega

theorem own : ownKnob Tryd.prog.godebug = none := by kernel_rfl
theorem laidOut : laidOutB Tryd.prog = true := by kernel_rfl
def relay (cs : Array Value) : Obj → Obj
  | .cells _ q fr => .cells cs q fr
  | o => o
/-- A world for the witness: the settled one, with both tables of Go's laid. -/
noncomputable def laidWorld (os : Os) : World :=
  { World.holding Tryd.prog os ⟨#[], #[], []⟩ with heap := ((World.holding Tryd.prog os ⟨#[], #[], []⟩).heap.modify 1 (relay (Go.Pinned.utf8FirstZ.map fun n : Nat => Value.int .u8 (n : Int)).toArray)).modify 2 (relay (([128, 191, 160, 191, 128, 159, 144, 191, 128, 143] ++ List.replicate 22 0 : List Nat).map fun n : Nat => Value.int .u8 (n : Int)).toArray) }
theorem laid_met (os : Os) (args : Array Value) : laidMet Tryd.prog Rows.keysRowUptoRow.laid ((laidWorld os).forCall (fun _ _ => 0) ⟨#[], args, []⟩).memory :=
  laidMet_of_run' 8 (by kernel_rfl) (by kernel_rfl)
end Go.Proofs.YtbibchinimhamaaDoor.SR
