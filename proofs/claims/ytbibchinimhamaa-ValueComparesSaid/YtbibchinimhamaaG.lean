/- How a value reads as data: opened and shut. -/
import Derived.Test.YtbibchinimhamaaC
import Derived.ProofKit
import Derived.OpenShut
import Derived.ShutString
import Derived.ChangeOld
import Derived.Below
import Derived.SizedLaws
import Derived.Lib.SmallJoins
namespace Go.Proofs.Ytbibchinimhamaa
open Go.ChangeShapes Go.WideShapes Go.ChangeAt Go.RowKit Go.Joins
open Go.ChangeMaps (open_string shut_string)

theorem Try.own : ownKnob Try.prog.godebug = none := by kernel_rfl
theorem Try.cells33 : Try.prog.cellsOf 33 = 3 := by kernel_rfl
def dV {H : Type} (v : V) : DataW H := .agg [.lit (.int .i64 v.k), .lit (.int .i64 v.n), .lit (.string v.s.data.toList)]
def V.wf (v : V) : Prop := (Lit.int .i64 v.k).wf = true ∧ (Lit.int .i64 v.n).wf = true ∧ v.s.size ≤ maxLen

section
variable {H : Type} {enc : TypeId × Value → H} {w : World} {base : Nat} {spare : Nat → Bool} {held : Bool}
theorem open_V {r : Reach} {b0 : Nat} {v : Value} {d : DataW H} {p : List MemPlace} (hv : Value.okWide Try.prog w r b0 33 v) (h : DataW.Trod enc Try.prog w base spare held 33 v d p) :
    ∃ x : V, v = x.val ∧ d = dV x ∧ p = [] ∧ x.wf := by
  obtain ⟨v0, v1, v2, y0, y1, y2, n, rfl, rfl, rfl, h0, h1, h2⟩ := open_agg3 Try.underlying33 (by kernel_rfl) Try.cells33 hv h
  obtain ⟨k, e0, rfl, w0⟩ := DataW.trod_int Try.underlying3 h0
  obtain ⟨m, e1, rfl, w1⟩ := DataW.trod_int Try.underlying2 h1
  obtain ⟨s, e2, rfl, w2⟩ := DataW.trod_string Try.underlying9 h2
  simp only [List.cons.injEq, and_true] at e0 e1 e2
  subst e0 e1 e2
  exact ⟨⟨k, m, s⟩, rfl, rfl, rfl, w0, w1, w2⟩
theorem shut_V {x : V} (hx : x.wf) : DataW.Trod enc Try.prog w base spare held 33 x.val (dV x) [] :=
  shut_agg3 (y0 := (.lit (.int .i64 x.k), [])) (y1 := (.lit (.int .i64 x.n), [])) (y2 := (.lit (.string x.s.data.toList), [])) Try.underlying33 (by kernel_rfl) Try.cells33
    ⟨1, by simp [DataW.trod, Try.underlying3, hx.1]⟩ ⟨1, by simp [DataW.trod, Try.underlying2, hx.2.1]⟩ ⟨1, by simp [DataW.trod, Try.underlying9, hx.2.2]⟩
end
end Go.Proofs.Ytbibchinimhamaa
