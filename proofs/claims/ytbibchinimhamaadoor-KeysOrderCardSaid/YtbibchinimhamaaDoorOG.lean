/- How a value reads as data: opened and shut. -/
import Derived.Test.YtbibchinimhamaaDoorOC
import Derived.ProofKit
import Derived.OpenShut
import Derived.ShutString
import Derived.ChangeOld
import Derived.Below
import Derived.SizedLaws
import Derived.Lib.SmallJoins
import Derived.Deep.Slices
import Derived.Deep.Fields
import Derived.Carry
namespace Go.Proofs.YtbibchinimhamaaDoor
open Go.ChangeShapes Go.WideShapes Go.ChangeAt Go.RowKit Go.Joins
open Go.ChangeMaps (open_string shut_string)

theorem Tryd.own : ownKnob Tryd.prog.godebug = none := by kernel_rfl
theorem Tryd.cells38 : Tryd.prog.cellsOf 38 = 3 := by kernel_rfl
def dV {H : Type} (v : V) : DataW H := .agg [.lit (.int .i64 v.k), .lit (.int .i64 v.n), .lit (.string v.s.data.toList)]

section
variable {H : Type} {enc : TypeId × Value → H} {w : World} {base : Nat} {spare : Nat → Bool} {held : Bool}
theorem open_V {r : Reach} {b0 : Nat} {v : Value} {d : DataW H} {p : List MemPlace} (hv : Value.okWide Tryd.prog w r b0 38 v) (h : DataW.Trod enc Tryd.prog w base spare held 38 v d p) :
    ∃ x : V, v = x.val ∧ d = dV x ∧ p = [] ∧ x.wf := by
  obtain ⟨v0, v1, v2, y0, y1, y2, n, rfl, rfl, rfl, h0, h1, h2⟩ := open_agg3 Tryd.underlying38 (by kernel_rfl) Tryd.cells38 hv h
  obtain ⟨k, e0, rfl, w0⟩ := DataW.trod_int Tryd.underlying3 h0
  obtain ⟨m, e1, rfl, w1⟩ := DataW.trod_int Tryd.underlying2 h1
  obtain ⟨s, e2, rfl, w2⟩ := DataW.trod_string Tryd.underlying9 h2
  simp only [List.cons.injEq, and_true] at e0 e1 e2
  subst e0 e1 e2
  exact ⟨⟨k, m, s⟩, rfl, rfl, rfl, w0, w1, w2⟩
theorem shut_V {x : V} (hx : x.wf) : DataW.Trod enc Tryd.prog w base spare held 38 x.val (dV x) [] :=
  shut_agg3 (y0 := (.lit (.int .i64 x.k), [])) (y1 := (.lit (.int .i64 x.n), [])) (y2 := (.lit (.string x.s.data.toList), [])) Tryd.underlying38 (by kernel_rfl) Tryd.cells38
    ⟨1, by simp [DataW.trod, Tryd.underlying3, hx.1]⟩ ⟨1, by simp [DataW.trod, Tryd.underlying2, hx.2.1]⟩ ⟨1, by simp [DataW.trod, Tryd.underlying9, hx.2.2]⟩
end

theorem Tryd.laidOut : laidOutB Tryd.prog = true := by kernel_rfl
theorem carryAll {H : Type} {enc : TypeId × Value → H} {W W' : World} (hb : Below W.heap.size W W') :
    ∀ {ts : List TypeId} {vs : List Value} {ds : List (DataW H)} {ps : List MemPlace}, (∀ t ∈ ts, Tryd.prog.readableRec t = true ∧ t < Tryd.prog.types.size) →
      DataW.TrodAll enc Tryd.prog W 0 (fun _ => true) true ts vs ds ps → (∀ x ∈ ps, x.block < W.heap.size) → DataW.TrodAll enc Tryd.prog W' 0 (fun b => decide (b < W.heap.size)) true ts vs ds ps
  | [], vs, ds, ps, _, h, _ => by cases vs <;> cases ds <;> simp_all [DataW.TrodAll]
  | t :: ts, vs, ds, ps, hr, h, hlt => by
    obtain ⟨v, vs', d, ds', p, q, rfl, rfl, rfl, h1, h2⟩ := trodAll_cons h
    have ht := hr t List.mem_cons_self
    refine ⟨p, q, Below.trod Tryd.laidOut ht.1 ht.2 h1 hb (fun x hx => hlt x (List.mem_append_left _ hx)), carryAll hb (fun t' ht' => hr t' (List.mem_cons_of_mem _ ht')) h2 (fun x hx => hlt x (List.mem_append_right _ hx)), rfl⟩

section
variable {H : Type} {enc : TypeId × Value → H} {w : World} {base : Nat} {spare : Nat → Bool} {held : Bool}
theorem trod_V {fuel : Nat} {c0 c1 c2 : Value} {y : DataW H × List MemPlace} (h : DataW.trod enc Tryd.prog w base spare held fuel 38 [c0, c1, c2] = some y) :
    ∃ x : V, c0 = .int .i64 x.k ∧ c1 = .int .i64 x.n ∧ c2 = .string x.s ∧ y = (dV x, []) ∧ x.wf := by
  obtain ⟨y0, y1, y2, n, rfl, _, h0, h1, h2⟩ := Go.Deep.trod_struct3 Tryd.underlying38 h
  obtain ⟨k, e0, rfl, w0⟩ := DataW.trod_int Tryd.underlying3 h0
  obtain ⟨m, e1, rfl, w1⟩ := DataW.trod_int Tryd.underlying2 h1
  obtain ⟨s, e2, rfl, w2⟩ := DataW.trod_string Tryd.underlying9 h2
  have k3 : Tryd.prog.cellsOf 3 = 1 := by kernel_rfl
  have k2 : Tryd.prog.cellsOf 2 = 1 := by kernel_rfl
  have k9 : Tryd.prog.cellsOf 9 = 1 := by kernel_rfl
  simp [k3, k2, k9] at e0 e1 e2
  subst e0 e1 e2
  exact ⟨⟨k, m, s⟩, rfl, rfl, rfl, rfl, w0, w1, w2⟩
theorem choose_list {α : Type} [Inhabited α] {P : Nat → α → Prop} : ∀ (n : Nat), (∀ i, i < n → ∃ x, P i x) → ∃ xs : List α, xs.length = n ∧ ∀ i, i < n → P i (xs.getD i default)
  | 0, _ => ⟨[], rfl, fun i h => absurd h (by omega)⟩
  | n + 1, h => by
    obtain ⟨xs, hl, hx⟩ := choose_list n (fun i hi => h i (by omega))
    obtain ⟨x, hp⟩ := h n (by omega)
    refine ⟨xs ++ [x], by simp [hl], fun i hi => ?_⟩
    by_cases e : i < n
    · have := hx i e
      simpa [List.getElem?_append_left (show i < xs.length by omega)] using this
    · obtain rfl : i = n := by omega
      simpa [List.getElem?_append_right (show xs.length ≤ i by omega), hl] using hp

/-- A slice of values, opened: the values that its cells hold. -/
theorem open_Vs {r : Reach} {b0 : Nat} {v : Value} {d : DataW H} {p : List MemPlace} (hv : Value.okWide Tryd.prog w r b0 26 v) (h : DataW.Trod enc Tryd.prog w base spare held 26 v d p) :
    ∃ (A : Option Addr) (xs : List V) (c : Nat), v = .slice A xs.length c ∧ HasV w A xs ∧ xs.length ≤ maxLen ∧ xs.length ≤ c ∧ ∀ i, i < xs.length → (el xs i).wf := by
  obtain ⟨a0, len, cap, rfl⟩ := okWide_slice Tryd.underlying26 hv
  obtain ⟨fuel, hf⟩ := h
  rcases Go.Deep.open_slice Tryd.underlying26 hf with ⟨hcs, hx⟩ | ⟨a, len', cap', m, n, D, Pl, hcs, hb, hl, hm, hmm, hx, hi⟩
  · simp only [Value.cells, List.cons.injEq, Value.slice.injEq, and_true] at hcs
    obtain ⟨rfl, rfl, rfl⟩ := hcs
    exact ⟨none, [], 0, rfl, fun hn => absurd rfl hn, Nat.zero_le _, Nat.zero_le _, fun i hi => absurd hi (by simp)⟩
  · simp only [Value.cells, List.cons.injEq, Value.slice.injEq, and_true] at hcs
    obtain ⟨rfl, rfl, rfl⟩ := hcs
    have hlm : len ≤ m := by rw [hmm]; split <;> omega
    rw [Tryd.cells38] at hi
    have each : ∀ i, i < len → ∃ x : V, (w.cell? (a.add (i * 3)) = some (.int .i64 x.k) ∧ w.cell? ((a.add (i * 3)).add 1) = some (.int .i64 x.n) ∧ w.cell? ((a.add (i * 3)).add 2) = some (.string x.s)) ∧ x.wf := by
      intro i hil
      obtain ⟨cs', hc, ht⟩ := hi i (by omega)
      obtain ⟨_, hcl, hat⟩ := World.cells?_some hc
      match cs', hcl with
      | [c0, c1, c2], _ =>
        obtain ⟨x, rfl, rfl, rfl, _, hwf⟩ := trod_V ht
        have g0 := hat 0 (by omega)
        have g1 := hat 1 (by omega)
        have g2 := hat 2 (by omega)
        exact ⟨x, ⟨by simpa [Addr.add] using g0, by simpa using g1, by simpa using g2⟩, hwf⟩
    obtain ⟨xs, rfl, hxs⟩ := choose_list len each
    refine ⟨some a, xs, cap, rfl, fun hn => ?_, by omega, hl, fun i hi => (hxs i hi).2⟩
    have hp : 0 < xs.length := List.length_pos_iff.2 hn
    obtain ⟨b, off, spot⟩ := a
    have hspot : spot = none := by simpa [Addr.add] using World.cell?_spot (hxs 0 hp).1.1
    subst hspot
    refine ⟨b, off, rfl, fun i hi => ?_⟩
    obtain ⟨⟨g0, g1, g2⟩, _⟩ := hxs i hi
    rw [Go.WideShapes.add_plain] at g0 g1 g2
    rw [Go.WideShapes.add_plain] at g1 g2
    exact ⟨g0, g1, g2⟩
end
end Go.Proofs.YtbibchinimhamaaDoor
