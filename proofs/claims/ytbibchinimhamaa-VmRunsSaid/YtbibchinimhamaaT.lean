/- How a program reads as data: opened. -/
import Derived.Test.YtbibchinimhamaaO
import Derived.Test.YtbibchinimhamaaG
namespace Go.Proofs.Ytbibchinimhamaa
open Go.ChangeShapes Go.WideShapes Go.ChangeAt Go.RowKit Go.Joins

theorem Try.cells57 : Try.prog.cellsOf 57 = 7 := by kernel_rfl
theorem Try.cells24 : Try.prog.cellsOf 24 = 2 := by kernel_rfl
section
variable {H : Type} {enc : TypeId × Value → H} {w : World} {base : Nat} {spare : Nat → Bool} {held : Bool}
theorem trod_I {fuel : Nat} {c0 c1 c2 c3 c4 c5 c6 : Value} {y : DataW H × List MemPlace} (h : DataW.trod enc Try.prog w base spare held fuel 57 [c0, c1, c2, c3, c4, c5, c6] = some y) :
    ∃ x : I, c0 = .string x.op ∧ c1 = .int .i64 x.a ∧ c2 = .int .i64 x.b ∧ c3 = .int .i64 x.c ∧ c4 = .int .i64 x.v.k ∧ c5 = .int .i64 x.v.n ∧ c6 = .string x.v.s ∧ x.wf := by
  obtain ⟨ys, n, _, hy, hlen, hyl, hf⟩ := DataW.trod_struct Try.underlying57 h
  have k3 : Try.prog.cellsOf 3 = 1 := by kernel_rfl
  have k9 : Try.prog.cellsOf 9 = 1 := by kernel_rfl
  match ys, hyl with
  | [y0, y1, y2, y3, y4], _ =>
    have f0 := hf 0 _ rfl
    have f1 := hf 1 _ rfl
    have f2 := hf 2 _ rfl
    have f3 := hf 3 _ rfl
    have f4 := hf 4 _ rfl
    simp [k3, k9, Try.cells33] at f0 f1 f2 f3 f4
    obtain ⟨op, e0, _, w0⟩ := DataW.trod_string Try.underlying9 f0
    obtain ⟨a, e1, _, w1⟩ := DataW.trod_int Try.underlying3 f1
    obtain ⟨b, e2, _, w2⟩ := DataW.trod_int Try.underlying3 f2
    obtain ⟨c, e3, _, w3⟩ := DataW.trod_int Try.underlying3 f3
    obtain ⟨v, rfl, rfl, rfl, _, wv⟩ := trod_V f4
    simp only [List.cons.injEq, and_true] at e0 e1 e2 e3
    subst e0 e1 e2 e3
    exact ⟨⟨op, a, b, c, v⟩, rfl, rfl, rfl, rfl, rfl, rfl, rfl, w1, w2, w3, w0, wv⟩

/-- A slice of instructions, opened. -/
theorem open_Is {v : Value} {fuel : Nat} {y : DataW H × List MemPlace} (hf : DataW.trod enc Try.prog w base spare held fuel 22 [v] = some y) :
    ∃ (A : Option Addr) (xs : List I) (c : Nat), v = .slice A xs.length c ∧ HasI w A xs ∧ xs.length ≤ maxLen ∧ xs.length ≤ c ∧ ∀ i, i < xs.length → (ei xs i).wf := by
  rcases Go.Deep.open_slice Try.underlying22 hf with ⟨hcs, hx⟩ | ⟨a, len, cap, m, n, D, Pl, hcs, hb, hl, hm, hmm, hx, hi⟩
  · simp only [List.cons.injEq, and_true] at hcs
    subst hcs
    exact ⟨none, [], 0, rfl, fun hn => absurd rfl hn, Nat.zero_le _, Nat.zero_le _, fun i hi => absurd hi (by simp)⟩
  · simp only [List.cons.injEq, and_true] at hcs
    subst hcs
    have hlm : len ≤ m := by rw [hmm]; split <;> omega
    rw [Try.cells57] at hi
    have each : ∀ i, i < len → ∃ x : I, (w.cell? (a.add (i * 7)) = some (.string x.op) ∧ w.cell? ((a.add (i * 7)).add 1) = some (.int .i64 x.a) ∧ w.cell? ((a.add (i * 7)).add 2) = some (.int .i64 x.b) ∧ w.cell? ((a.add (i * 7)).add 3) = some (.int .i64 x.c) ∧
        w.cell? ((a.add (i * 7)).add 4) = some (.int .i64 x.v.k) ∧ w.cell? ((a.add (i * 7)).add 5) = some (.int .i64 x.v.n) ∧ w.cell? ((a.add (i * 7)).add 6) = some (.string x.v.s)) ∧ x.wf := by
      intro i hil
      obtain ⟨cs', hc, ht⟩ := hi i (by omega)
      obtain ⟨_, hcl, hat⟩ := World.cells?_some hc
      match cs', hcl with
      | [c0, c1, c2, c3, c4, c5, c6], _ =>
        obtain ⟨x, rfl, rfl, rfl, rfl, rfl, rfl, rfl, hwf⟩ := trod_I ht
        have g0 := hat 0 (by omega)
        exact ⟨x, ⟨by simpa [Addr.add] using g0, by simpa using hat 1 (by omega), by simpa using hat 2 (by omega), by simpa using hat 3 (by omega), by simpa using hat 4 (by omega), by simpa using hat 5 (by omega), by simpa using hat 6 (by omega)⟩, hwf⟩
    obtain ⟨xs, rfl, hxs⟩ := choose_list len each
    refine ⟨some a, xs, cap, rfl, fun hn => ?_, by omega, hl, fun i hi => (hxs i hi).2⟩
    have hp : 0 < xs.length := List.length_pos_iff.2 hn
    obtain ⟨b, off, spot⟩ := a
    have hspot : spot = none := by simpa [Addr.add] using World.cell?_spot (hxs 0 hp).1.1
    subst hspot
    refine ⟨b, off, rfl, fun i hi => ?_⟩
    obtain ⟨⟨g0, g1, g2, g3, g4, g5, g6⟩, _⟩ := hxs i hi
    rw [Go.WideShapes.add_plain] at g0 g1 g2 g3 g4 g5 g6
    rw [Go.WideShapes.add_plain] at g1 g2 g3 g4 g5 g6
    exact ⟨g0, g1, g2, g3, g4, g5, g6⟩
/-- A program, opened. -/
theorem open_prog {r : Reach} {b0 : Nat} {v : Value} {d : DataW H} {p : List MemPlace} (hv : Value.okWide Try.prog w r b0 24 v) (h : DataW.Trod enc Try.prog w base spare held 24 v d p) :
    ∃ (A : Option Addr) (xs : List I) (c : Nat) (regs : Int), v = .agg #[.slice A xs.length c, .int .i64 regs] ∧ HasI w A xs ∧ xs.length ≤ maxLen ∧ xs.length ≤ c ∧ ∀ i, i < xs.length → (ei xs i).wf := by
  obtain ⟨v0, v1, y0, y1, n, rfl, rfl, rfl, h0, h1⟩ := open_agg2 Try.underlying24 (by kernel_rfl) Try.cells24 hv h
  obtain ⟨regs, e1, _, _⟩ := DataW.trod_int Try.underlying3 h1
  obtain ⟨A, xs, c, rfl, hI, hl, hc, hw⟩ := open_Is h0
  simp only [List.cons.injEq, and_true] at e1
  subst e1
  exact ⟨A, xs, c, regs, rfl, hI, hl, hc, hw⟩
end
end Go.Proofs.Ytbibchinimhamaa
