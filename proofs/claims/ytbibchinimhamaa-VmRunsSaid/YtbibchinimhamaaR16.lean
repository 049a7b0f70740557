/- How rows of values read as data: opened. -/
import Derived.Test.YtbibchinimhamaaU
import Derived.Test.YtbibchinimhamaaG
namespace Go.Proofs.Ytbibchinimhamaa
set_option linter.unusedVariables false
set_option linter.unusedSimpArgs false
open Go.ChangeShapes Go.WideShapes Go.ChangeAt Go.RowKit Go.Joins

theorem Try.cells38 : Try.prog.cellsOf 38 = 1 := by kernel_rfl
section
variable {H : Type} {enc : TypeId × Value → H} {w : World} {base : Nat} {spare : Nat → Bool} {held : Bool}
theorem trod_Vs {v : Value} {fuel : Nat} {y : DataW H × List MemPlace} (hf : DataW.trod enc Try.prog w base spare held fuel 38 [v] = some y) :
    ∃ (A : Option Addr) (xs : List V) (c : Nat), v = .slice A xs.length c ∧ HasV w A xs ∧ xs.length ≤ maxLen ∧ ∀ i, i < xs.length → (el xs i).wf := by
  rcases Go.Deep.open_slice Try.underlying38 hf with ⟨hcs, hx⟩ | ⟨a, len, cap, m, n, D, Pl, hcs, hb, hl, hm, hmm, hx, hi⟩
  · simp only [List.cons.injEq, and_true] at hcs
    subst hcs
    exact ⟨none, [], 0, rfl, fun hn => absurd rfl hn, Nat.zero_le _, fun i hi => absurd hi (by simp)⟩
  · simp only [List.cons.injEq, and_true] at hcs
    subst hcs
    have hlm : len ≤ m := by rw [hmm]; split <;> omega
    rw [Try.cells33] at hi
    have each : ∀ i, i < len → ∃ x : V, (w.cell? (a.add (i * 3)) = some (.int .i64 x.k) ∧ w.cell? ((a.add (i * 3)).add 1) = some (.int .i64 x.n) ∧ w.cell? ((a.add (i * 3)).add 2) = some (.string x.s)) ∧ x.wf := by
      intro i hil
      obtain ⟨cs', hc, ht⟩ := hi i (by omega)
      obtain ⟨_, hcl, hat⟩ := World.cells?_some hc
      match cs', hcl with
      | [c0, c1, c2], _ =>
        obtain ⟨x, rfl, rfl, rfl, _, hwf⟩ := trod_V ht
        have g0 := hat 0 (by omega)
        have g1 := hat 1 (by omega)
        have g2 := hat 2 (by omega)
        exact ⟨x, ⟨by simpa [Addr.add] using g0, by simpa using g1, by simpa using g2⟩, hwf⟩
    obtain ⟨xs, rfl, hxs⟩ := choose_list len each
    refine ⟨some a, xs, cap, rfl, fun hn => ?_, by omega, fun i hi => (hxs i hi).2⟩
    have hp : 0 < xs.length := List.length_pos_iff.2 hn
    obtain ⟨b, off, spot⟩ := a
    have hspot : spot = none := by simpa [Addr.add] using World.cell?_spot (hxs 0 hp).1.1
    subst hspot
    refine ⟨b, off, rfl, fun i hi => ?_⟩
    obtain ⟨⟨g0, g1, g2⟩, _⟩ := hxs i hi
    rw [Go.WideShapes.add_plain] at g0 g1 g2
    rw [Go.WideShapes.add_plain] at g1 g2
    exact ⟨g0, g1, g2⟩
/-- Rows of values, opened. -/
theorem open_rows {r : Reach} {b0 : Nat} {v : Value} {d : DataW H} {p : List MemPlace} (hv : Value.okWide Try.prog w r b0 49 v) (h : DataW.Trod enc Try.prog w base spare held 49 v d p) :
    ∃ (A : Option Addr) (R : List (List V)) (c : Nat), v = .slice A R.length c ∧ HasR w A R ∧ R.length ≤ maxLen ∧ R.length ≤ c ∧ wfR R := by
  obtain ⟨a0, len, cap, rfl⟩ := okWide_slice Try.underlying49 hv
  obtain ⟨fuel, hf⟩ := h
  rcases Go.Deep.open_slice Try.underlying49 hf with ⟨hcs, hx⟩ | ⟨a, len', cap', m, n, D, Pl, hcs, hb, hl, hm, hmm, hx, hi⟩
  · simp only [Value.cells, List.cons.injEq, Value.slice.injEq, and_true] at hcs
    obtain ⟨rfl, rfl, rfl⟩ := hcs
    exact ⟨none, [], 0, rfl, fun hn => absurd rfl hn, Nat.zero_le _, Nat.zero_le _, fun i hi => absurd hi (by simp)⟩
  · simp only [Value.cells, List.cons.injEq, Value.slice.injEq, and_true] at hcs
    obtain ⟨rfl, rfl, rfl⟩ := hcs
    have hlm : len ≤ m := by rw [hmm]; split <;> omega
    rw [Try.cells38] at hi
    have each : ∀ i, i < len → ∃ x : List V, (∃ (A' : Option Addr) (c' : Nat), w.cell? (a.add (i * 1)) = some (.slice A' x.length c') ∧ HasV w A' x ∧ x.length ≤ maxLen) ∧ ∀ j, j < x.length → (el x j).wf := by
      intro i hil
      obtain ⟨cs', hc, ht⟩ := hi i (by omega)
      obtain ⟨_, hcl, hat⟩ := World.cells?_some hc
      match cs', hcl with
      | [c0], _ =>
        obtain ⟨A', x, c', rfl, hV, hxl, hwf⟩ := trod_Vs ht
        have g0 := hat 0 (by omega)
        exact ⟨x, ⟨A', c', by simpa [Addr.add] using g0, hV, hxl⟩, hwf⟩
    have choose : ∀ n : Nat, n ≤ len → ∃ R : List (List V), R.length = n ∧ ∀ i, i < n → (∃ (A' : Option Addr) (c' : Nat), w.cell? (a.add (i * 1)) = some (.slice A' (er R i).length c') ∧ HasV w A' (er R i) ∧ (er R i).length ≤ maxLen) ∧ ∀ j, j < (er R i).length → (el (er R i) j).wf := by
      intro n
      induction n with
      | zero => intro _; exact ⟨[], rfl, fun i hi => absurd hi (by omega)⟩
      | succ n ih =>
        intro hn
        obtain ⟨R, hlen, hR⟩ := ih (by omega)
        obtain ⟨x, hx⟩ := each n (by omega)
        refine ⟨R ++ [x], by simp [hlen], fun i hi => ?_⟩
        by_cases h : i = n
        · subst h
          have e : er (R ++ [x]) i = x := by unfold er; subst hlen; simp
          rw [e]; exact hx
        · have e : er (R ++ [x]) i = er R i := by unfold er; simp [List.getD_eq_getElem?_getD, List.getElem?_append_left (show i < R.length by omega)]
          rw [e]; exact hR i (by omega)
    obtain ⟨R, rfl, hxs⟩ := choose len (Nat.le_refl _)
    refine ⟨some a, R, cap, rfl, fun hn => ?_, by omega, hl, fun i hi => (hxs i hi).2⟩
    have hp : 0 < R.length := List.length_pos_iff.2 hn
    obtain ⟨b, off, spot⟩ := a
    obtain ⟨⟨_, _, q0, _⟩, _⟩ := hxs 0 hp
    have hspot : spot = none := by simpa [Addr.add] using World.cell?_spot q0
    subst hspot
    refine ⟨b, off, rfl, fun i hi => ?_⟩
    obtain ⟨⟨A', c', g0, g1, g2⟩, _⟩ := hxs i hi
    rw [Go.WideShapes.add_plain, Nat.mul_one] at g0
    exact ⟨A', c', g0, g1, g2⟩
end
end Go.Proofs.Ytbibchinimhamaa
