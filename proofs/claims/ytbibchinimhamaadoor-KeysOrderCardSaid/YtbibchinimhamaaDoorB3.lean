/- bytes.Replace of the byte 0 by 0, 255, where there is one. -/
import Derived.Test.YtbibchinimhamaaDoorB2
namespace Go.Proofs.YtbibchinimhamaaDoor
open Go.RowKit Go.Proofs.YtbibchinimhamaaDoorW.PrintWords
set_option linter.unusedVariables false
set_option linter.unusedSimpArgs false

theorem HasL.drop {w : World} {b : Nat} {l : List UInt8} (h : HasL w b 0 l) (k : Nat) : HasL w b k (l.drop k) := by
  intro j x hj
  rw [List.getElem?_drop] at hj
  have := h (k + j) x hj
  rwa [Nat.zero_add] at this
theorem HasL.below {w w' : World} {b o : Nat} {l : List UInt8} (h : HasL w b o l) (hb : Below w.heap.size w w') : HasL w' b o l := by
  intro j x hj
  have := h j x hj
  exact (hb.cell (World.block_lt_of_cell? w _ this)).trans this
theorem HasL.drew {w : World} {b o : Nat} {l : List UInt8} (h : HasL w b o l) : HasL w.drew b o l := fun j x hj => by
  have := h j x hj
  simpa [World.drew, World.cell?, -World.drew_eq] using this
theorem HasL.pre {w : World} {b o : Nat} {p q : List UInt8} (h : HasL w b o (p ++ q)) : HasL w b o p := by
  intro j x hj
  exact h j x (by rw [List.getElem?_append_left (List.getElem?_eq_some_iff.1 hj).1]; exact hj)
theorem HasL.src {w : World} {b o : Nat} {l : List UInt8} (h : HasL w b o l) : ∀ j v, (nv l)[j]? = some v → w.cell? ((⟨b, o, none⟩ : Addr).add j) = some v := by
  intro j v hj
  rw [nv, List.getElem?_map] at hj
  obtain ⟨x, hx, rfl⟩ := Option.map_eq_some_iff.1 hj
  rw [show (⟨b, o, none⟩ : Addr).add j = ⟨b, o + j, none⟩ by unfold Addr.add; split <;> simp_all]
  exact h j x hx

theorem cut_tail (b n c k : Nat) (h : k < n) (hnc : n ≤ c) (W : World) : (Instr.slice 22 (.slice (some ⟨b, 0, none⟩) n c) (some (.int .i64 (k : Int))) none none).run Tryd.prog W = .ok (.slice (some ⟨b, k, none⟩) (n - k) (c - k)) W := by
  obtain ⟨i0, hi, _, hsz, _⟩ := info_parts info5'
  rw [cut_from (P := Tryd.prog) 22 5 .i64 Tryd.underlying22 hi 1 hsz (some ⟨b, 0, none⟩) n c (k : Int) (by omega) (by omega) W]
  have e : ((k : Nat) : Int).toNat = k := by omega
  rw [e, if_neg (by omega)]
  simp [Addr.add]
  try (intro h0; subst h0; rfl)
theorem cut_end (b n c k : Nat) (h : k ≤ n) (hnc : n ≤ c) (W : World) : ∃ A, (k < n → A = some ⟨b, k, none⟩) ∧ ∀ W, (Instr.slice 22 (.slice (some ⟨b, 0, none⟩) n c) (some (.int .i64 (k : Int))) none none).run Tryd.prog W = .ok (.slice A (n - k) (c - k)) W := by
  obtain ⟨i0, hi, _, hsz, _⟩ := info_parts info5'
  have e : ((k : Nat) : Int).toNat = k := by omega
  refine ⟨(if c = k then some ⟨b, 0, none⟩ else (some (⟨b, 0, none⟩ : Addr)).map (·.add (k * 1))), fun h => ?_, fun W => ?_⟩
  · rw [if_neg (by omega)]
    simp [Addr.add]
    try (intro h0; subst h0; rfl)
  · have := cut_from (P := Tryd.prog) 22 5 .i64 Tryd.underlying22 hi 1 hsz (some ⟨b, 0, none⟩) n c (k : Int) (by omega) (by omega) W
    rw [e] at this
    exact this

theorem made_run (N : Nat) (hN : N ≤ 100000) (W : World) : (Instr.makeSlice 22 (.int .i64 (N : Int)) (.int .i64 (N : Int))).run Tryd.prog W = .ok (.slice (some ⟨W.heap.size, 0, none⟩) N N) (W.alloc (.cells (rowOf [] N).toArray 5)) := by
  obtain ⟨i0, hi, hz, hsz, hby⟩ := info_parts info5'
  have := run_make (P := Tryd.prog) W 22 5 i0 (.int .u8 0) Tryd.underlying22 hi hz .i64 .i64 (N : Int) (N : Int) (by omega) (by omega) (by rw [hby]; omega) (by omega)
  rw [this, hsz, show ((N : Nat) : Int).toNat = N by omega, rowOf_made]
end Go.Proofs.YtbibchinimhamaaDoor
