/- The registers of vm.Run in memory. -/
import Derived.Test.YtbibchinimhamaaV
namespace Go.Proofs.Ytbibchinimhamaa
open Go.RowKit

theorem heap_set {w : World} {g i : Nat} {arr : Array Value} {t : TypeId} {fr : Nat × Nat} (u : Value) (h : w.heap[g]? = some (.cells arr t fr)) :
    (w.setCell ⟨g, i, none⟩ u).heap[g]? = some (.cells (arr.setIfInBounds i u) t fr) := by
  simp [World.setCell, Array.getElem?_modify, h]
theorem arr_set {arr : Array Value} {i j : Nat} {u v : Value} (h : arr[j]? = some v) : (arr.setIfInBounds i u)[j]? = if i = j then some u else some v := by
  rw [Array.getElem?_setIfInBounds]
  have hj : j < arr.size := (Array.getElem?_eq_some_iff.1 h).1
  by_cases e : i = j
  · subst e; simp [hj]
  · simp [e, h]

def RegB (w : World) (g n : Nat) (fv : Nat → V) (ft : Nat → Int) : Prop :=
  ∃ arr : Array Value, w.heap[g]? = some (.cells arr 68 (0, 0)) ∧
    ∀ i, i < n → arr[i * 4]? = some (.int .i64 (fv i).k) ∧ arr[i * 4 + 1]? = some (.int .i64 (fv i).n) ∧ arr[i * 4 + 2]? = some (.string (fv i).s) ∧ arr[i * 4 + 3]? = some (.int .i64 (ft i))
theorem heap_lt {w : World} {g : Nat} {o : Obj} (h : w.heap[g]? = some o) : g < w.heap.size := (Array.getElem?_eq_some_iff.1 h).1
section
variable {w w' : World} {g n : Nat} {fv : Nat → V} {ft : Nat → Int}
theorem RegB.lt (h : RegB w g n fv ft) : g < w.heap.size := by
  obtain ⟨arr, h1, _⟩ := h
  exact heap_lt h1
theorem RegB.below (h : RegB w g n fv ft) (hb : Below w.heap.size w w') : RegB w' g n fv ft := by
  obtain ⟨arr, h1, h2⟩ := h
  exact ⟨arr, (hb.block g (heap_lt h1)).trans h1, h2⟩
theorem RegB.far (h : RegB w g n fv ft) {p : Addr} (hp : g ≠ p.block) (u : Value) : RegB (w.setCell p u) g n fv ft := by
  obtain ⟨arr, h1, h2⟩ := h
  exact ⟨arr, (Below.heap_setCell w p u g hp).trans h1, h2⟩
theorem RegB.cells (h : RegB w g n fv ft) {i : Nat} (hi : i < n) :
    w.cell? ⟨g, i * 4, none⟩ = some (.int .i64 (fv i).k) ∧ w.cell? ⟨g, i * 4 + 1, none⟩ = some (.int .i64 (fv i).n) ∧ w.cell? ⟨g, i * 4 + 2, none⟩ = some (.string (fv i).s) ∧ w.cell? ⟨g, i * 4 + 3, none⟩ = some (.int .i64 (ft i)) := by
  obtain ⟨arr, h1, h2⟩ := h
  obtain ⟨a0, a1, a2, a3⟩ := h2 i hi
  exact ⟨(cell_of_row w g _ arr 68 (0, 0) h1).trans a0, (cell_of_row w g _ arr 68 (0, 0) h1).trans a1, (cell_of_row w g _ arr 68 (0, 0) h1).trans a2, (cell_of_row w g _ arr 68 (0, 0) h1).trans a3⟩
theorem RegB.free (h : RegB w g n fv ft) (j : Nat) : w.frozen? ⟨g, j, none⟩ = false := by
  obtain ⟨arr, h1, h2⟩ := h
  simp [World.frozen?, h1]
theorem RegB.setV (h : RegB w g n fv ft) (A : Nat) (v : V) :
    RegB (((w.setCell ⟨g, A * 4, none⟩ (.int .i64 v.k)).setCell ⟨g, A * 4 + 1, none⟩ (.int .i64 v.n)).setCell ⟨g, A * 4 + 2, none⟩ (.string v.s)) g n (upd fv A v) ft := by
  obtain ⟨arr, h1, h2⟩ := h
  refine ⟨_, heap_set _ (heap_set _ (heap_set _ h1)), fun i hi => ?_⟩
  obtain ⟨a0, a1, a2, a3⟩ := h2 i hi
  by_cases e : i = A
  · subst e
    rw [upd_same]
    refine ⟨?_, ?_, ?_, ?_⟩
    · rw [arr_set (v := .int .i64 v.k), if_neg (by omega)]
      rw [arr_set (v := .int .i64 v.k), if_neg (by omega)]
      rw [arr_set a0, if_pos rfl]
    · rw [arr_set (v := .int .i64 v.n), if_neg (by omega)]
      rw [arr_set (v := .int .i64 (fv i).n), if_pos rfl]
      rw [arr_set a1, if_neg (by omega)]
    · rw [arr_set (v := .string (fv i).s), if_pos rfl]
      rw [arr_set (v := .string (fv i).s), if_neg (by omega)]
      rw [arr_set a2, if_neg (by omega)]
    · rw [arr_set (v := .int .i64 (ft i)), if_neg (by omega)]
      rw [arr_set (v := .int .i64 (ft i)), if_neg (by omega)]
      rw [arr_set a3, if_neg (by omega)]
  · rw [upd_ne _ _ e]
    refine ⟨?_, ?_, ?_, ?_⟩
    · rw [arr_set (v := .int .i64 (fv i).k), if_neg (by omega)]
      rw [arr_set (v := .int .i64 (fv i).k), if_neg (by omega)]
      rw [arr_set a0, if_neg (by omega)]
    · rw [arr_set (v := .int .i64 (fv i).n), if_neg (by omega)]
      rw [arr_set (v := .int .i64 (fv i).n), if_neg (by omega)]
      rw [arr_set a1, if_neg (by omega)]
    · rw [arr_set (v := .string (fv i).s), if_neg (by omega)]
      rw [arr_set (v := .string (fv i).s), if_neg (by omega)]
      rw [arr_set a2, if_neg (by omega)]
    · rw [arr_set (v := .int .i64 (ft i)), if_neg (by omega)]
      rw [arr_set (v := .int .i64 (ft i)), if_neg (by omega)]
      rw [arr_set a3, if_neg (by omega)]
theorem RegB.setT (h : RegB w g n fv ft) (A : Nat) (t : Int) : RegB (w.setCell ⟨g, A * 4 + 3, none⟩ (.int .i64 t)) g n fv (upd ft A t) := by
  obtain ⟨arr, h1, h2⟩ := h
  refine ⟨_, heap_set _ h1, fun i hi => ?_⟩
  obtain ⟨a0, a1, a2, a3⟩ := h2 i hi
  refine ⟨?_, ?_, ?_, ?_⟩
  · rw [arr_set a0, if_neg (by omega)]
  · rw [arr_set a1, if_neg (by omega)]
  · rw [arr_set a2, if_neg (by omega)]
  · by_cases e : i = A
    · subst e; rw [upd_same, arr_set a3, if_pos rfl]
    · rw [upd_ne _ _ e, arr_set a3, if_neg (by omega)]
theorem RegB.made (w : World) (n : Nat) : RegB (w.alloc (.cells (madeCells #[.int .i64 0, .int .i64 0, .string ⟨#[]⟩, .int .i64 0] (n * 4)) 68)) w.heap.size n (fun _ => zV) (fun _ => 0) := by
  refine ⟨_, heap_alloc_new w _, fun i hi => ?_⟩
  have hm : ∀ j, j < 4 → (madeCells #[.int .i64 0, .int .i64 0, .string ⟨#[]⟩, .int .i64 0] (n * 4))[i * 4 + j]? = (#[.int .i64 0, .int .i64 0, .string ⟨#[]⟩, .int .i64 0] : Array Value)[j]? := by
    intro j hj
    have h1 : i * 4 + j < n * 4 := by omega
    have h2 : (i * 4 + j) % 4 = j := by omega
    simp [madeCells, h1, h2]
    rcases j with _ | _ | _ | _ | j
    · rfl
    · rfl
    · rfl
    · rfl
    · omega
  exact ⟨hm 0 (by omega), hm 1 (by omega), hm 2 (by omega), hm 3 (by omega)⟩
end
end Go.Proofs.Ytbibchinimhamaa
