/- Rows: slices of values in memory; both orders of rows. -/
import Derived.Test.YtbibchinimhamaaDoorOA
namespace Go.Proofs.YtbibchinimhamaaDoor
open Go.RowKit
set_option linter.unusedVariables false
set_option linter.unusedSimpArgs false

instance : Inhabited V := ⟨⟨0, 0, ByteArray.empty⟩⟩
def el (xs : List V) (i : Nat) : V := xs.getD i default
def VAt (w : World) (b o : Nat) (v : V) : Prop :=
  w.cell? ⟨b, o, none⟩ = some (.int .i64 v.k) ∧ w.cell? ⟨b, o + 1, none⟩ = some (.int .i64 v.n) ∧ w.cell? ⟨b, o + 2, none⟩ = some (.string v.s)
/-- The slice at A holds the values xs. -/
def HasV (w : World) (A : Option Addr) (xs : List V) : Prop :=
  xs ≠ [] → ∃ b o, A = some ⟨b, o, none⟩ ∧ ∀ i, i < xs.length → VAt w b (o + i * 3) (el xs i)

theorem lt_of_cell {w : World} {b o : Nat} {v : Value} (h : w.cell? ⟨b, o, none⟩ = some v) : b < w.heap.size := World.block_lt_of_cell? w _ h
theorem VAt.below {w w' : World} {b o : Nat} {v : V} (h : VAt w b o v) (hb : Below w.heap.size w w') : VAt w' b o v := by
  have hlt := lt_of_cell h.1
  exact ⟨(hb.cell (p := ⟨b, _, none⟩) hlt).trans h.1, (hb.cell (p := ⟨b, _, none⟩) hlt).trans h.2.1, (hb.cell (p := ⟨b, _, none⟩) hlt).trans h.2.2⟩
theorem VAt.alloc {w : World} {b o : Nat} {v : V} (h : VAt w b o v) (ob : Obj) : VAt (w.alloc ob) b o v := h.below (by go_grown)
theorem HasV.below {w w' : World} {A : Option Addr} {xs : List V} (h : HasV w A xs) (hb : Below w.heap.size w w') : HasV w' A xs := fun hn => by
  obtain ⟨b, o, e, hc⟩ := h hn
  exact ⟨b, o, e, fun i hi => (hc i hi).below hb⟩

def rowsO : List V → List V → Int
  | [], [] => 0
  | [], _ :: _ => -1
  | _ :: _, [] => 1
  | a :: x, b :: y => if ord a b = 0 then rowsO x y else ord a b

theorem rowsO_drop {x y : List V} {k : Nat} (hx : k < x.length) (hy : k < y.length) :
    rowsO (x.drop k) (y.drop k) = if ord (el x k) (el y k) = 0 then rowsO (x.drop (k + 1)) (y.drop (k + 1)) else ord (el x k) (el y k) := by
  rw [List.drop_eq_getElem_cons hx, List.drop_eq_getElem_cons hy, rowsO]
  simp [el, hx, hy]
theorem rowsO_x {x y : List V} {k : Nat} (hx : x.length ≤ k) (hy : k < y.length) : rowsO (x.drop k) (y.drop k) = -1 := by
  rw [List.drop_eq_nil_of_le hx, List.drop_eq_getElem_cons hy, rowsO]
theorem rowsO_y {x y : List V} {k : Nat} (hx : k < x.length) (hy : y.length ≤ k) : rowsO (x.drop k) (y.drop k) = 1 := by
  rw [List.drop_eq_nil_of_le hy, List.drop_eq_getElem_cons hx, rowsO]
theorem rowsO_e {x y : List V} {k : Nat} (hx : x.length ≤ k) (hy : y.length ≤ k) : rowsO (x.drop k) (y.drop k) = 0 := by
  rw [List.drop_eq_nil_of_le hx, List.drop_eq_nil_of_le hy, rowsO]

def V.wf (v : V) : Prop := (Lit.int .i64 v.k).wf = true ∧ (Lit.int .i64 v.n).wf = true ∧ v.s.size ≤ maxLen
end Go.Proofs.YtbibchinimhamaaDoor
