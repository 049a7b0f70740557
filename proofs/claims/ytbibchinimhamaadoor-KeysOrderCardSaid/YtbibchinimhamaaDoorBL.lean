/- Bytes' order: what Go's '<' of two strings says, as the order of lists. -/
import Derived.Test.YtbibchinimhamaaDoorProg
import Derived.WalkKit
namespace Go.Proofs.YtbibchinimhamaaDoor
theorem bytesLess_lt : ∀ x y : List UInt8, Op.bytesLess x y = decide (x < y)
  | [], [] => by simp [Op.bytesLess]
  | [], b :: y => by simp [Op.bytesLess]
  | a :: x, [] => by simp [Op.bytesLess]
  | a :: x, b :: y => by
    rw [Op.bytesLess, bytesLess_lt x y]
    rw [Bool.eq_iff_iff]
    simp [List.cons_lt_cons_iff]
theorem not_bytesLess_both (x y : List UInt8) (h : Op.bytesLess x y = true) : Op.bytesLess y x = false := by
  rw [bytesLess_lt] at *
  simp only [decide_eq_true_eq, decide_eq_false_iff_not] at *
  exact fun h2 => absurd (List.lt_trans h h2) (List.lt_irrefl _)
theorem bytesLess_irrefl (x : List UInt8) : Op.bytesLess x x = false := by
  rw [bytesLess_lt]; simp [List.lt_irrefl]
theorem bytesLess_or (x y : List UInt8) : Op.bytesLess x y = true ∨ x = y ∨ Op.bytesLess y x = true := by
  rw [bytesLess_lt, bytesLess_lt]
  simp only [decide_eq_true_eq]
  rcases Classical.em (x < y) with h | h
  · exact .inl h
  · rcases Classical.em (y < x) with h2 | h2
    · exact .inr (.inr h2)
    · exact .inr (.inl (List.le_antisymm (List.not_lt.1 h2) (List.not_lt.1 h)))
end Go.Proofs.YtbibchinimhamaaDoor
