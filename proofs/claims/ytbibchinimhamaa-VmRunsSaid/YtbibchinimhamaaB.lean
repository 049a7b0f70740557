/- Formed values; the reference's order; contracts. -/
import Derived.Test.YtbibchinimhamaaA
namespace Go.Proofs.Ytbibchinimhamaa
open Go.RowKit

def fmd (v : V) : Bool := decide ((v.k = 0 ∧ v.n = 0 ∧ v.s.toList = []) ∨ (v.k = 1 ∧ v.s.toList = []) ∨ (v.k = 2 ∧ v.n = 0 ∧ v.s.size ≤ 100))

set_option maxHeartbeats 400000 in
theorem formed19 (a : V) (w : World) (hs : a.s.size ≤ maxLen) : Calls Try.prog 19 #[a.val] w fun e w' => e = .returned (.bool (fmd a)) ∧ Below w.heap.size w w' := by
  obtain ⟨ak, an, ax⟩ := a
  go_enter Try.func19, Try.ntmps19
  go_wp2
  all_goals go_ret
  all_goals refine ⟨ret_bool ?_, by go_grown⟩
  all_goals simp_all [fmd]
  all_goals first | omega | (cases ax.toList <;> simp)

set_option maxHeartbeats 400000 in
theorem formed20 (a : V) (w : World) (hs : a.s.size ≤ maxLen) : Calls Try.prog 20 #[a.val] w fun e w' => e = .returned (.bool (fmd a)) ∧ Below w.heap.size w w' := by
  obtain ⟨ak, an, ax⟩ := a
  go_enter Try.func20, Try.ntmps20
  go_wp2
  all_goals go_ret
  all_goals refine ⟨ret_bool ?_, by go_grown⟩
  all_goals simp_all [fmd]
  all_goals first | omega | (cases ax.toList <;> simp)

theorem cmpS_lt {a b : ByteArray} (h : Op.bytesLess a.toList b.toList = true) : cmpS a b = -1 := by unfold cmpS; rw [if_pos h]
theorem cmpS_gt {a b : ByteArray} (h : Op.bytesLess b.toList a.toList = true) : cmpS a b = 1 := by
  unfold cmpS; rw [if_neg (by rw [not_bytesLess_both _ _ h]; simp), if_pos h]
theorem cmpS_eq {a b : ByteArray} (h : a.toList = b.toList) : cmpS a b = 0 := by
  unfold cmpS; rw [h, bytesLess_irrefl]; simp
theorem toList_inj {a b : ByteArray} (h : a.toList = b.toList) : a = b := by
  have h2 : a.data.toList = b.data.toList := by simpa [ByteArray.toList_eq] using h
  cases a; cases b; simp_all [Array.toList_inj]

set_option maxHeartbeats 400000 in
theorem ints43 (a b : Int) (w : World) : Calls Try.prog 43 #[.int .i64 a, .int .i64 b] w fun e w' => e = .returned (.int .i64 (cmpI a b)) ∧ w = w' := by
  go_enter Try.func43, Try.ntmps43
  go_wp2
  all_goals go_ret
  · exact ⟨ret_int (cmpI_lt ‹_›).symm, rfl⟩
  · exact ⟨ret_int (cmpI_gt ‹_›).symm, rfl⟩
  · obtain rfl : a = b := by omega
    exact ⟨ret_int (cmpI_eq a).symm, rfl⟩

set_option maxHeartbeats 400000 in
theorem texts44 (a b : ByteArray) (w : World) : Calls Try.prog 44 #[.string a, .string b] w fun e w' => e = .returned (.int .i64 (cmpS a b)) ∧ w = w' := by
  go_enter Try.func44, Try.ntmps44
  go_wp2
  all_goals go_ret
  · exact ⟨ret_int (cmpS_lt ‹_›).symm, rfl⟩
  · refine ⟨ret_int (cmpS_gt ?_).symm, rfl⟩
    have h : Op.bytesLess a.toList b.toList = false := by assumption
    have h2 : (!a.toList == b.toList) = true := by assumption
    rcases bytesLess_or a.toList b.toList with h4 | h4 | h4
    · rw [h] at h4; cases h4
    · rw [h4] at h2; simp at h2
    · exact h4
  · refine ⟨ret_int (cmpS_eq ?_).symm, rfl⟩
    have h2 : (!a.toList == b.toList) = false := by assumption
    simpa using h2

theorem ord_k {a b : V} (h : a.k ≠ b.k) : ord a b = cmpI a.k b.k := by
  unfold ord
  refine or3_a _ _ ?_
  unfold cmpI; split
  · omega
  · split <;> omega
theorem ord_n {a b : V} (h : a.k = b.k) (h2 : a.n ≠ b.n) : ord a b = cmpI a.n b.n := by
  unfold ord
  rw [h, cmpI_eq]
  refine or3_b _ ?_
  unfold cmpI; split
  · omega
  · split <;> omega
theorem ord_s {a b : V} (h : a.k = b.k) (h2 : a.n = b.n) : ord a b = cmpS a.s b.s := by
  unfold ord
  rw [h, h2, cmpI_eq, cmpI_eq]
  rfl

set_option maxHeartbeats 400000 in
theorem order21 (a b : V) (w : World) : Calls Try.prog 21 #[a.val, b.val] w fun e w' => e = .returned (.int .i64 (ord a b)) ∧ Below w.heap.size w w' := by
  obtain ⟨ak, an, ax⟩ := a
  obtain ⟨bk, bn, bx⟩ := b
  go_enter Try.func21, Try.ntmps21
  go_wp2_with (first | (go_at_call 43; refine (ints43 _ _ _).mono ?_; rintro e w' ⟨rfl, rfl⟩) | (go_at_call 44; refine (texts44 _ _ _).mono ?_; rintro e w' ⟨rfl, rfl⟩))
  all_goals go_ret
  · refine ⟨ret_int (ord_k (a := ⟨ak, an, ax⟩) (b := ⟨bk, bn, bx⟩) ?_).symm, by go_grown⟩
    simpa using ‹(ak != bk) = true›
  · refine ⟨ret_int (ord_n (a := ⟨ak, an, ax⟩) (b := ⟨bk, bn, bx⟩) ?_ ?_).symm, by go_grown⟩
    · simpa using ‹(ak != bk) = false›
    · simpa using ‹(an != bn) = true›
  · refine ⟨ret_int (ord_s (a := ⟨ak, an, ax⟩) (b := ⟨bk, bn, bx⟩) ?_ ?_).symm, by go_grown⟩
    · simpa using ‹(ak != bk) = false›
    · simpa using ‹(an != bn) = false›

end Go.Proofs.Ytbibchinimhamaa
