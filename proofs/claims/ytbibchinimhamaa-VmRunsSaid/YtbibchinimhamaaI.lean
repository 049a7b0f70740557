/- Three-valued logic: contracts of both packages; the walk of ValueLogic. -/
import Derived.Test.YtbibchinimhamaaF
namespace Go.Proofs.Ytbibchinimhamaa
open Go.RowKit

def andO (a b : Int) : Int := if a = 0 ∨ b = 0 then 0 else if a = 1 ∧ b = 1 then 1 else 2
def orO (a b : Int) : Int := if a = 1 ∨ b = 1 then 1 else if a = 0 ∧ b = 0 then 0 else 2
def notO (a : Int) : Int := if a = 0 then 1 else if a = 1 then 0 else 2

set_option maxHeartbeats 400000 in
theorem and23 (a b : Int) (w : World) : Calls Try.prog 23 #[.int .i64 a, .int .i64 b] w fun e w' => e = .returned (.int .i64 (andO a b)) ∧ w = w' := by
  go_enter Try.func23, Try.ntmps23
  go_wp2
  all_goals go_ret
  all_goals refine ⟨ret_int ?_, rfl⟩
  all_goals unfold andO
  all_goals simp_all
set_option maxHeartbeats 400000 in
theorem and25 (a b : Int) (w : World) : Calls Try.prog 25 #[.int .i64 a, .int .i64 b] w fun e w' => e = .returned (.int .i64 (andO a b)) ∧ w = w' := by
  go_enter Try.func25, Try.ntmps25
  go_wp2
  all_goals go_ret
  all_goals refine ⟨ret_int ?_, rfl⟩
  all_goals unfold andO
  all_goals simp_all
set_option maxHeartbeats 400000 in
theorem or26 (a b : Int) (w : World) : Calls Try.prog 26 #[.int .i64 a, .int .i64 b] w fun e w' => e = .returned (.int .i64 (orO a b)) ∧ w = w' := by
  go_enter Try.func26, Try.ntmps26
  go_wp2
  all_goals go_ret
  all_goals refine ⟨ret_int ?_, rfl⟩
  all_goals unfold orO
  all_goals simp_all
set_option maxHeartbeats 400000 in
theorem not27 (a : Int) (w : World) : Calls Try.prog 27 #[.int .i64 a] w fun e w' => e = .returned (.int .i64 (notO a)) ∧ w = w' := by
  go_enter Try.func27, Try.ntmps27
  go_wp2
  all_goals go_ret
  all_goals refine ⟨ret_int ?_, rfl⟩
  all_goals unfold notO
  all_goals simp_all
set_option maxHeartbeats 400000 in
theorem not28 (a : Int) (w : World) : Calls Try.prog 28 #[.int .i64 a] w fun e w' => e = .returned (.int .i64 (notO a)) ∧ w = w' := by
  go_enter Try.func28, Try.ntmps28
  go_wp2
  all_goals go_ret
  all_goals refine ⟨ret_int ?_, rfl⟩
  all_goals unfold notO
  all_goals simp_all
  all_goals (unfold wrap64; omega)

theorem orO_eq (a b : Int) : notO (andO (notO a) (notO b)) = orO a b := by
  unfold notO andO orO
  by_cases a0 : a = 0 <;> by_cases a1 : a = 1 <;> by_cases b0 : b = 0 <;> by_cases b1 : b = 1 <;> simp_all
theorem deMorgan1 (a b : Int) : notO (andO a b) = orO (notO a) (notO b) := by
  unfold notO andO orO
  by_cases a0 : a = 0 <;> by_cases a1 : a = 1 <;> by_cases b0 : b = 0 <;> by_cases b1 : b = 1 <;> simp_all
theorem deMorgan2 (a b : Int) : notO (orO a b) = andO (notO a) (notO b) := by
  unfold notO andO orO
  by_cases a0 : a = 0 <;> by_cases a1 : a = 1 <;> by_cases b0 : b = 0 <;> by_cases b1 : b = 1 <;> simp_all
theorem distr (a b c : Int) : andO a (orO b c) = orO (andO a b) (andO a c) := by
  unfold andO orO
  by_cases a0 : a = 0 <;> by_cases a1 : a = 1 <;> by_cases b0 : b = 0 <;> by_cases b1 : b = 1 <;> by_cases c0 : c = 0 <;> by_cases c1 : c = 1 <;> simp_all
theorem andO_comm (a b : Int) : andO a b = andO b a := by
  unfold andO
  simp only [or_comm, and_comm]

set_option maxHeartbeats 400000 in
theorem or24 (a b : Int) (w : World) : Calls Try.prog 24 #[.int .i64 a, .int .i64 b] w fun e w' => e = .returned (.int .i64 (orO a b)) ∧ w = w' := by
  go_enter Try.func24, Try.ntmps24
  go_wp2_with (first | (go_at_call 27; refine (not27 _ _).mono ?_; rintro e w' ⟨rfl, rfl⟩) | (go_at_call 23; refine (and23 _ _ _).mono ?_; rintro e w' ⟨rfl, rfl⟩))
  go_ret
  exact ⟨ret_int (orO_eq a b), rfl⟩

set_option maxHeartbeats 1000000 in
theorem law6 (a b c : Int) (w : World) : Calls Try.prog 6 #[.int .i64 a, .int .i64 b, .int .i64 c] w fun e w' => e = .returned (.bool true) ∧ Below w.heap.size w w' := by
  have m1 : (notO (andO a b) == orO (notO a) (notO b)) = true := beq_iff_eq.2 (deMorgan1 a b)
  have m2 : (notO (orO a b) == andO (notO a) (notO b)) = true := beq_iff_eq.2 (deMorgan2 a b)
  have m3 : (andO a (orO b c) == orO (andO a b) (andO a c)) = true := beq_iff_eq.2 (distr a b c)
  have m4 : (andO a b == andO b a) = true := beq_iff_eq.2 (andO_comm a b)
  go_enter Try.func6, Try.ntmps6
  go_wp2_with (first | (go_at_call 14; refine (awake14 _).mono ?_; rintro e w1 ⟨rfl, hb1⟩; have HB := Lib.hid hb1; clear hb1) | (go_at_call 27; refine (not27 _ _).mono ?_; rintro e w' ⟨rfl, rfl⟩) | (go_at_call 28; refine (not28 _ _).mono ?_; rintro e w' ⟨rfl, rfl⟩) | (go_at_call 23; refine (and23 _ _ _).mono ?_; rintro e w' ⟨rfl, rfl⟩) | (go_at_call 25; refine (and25 _ _ _).mono ?_; rintro e w' ⟨rfl, rfl⟩) | (go_at_call 24; refine (or24 _ _ _).mono ?_; rintro e w' ⟨rfl, rfl⟩) | (go_at_call 26; refine (or26 _ _ _).mono ?_; rintro e w' ⟨rfl, rfl⟩))
  go_ret
  exact ⟨rfl, HB.out⟩
end Go.Proofs.Ytbibchinimhamaa
