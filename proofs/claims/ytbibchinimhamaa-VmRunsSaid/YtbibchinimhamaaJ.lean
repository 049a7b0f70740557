/- Arithmetic of values: sums, differences, products that fit or do not. -/
import Derived.Test.YtbibchinimhamaaF
namespace Go.Proofs.Ytbibchinimhamaa
open Go.RowKit

theorem ret_nb {a b : Int} {s t : Bool} (h : a = b) (h2 : s = t) : Ending.returned (.tuple #[.int .i64 a, .bool s]) = .returned (.tuple #[.int .i64 b, .bool t]) := by rw [h, h2]
theorem below_drewN {B : Nat} {a w : World} (h : Below B a w) (n : Nat) : Below B a (w.drewN n) := ⟨h.os, h.tape, h.output, h.size, h.block⟩

def I64 (z : Int) : Prop := -9223372036854775808 ≤ z ∧ z ≤ 9223372036854775807
instance (z : Int) : Decidable (I64 z) := by unfold I64; infer_instance
def fits (z : Int) : Bool := decide (I64 z)
theorem wf_I64 {z : Int} (h : (Lit.int .i64 z).wf = true) : I64 z := by
  simp [Lit.wf, IntKind.min, IntKind.max, IntKind.signed, IntKind.bits] at h
  exact ⟨by omega, by omega⟩
theorem wrap_fits {z : Int} (h : I64 z) : wrap64 z = z := by unfold I64 at h; unfold wrap64; omega
theorem w0 : wrap64 0 = 0 := wrap_fits (by unfold I64; omega)
theorem I64_wrap (z : Int) : I64 (wrap64 z) := by unfold I64 wrap64; omega
theorem wrap_eq {z : Int} : wrap64 z = z ↔ I64 z := ⟨fun h => by rw [← h]; exact I64_wrap z, wrap_fits⟩

theorem tdiv_bd (p b : Int) : (p.tdiv b).natAbs ≤ p.natAbs := by
  rw [Int.natAbs_tdiv]; exact Nat.div_le_self _ _
theorem tdiv_bd2 {p b : Int} (h1 : ¬ b = 0) (h2 : ¬ b = -1) (h3 : ¬ b = 1) : (p.tdiv b).natAbs * 2 ≤ p.natAbs := by
  rw [Int.natAbs_tdiv]
  have : 2 ≤ b.natAbs := by omega
  calc p.natAbs / b.natAbs * 2 ≤ p.natAbs / 2 * 2 := Nat.mul_le_mul_right _ (Nat.div_le_div_left this (by omega))
    _ ≤ p.natAbs := Nat.div_mul_le_self _ _
theorem tdiv_I64 {p b : Int} (hp : I64 p) (h1 : ¬ b = 0) (h2 : ¬ b = -1) : I64 (p.tdiv b) := by
  unfold I64 at *
  by_cases h3 : b = 1
  · subst h3; rw [Int.tdiv_one]; exact hp
  · have := tdiv_bd2 (p := p) h1 h2 h3
    omega
/-- The quotient of the product that wrapped round is the first factor just where it did not. -/
theorem quo_fits {a b : Int} (hb : I64 b) (h1 : ¬ b = 0) (h2 : ¬ b = -1) : (wrap64 ((wrap64 (a * b)).tdiv b) == a) = fits (a * b) := by
  rw [wrap_fits (tdiv_I64 (I64_wrap _) h1 h2)]
  unfold fits
  rw [Bool.eq_iff_iff]
  simp only [beq_iff_eq, decide_eq_true_eq]
  constructor
  · intro h
    have e := Int.mul_tdiv_add_tmod (wrap64 (a * b)) b
    rw [h] at e
    have hr : ((wrap64 (a * b)).tmod b).natAbs < b.natAbs := by
      rw [Int.natAbs_tmod]; exact Nat.mod_lt _ (by omega)
    rw [Int.mul_comm b a] at e
    generalize a * b = z at *
    generalize (wrap64 z).tmod b = r at *
    unfold I64 at hb
    unfold wrap64 at e
    unfold I64
    omega
  · intro h
    rw [wrap_fits h]
    exact Int.mul_tdiv_cancel _ h1

theorem quo_any {a b : Int} (ha : I64 a) (hb : I64 b) (h1 : ¬ b = 0) (hA : ¬ (a = -9223372036854775808 ∧ b = -1)) : (wrap64 ((wrap64 (a * b)).tdiv b) == a) = fits (a * b) := by
  by_cases h2 : b = -1
  · subst h2
    have e1 : a * -1 = -a := by omega
    have e2 : I64 (-a) := by unfold I64 at *; omega
    rw [e1, wrap_fits e2, Int.tdiv_neg, Int.tdiv_one, Int.neg_neg, wrap_fits ha]
    unfold fits
    simp [e2]
  · exact quo_fits hb h1 h2

set_option maxHeartbeats 400000 in
theorem product46 (a b : Int) (w : World) (ha : I64 a) (hb : I64 b) : Calls Try.prog 46 #[.int .i64 a, .int .i64 b] w fun e w' => e = .returned (.tuple #[.int .i64 (wrap64 (a * b)), .bool (fits (a * b))]) ∧ Below w.heap.size w w' := by
  by_cases h0 : a = 0
  · subst h0
    go_enter Try.func46, Try.ntmps46
    go_wp2
    go_ret2
    exact ⟨by simp; exact ⟨w0.symm, by decide⟩, Below.refl _ _⟩
  by_cases h1 : b = 0
  · subst h1
    have h0' : (a == 0) = false := beq_eq_false_iff_ne.2 h0
    clear ha
    go_enter Try.func46, Try.ntmps46
    go_wp2
    all_goals go_ret2
    all_goals exact ⟨by simp; exact ⟨w0.symm, by decide⟩, Below.refl _ _⟩
  have h0' : (a == 0) = false := beq_eq_false_iff_ne.2 h0
  have h1' : (b == 0) = false := beq_eq_false_iff_ne.2 h1
  by_cases h2 : b = -1
  · subst h2
    have HA := Lib.hid ha
    clear ha hb
    go_enter Try.func46, Try.ntmps46
    go_wp2
    go_ret2
    have ha := HA.out
    refine ⟨?_, Below.refl _ _⟩
    have e1 : a * -1 = -a := by omega
    have e2 : (a != -9223372036854775808) = fits (a * -1) := by
      unfold fits I64 at *; rw [e1, Bool.eq_iff_iff]; simp; omega
    rw [← e2, e1]
    rfl
  · have h2' : (b == -1) = false := beq_eq_false_iff_ne.2 h2
    have HQ := Lib.hid (quo_fits (a := a) hb h1 h2)
    clear ha hb
    go_enter Try.func46, Try.ntmps46
    go_wp2
    go_quiet (fail)
    go_wp2
    go_ret2
    exact ⟨ret_nb rfl HQ.out, below_drewN (Below.refl _ _) _⟩

def okN (z : Int) : Int := if I64 z then z else 0
theorem okN_yes {z : Int} (h : I64 z) : wrap64 z = okN z := by unfold okN; rw [if_pos h, wrap_fits h]
theorem okN_no {z : Int} (h : ¬ I64 z) : 0 = okN z := by unfold okN; rw [if_neg h]
theorem fits_yes {z : Int} (h : I64 z) : true = fits z := by unfold fits; rw [decide_eq_true h]
theorem fits_no {z : Int} (h : ¬ I64 z) : false = fits z := by unfold fits; rw [decide_eq_false h]

set_option maxHeartbeats 400000 in
theorem plus47 (a b : Int) (w : World) (ha : I64 a) (hb : I64 b) : Calls Try.prog 47 #[.int .i64 a, .int .i64 b] w fun e w' => e = .returned (.tuple #[.int .i64 (okN (a + b)), .bool (fits (a + b))]) ∧ w = w' := by
  have HA := Lib.hid ha
  have HB := Lib.hid hb
  clear ha hb
  go_enter Try.func47, Try.ntmps47
  go_wp2
  all_goals go_ret2
  all_goals have ha := HA.out
  all_goals have hb := HB.out
  all_goals first
    | (have hf : I64 (a + b) := by { unfold I64 at *; (try unfold wrap64 at *); omega }
       exact ⟨ret_nb (okN_yes hf) (fits_yes hf), rfl⟩)
    | (have hf : ¬ I64 (a + b) := by { unfold I64 at *; (try unfold wrap64 at *); omega }
       exact ⟨ret_nb (okN_no hf) (fits_no hf), rfl⟩)

set_option maxHeartbeats 400000 in
theorem minus48 (a b : Int) (w : World) (ha : I64 a) (hb : I64 b) : Calls Try.prog 48 #[.int .i64 a, .int .i64 b] w fun e w' => e = .returned (.tuple #[.int .i64 (okN (a - b)), .bool (fits (a - b))]) ∧ w = w' := by
  have HA := Lib.hid ha
  have HB := Lib.hid hb
  clear ha hb
  go_enter Try.func48, Try.ntmps48
  go_wp2
  all_goals go_ret2
  all_goals have ha := HA.out
  all_goals have hb := HB.out
  all_goals first
    | (have hf : I64 (a - b) := by { unfold I64 at *; (try unfold wrap64 at *); omega }
       exact ⟨ret_nb (okN_yes hf) (fits_yes hf), rfl⟩)
    | (have hf : ¬ I64 (a - b) := by { unfold I64 at *; (try unfold wrap64 at *); omega }
       exact ⟨ret_nb (okN_no hf) (fits_no hf), rfl⟩)

def timesN (a b : Int) : Int := if (a = -9223372036854775808 ∧ b = -1) ∨ (b = -9223372036854775808 ∧ a = -1) then 0 else wrap64 (a * b)
theorem timesN_fits {a b : Int} (h : I64 (a * b)) : timesN a b = a * b := by
  unfold timesN
  rw [if_neg, wrap_fits h]
  rintro (⟨rfl, rfl⟩ | ⟨rfl, rfl⟩) <;> (unfold I64 at h; omega)

set_option maxHeartbeats 400000 in
theorem times49 (a b : Int) (w : World) (ha : I64 a) (hb : I64 b) : Calls Try.prog 49 #[.int .i64 a, .int .i64 b] w fun e w' => e = .returned (.tuple #[.int .i64 (timesN a b), .bool (fits (a * b))]) ∧ Below w.heap.size w w' := by
  by_cases h0 : a = 0
  · subst h0
    go_enter Try.func49, Try.ntmps49
    go_wp2
    go_ret2
    exact ⟨by simp [timesN]; exact ⟨w0.symm, by decide⟩, Below.refl _ _⟩
  by_cases h1 : b = 0
  · subst h1
    have h0' : (a == 0) = false := beq_eq_false_iff_ne.2 h0
    clear ha
    go_enter Try.func49, Try.ntmps49
    go_wp2
    all_goals go_ret2
    all_goals exact ⟨by simp [timesN]; exact ⟨w0.symm, by decide⟩, Below.refl _ _⟩
  have h0' : (a == 0) = false := beq_eq_false_iff_ne.2 h0
  have h1' : (b == 0) = false := beq_eq_false_iff_ne.2 h1
  by_cases hA : a = -9223372036854775808 ∧ b = -1
  · obtain ⟨rfl, rfl⟩ := hA
    clear ha hb
    go_enter Try.func49, Try.ntmps49
    go_wp2
    go_ret2
    exact ⟨ret_nb (by decide) (by decide), Below.refl _ _⟩
  by_cases hB : b = -9223372036854775808 ∧ a = -1
  · obtain ⟨rfl, rfl⟩ := hB
    clear ha hb
    go_enter Try.func49, Try.ntmps49
    go_wp2
    go_ret2
    exact ⟨ret_nb (by decide) (by decide), Below.refl _ _⟩
  have HQ := Lib.hid (quo_any ha hb h1 hA)
  have HT := Lib.hid (show wrap64 (a * b) = timesN a b by unfold timesN; rw [if_neg (by omega)])
  clear ha hb
  go_enter Try.func49, Try.ntmps49
  go_wp2
  all_goals go_quiet (fail)
  all_goals go_wp2
  all_goals go_ret2
  all_goals first
    | exact ⟨ret_nb HT.out HQ.out, below_drewN (Below.refl _ _) _⟩
    | (subst_vars; exact ⟨ret_nb HT.out HQ.out, below_drewN (Below.refl _ _) _⟩)
    | (subst_vars; exact ⟨ret_nb HT.out (by have h := HQ.out; rw [Int.tdiv_neg] at h; exact h), below_drewN (Below.refl _ _) _⟩)
end Go.Proofs.Ytbibchinimhamaa
