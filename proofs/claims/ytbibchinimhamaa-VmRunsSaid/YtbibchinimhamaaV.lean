/- The machine: its plain meaning, and its registers in memory. -/
import Derived.Test.YtbibchinimhamaaU2
import Derived.Test.YtbibchinimhamaaP
namespace Go.Proofs.Ytbibchinimhamaa
open Go.RowKit

def upd {α : Type} (g : Nat → α) (i : Nat) (x : α) : Nat → α := fun j => if j = i then x else g j
theorem upd_same {α : Type} (g : Nat → α) (i : Nat) (x : α) : upd g i x i = x := by unfold upd; rw [if_pos rfl]
theorem upd_ne {α : Type} (g : Nat → α) {i j : Nat} (x : α) (h : ¬ j = i) : upd g i x j = g j := by unfold upd; rw [if_neg h]

def oneV : V := ⟨1, 0, ⟨#[]⟩⟩
/-- What an instruction does: the error, the next place, the registers' values and truths. -/
def stepO (R : List (List V)) (at_ : Nat) (x : I) (fv : Nat → V) (ft : Nat → Int) : Int × Nat × (Nat → V) × (Nat → Int) :=
  if x.op.toList = [99, 111, 110, 115, 116] then (0, at_ + 1, upd fv x.a.toNat x.v, ft)
  else if x.op.toList = [99, 111, 108] then ((colO R x.b x.c).2, at_ + 1, upd fv x.a.toNat (colO R x.b x.c).1, ft)
  else if x.op.toList = [110, 101, 103] then ((recR ⟨#[45]⟩ oneV (fv x.b.toNat)).2, at_ + 1, upd fv x.a.toNat (recR ⟨#[45]⟩ oneV (fv x.b.toNat)).1, ft)
  else if x.op.toList = [43] ∨ x.op.toList = [45] ∨ x.op.toList = [42] then ((recR x.op (fv x.b.toNat) (fv x.c.toNat)).2, at_ + 1, upd fv x.a.toNat (recR x.op (fv x.b.toNat) (fv x.c.toNat)).1, ft)
  else if x.op.toList = [110, 117, 108, 108] then (0, at_ + 1, fv, upd ft x.a.toNat (t01 ((fv x.b.toNat).k == 0)))
  else if x.op.toList = [115, 111, 109, 101] then (0, at_ + 1, fv, upd ft x.a.toNat (t01 ((fv x.b.toNat).k != 0)))
  else if x.op.toList = [110, 111, 116] then (0, at_ + 1, fv, upd ft x.a.toNat (notO (ft x.b.toNat)))
  else if x.op.toList = [97, 110, 100] then (0, at_ + 1, fv, upd ft x.a.toNat (andO (ft x.b.toNat) (ft x.c.toNat)))
  else if x.op.toList = [111, 114] then (0, at_ + 1, fv, upd ft x.a.toNat (orO (ft x.b.toNat) (ft x.c.toNat)))
  else if x.op.toList = [102, 97, 108, 115, 101] then (0, if ft x.b.toNat = t01 false then x.c.toNat else at_ + 1, fv, ft)
  else if x.op.toList = [116, 114, 117, 101] then (0, if ft x.b.toNat = t01 true then x.c.toNat else at_ + 1, fv, ft)
  else if x.op.toList = [99, 111, 112, 121] then (0, at_ + 1, upd fv x.a.toNat (fv x.b.toNat), upd ft x.a.toNat (ft x.b.toNat))
  else ((cmpR x.op (fv x.b.toNat) (fv x.c.toNat)).2, at_ + 1, fv, upd ft x.a.toNat (cmpR x.op (fv x.b.toNat) (fv x.c.toNat)).1)

def runO (R : List (List V)) (xs : List I) : Nat → Nat → (Nat → V) → (Nat → Int) → V × Int × Int
  | 0, _, fv, ft => (fv 0, ft 0, 0)
  | n + 1, at_, fv, ft =>
    if at_ < xs.length then
      (if (stepO R at_ (ei xs at_) fv ft).1 = 0 then runO R xs n (stepO R at_ (ei xs at_) fv ft).2.1 (stepO R at_ (ei xs at_) fv ft).2.2.1 (stepO R at_ (ei xs at_) fv ft).2.2.2
       else (zV, 0, (stepO R at_ (ei xs at_) fv ft).1))
    else (fv 0, ft 0, 0)
/-- From a place on. -/
def goO (R : List (List V)) (xs : List I) (at_ : Nat) (fv : Nat → V) (ft : Nat → Int) : V × Int × Int := runO R xs (xs.length - at_) at_ fv ft

def Adv (k n : Nat) (s : Int × Nat × (Nat → V) × (Nat → Int)) : Prop := k < s.2.1 ∧ s.2.1 ≤ n
theorem adv_ite {k n : Nat} {c : Prop} [Decidable c] {s t : Int × Nat × (Nat → V) × (Nat → Int)} (h1 : c → Adv k n s) (h2 : ¬ c → Adv k n t) : Adv k n (if c then s else t) := by
  by_cases h : c
  · rw [if_pos h]; exact h1 h
  · rw [if_neg h]; exact h2 h
theorem step_on {regs : Int} {R : List (List V)} {xs : List I} {k : Nat} {fv : Nat → V} {ft : Nat → Int} (hk : k < xs.length) (hs : soundO regs xs.length k (ei xs k) = true) :
    k < (stepO R k (ei xs k) fv ft).2.1 ∧ (stepO R k (ei xs k) fv ft).2.1 ≤ xs.length := by
  have hj : jumpB (ei xs k).op = true → (k : Int) < (ei xs k).c ∧ (ei xs k).c ≤ (xs.length : Int) := by
    intro h
    unfold soundO at hs
    rw [if_pos h] at hs
    simp only [Bool.and_eq_true, decide_eq_true_eq] at hs
    exact ⟨hs.2.1.2, hs.2.2⟩
  have jmp : jumpB (ei xs k).op = true → ∀ b : Int, ∀ (c : Prop) [Decidable c], Adv k xs.length (0, if c then (ei xs k).c.toNat else k + 1, fv, ft) := by
    intro h b c _
    have h2 := hj h
    unfold Adv
    by_cases hc : c
    · simp only [hc, if_true]; omega
    · simp only [hc, if_false]; omega
  have one : ∀ (e : Int) (f : Nat → V) (g : Nat → Int), Adv k xs.length (e, k + 1, f, g) := fun e f g => by unfold Adv; show k < k + 1 ∧ k + 1 ≤ xs.length; omega
  show Adv k xs.length (stepO R k (ei xs k) fv ft)
  unfold stepO
  repeat' (refine adv_ite (fun h => ?_) (fun h => ?_))
  all_goals first
    | exact one _ _ _
    | exact jmp (by simp [jumpB, *]) 0 _
theorem run_fuel {regs : Int} {R : List (List V)} {xs : List I} (hs : ∀ k, k < xs.length → soundO regs xs.length k (ei xs k) = true) :
    ∀ (n m k : Nat) (fv : Nat → V) (ft : Nat → Int), xs.length - k ≤ n → xs.length - k ≤ m → runO R xs n k fv ft = runO R xs m k fv ft := by
  intro n
  induction n with
  | zero =>
    intro m k fv ft h1 h2
    cases m with
    | zero => rfl
    | succ m => simp only [runO]; rw [if_neg (by omega)]
  | succ n ih =>
    intro m k fv ft h1 h2
    cases m with
    | zero => simp only [runO]; rw [if_neg (by omega)]
    | succ m =>
      simp only [runO]
      by_cases hk : k < xs.length
      · rw [if_pos hk, if_pos hk]
        have h := step_on (R := R) (fv := fv) (ft := ft) hk (hs k hk)
        rw [ih m _ _ _ (by omega) (by omega)]
      · rw [if_neg hk, if_neg hk]
theorem go_end {R : List (List V)} {xs : List I} {fv : Nat → V} {ft : Nat → Int} : goO R xs xs.length fv ft = (fv 0, ft 0, 0) := by
  unfold goO; rw [Nat.sub_self]; rfl
theorem go_step {regs : Int} {R : List (List V)} {xs : List I} (hs : ∀ k, k < xs.length → soundO regs xs.length k (ei xs k) = true) {k : Nat} {fv : Nat → V} {ft : Nat → Int} (hk : k < xs.length) :
    goO R xs k fv ft = if (stepO R k (ei xs k) fv ft).1 = 0 then goO R xs (stepO R k (ei xs k) fv ft).2.1 (stepO R k (ei xs k) fv ft).2.2.1 (stepO R k (ei xs k) fv ft).2.2.2 else (zV, 0, (stepO R k (ei xs k) fv ft).1) := by
  have h := step_on (R := R) (fv := fv) (ft := ft) hk (hs k hk)
  have e : xs.length - k = (xs.length - k - 1) + 1 := by omega
  unfold goO
  rw [e]
  simp only [runO]
  rw [if_pos hk]
  split
  · exact run_fuel hs _ _ _ _ _ (by omega) (by omega)
  · rfl
end Go.Proofs.Ytbibchinimhamaa
