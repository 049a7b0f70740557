/- code.Formed: a program is formed. -/
import Derived.Test.YtbibchinimhamaaO
namespace Go.Proofs.Ytbibchinimhamaa
open Go.RowKit

def allSound (regs : Int) (xs : List I) : Bool := (List.range xs.length).all fun j => soundO regs xs.length j (ei xs j)
def formedO (regs : Int) (xs : List I) : Bool :=
  decide (1 ≤ xs.length) && decide (xs.length ≤ 1000) && decide (1 ≤ regs) && decide (regs ≤ 1000) && allSound regs xs
/-- The first k instructions are sound. -/
def soundTo (regs : Int) (xs : List I) (k : Nat) : Prop := ∀ j, j < k → soundO regs xs.length j (ei xs j) = true
theorem soundTo_zero (regs : Int) (xs : List I) : soundTo regs xs 0 := fun j h => absurd h (by omega)
theorem soundTo_succ {regs : Int} {xs : List I} {k : Nat} (h : soundTo regs xs k) (h2 : soundO regs xs.length k (ei xs k) = true) : soundTo regs xs (k + 1) := fun j hj => by
  by_cases e : j = k
  · subst e; exact h2
  · exact h j (by omega)
theorem allSound_yes {regs : Int} {xs : List I} (h : soundTo regs xs xs.length) : allSound regs xs = true := by
  unfold allSound
  rw [List.all_eq_true]
  intro j hj
  exact h j (List.mem_range.1 hj)
theorem allSound_no {regs : Int} {xs : List I} {k : Nat} (hk : k < xs.length) (h : soundO regs xs.length k (ei xs k) = false) : allSound regs xs = false := by
  unfold allSound
  rw [List.all_eq_false]
  exact ⟨k, List.mem_range.2 hk, by rw [h]; simp⟩
theorem formedO_is {regs : Int} {xs : List I} (h : 1 ≤ xs.length ∧ xs.length ≤ 1000 ∧ 1 ≤ regs ∧ regs ≤ 1000) : formedO regs xs = allSound regs xs := by
  unfold formedO
  rw [decide_eq_true h.1, decide_eq_true h.2.1, decide_eq_true h.2.2.1, decide_eq_true h.2.2.2]
  simp
theorem formedO_not {regs : Int} {xs : List I} (h : ¬ (1 ≤ xs.length ∧ xs.length ≤ 1000 ∧ 1 ≤ regs ∧ regs ≤ 1000)) : formedO regs xs = false := by
  unfold formedO
  cases hb : (decide (1 ≤ xs.length) && decide (xs.length ≤ 1000) && decide (1 ≤ regs) && decide (regs ≤ 1000))
  · rfl
  · simp only [Bool.and_eq_true, decide_eq_true_eq] at hb
    exact absurd ⟨hb.1.1.1, hb.1.1.2, hb.1.2, hb.2⟩ h

set_option maxHeartbeats 1000000 in
theorem formed11 (A : Option Addr) (xs : List I) (c : Nat) (regs : Int) (w : World) (hx : HasI w A xs) (hl : xs.length ≤ maxLen) (hs : ∀ i, i < xs.length → (ei xs i).v.s.size ≤ maxLen) :
    Calls Try.prog 11 #[.agg #[.slice A xs.length c, .int .i64 regs]] w fun e w' => e = .returned (.bool (formedO regs xs)) ∧ Below w.heap.size w w' := by
  have HL := Lib.hid hl
  unfold maxLen at hl
  have HX := Lib.hid hx
  have HSZ := Lib.hid hs
  clear hx hs
  by_cases hb : 1 ≤ xs.length ∧ xs.length ≤ 1000 ∧ 1 ≤ regs ∧ regs ≤ 1000
  · have HF := Lib.hid (formedO_is hb)
    obtain ⟨h1, h2, h3, h4⟩ := hb
    go_enter Try.func11, Try.ntmps11
    go_wp2
    go_loopw [27] (fun i wr => ∃ k : Nat, k ≤ xs.length ∧ i = .int .i64 k ∧ Hid (soundTo regs xs k) ∧ Hid (Below w.heap.size w wr) ∧ Hid (PBox wr w.heap.size (.slice A xs.length c) regs)) (fun i _ => xs.length - (intOf i).toNat)
    case atStart => exact ⟨0, Nat.zero_le _, rfl, soundTo_zero _ _, Lib.hid (by go_grown), PBox.new _ _ _ _⟩
    case round =>
      obtain ⟨k, hk, rfl, HS, HB, HP⟩ := hrel
      obtain ⟨p0, p1⟩ := HP.out
      by_cases hkx : k < xs.length
      · go_wp2_with fail
        refine (sound34 A xs c regs k _ (HX.out.below HB.out) hkx HL.out (HSZ.out k hkx)).mono ?_
        rintro e w1 ⟨rfl, hb1⟩
        have HB1 := Lib.hid (HB.out.trans (hb1.mono HB.out.size))
        have HP1 := Lib.hid (HP.out.below hb1)
        clear hb1 HB HP p0 p1
        cases hso : soundO regs xs.length k (ei xs k) with
        | false =>
          have HN := Lib.hid (HF.out.trans (allSound_no hkx hso))
          go_wp2
          go_ret
          exact ⟨ret_bool HN.out.symm, HB1.out⟩
        | true =>
          have HS1 := Lib.hid (soundTo_succ HS.out hso)
          clear HS
          go_wp2
          go_roundw
          case rel => exact ⟨k + 1, by omega, by go_num, HS1, HB1, HP1⟩
          case measure => simp [intOf]; omega
      · obtain rfl : k = xs.length := by omega
        have HY := Lib.hid (HF.out.trans (allSound_yes HS.out))
        go_wp2
        go_ret
        exact ⟨ret_bool HY.out.symm, HB.out⟩
  · have HF := Lib.hid (formedO_not hb)
    have hb' : xs.length < 1 ∨ 1000 < xs.length ∨ regs < 1 ∨ 1000 < regs := by omega
    clear hb
    rcases hb' with h | h | h | h
    all_goals
      go_enter Try.func11, Try.ntmps11
      go_wp2
      all_goals go_ret
      all_goals exact ⟨ret_bool HF.out.symm, by go_grown⟩
end Go.Proofs.Ytbibchinimhamaa
