/- The walk of CodeForms. -/
import Derived.Test.YtbibchinimhamaaQ
import Derived.Test.YtbibchinimhamaaR
namespace Go.Proofs.Ytbibchinimhamaa
open Go.RowKit

def i0 : I := ⟨⟨#[99, 111, 110, 115, 116]⟩, 0, 0, 0, zV⟩
theorem awake_formed : formedO 1 [i0] = true := by decide +kernel
theorem hasI_one (w : World) (x : I) (t : TypeId) : HasI (w.alloc (.cells #[.string x.op, .int .i64 x.a, .int .i64 x.b, .int .i64 x.c, .int .i64 x.v.k, .int .i64 x.v.n, .string x.v.s] t)) (some ⟨w.heap.size, 0, none⟩) [x] := by
  intro _
  refine ⟨w.heap.size, 0, rfl, fun i hi => ?_⟩
  obtain rfl : i = 0 := by simpa using hi
  exact IBox.new w x t
set_option maxHeartbeats 400000 in
theorem awake10 (w : World) : Calls Try.prog 10 #[] w fun e w' => e = .returned (.bool true) ∧ Below w.heap.size w w' := by
  go_enter Try.func10, Try.ntmps10
  go_wp2_with fail
  refine (formed11 (some ⟨w.heap.size, 0, none⟩) [i0] 1 1 _ (hasI_one w i0 55) (by unfold maxLen; simp) (fun i hi => ?_)).mono ?_
  · obtain rfl : i = 0 := by simpa using hi
    exact Nat.zero_le _
  rw [awake_formed]
  rintro e w1 ⟨rfl, hb1⟩
  have HB := Lib.hid (Below.trans (by go_grown : Below w.heap.size w _) (hb1.mono (by simp)))
  clear hb1
  go_wp2
  go_ret
  exact ⟨rfl, HB.out⟩

set_option maxHeartbeats 1000000 in
theorem law3 (A : Option Addr) (xs : List I) (c : Nat) (regs : Int) (w : World) (hx : HasI w A xs) (hl : xs.length ≤ maxLen) (hs : ∀ i, i < xs.length → (ei xs i).v.s.size ≤ maxLen) :
    Calls Try.prog 3 #[.agg #[.slice A xs.length c, .int .i64 regs]] w fun e w' => e = .returned (.bool true) ∧ Below w.heap.size w w' := by
  have HL := Lib.hid hl
  unfold maxLen at hl
  have HX := Lib.hid hx
  have HSZ := Lib.hid hs
  clear hx hs
  go_enter Try.func3, Try.ntmps3
  go_wp2_with fail
  refine (awake10 _).mono ?_
  rintro e w1 ⟨rfl, hb1⟩
  have HP := Lib.hid ((PBox.new w (.slice A xs.length c) regs 24).below hb1)
  have HB := Lib.hid (Below.trans (by go_grown : Below w.heap.size w (w.alloc (.cells #[.slice A xs.length c, .int .i64 regs] 24))) (hb1.mono (by simp)))
  clear hb1
  obtain ⟨p0, p1⟩ := HP.out
  by_cases hl2 : xs.length ≤ 1100
  · go_wp2_with fail
    have HS : (w1.cell? ⟨w.heap.size, 0, none⟩ = some (.slice A xs.length c) ∧ w1.cell? ⟨w.heap.size, 1, none⟩ = some (.int .i64 regs)) ∧ Hid (Below w.heap.size w w1) := ⟨⟨p0, p1⟩, HB⟩
    go_region_held3 (fun U => (U.cell? ⟨w.heap.size, 0, none⟩ = some (.slice A xs.length c) ∧ U.cell? ⟨w.heap.size, 1, none⟩ = some (.int .i64 regs)) ∧ Hid (Below w.heap.size w U))
      (first | exact HS | exact ⟨⟨HS.1.1, HS.1.2⟩, HS.2.out.drew⟩ | exact ⟨PBox.below (‹(_ ∧ _) ∧ Hid (Below w.heap.size w _)›).1 (by assumption), (‹(_ ∧ _) ∧ Hid (Below w.heap.size w _)›).2.out.trans (Below.mono (by assumption) (‹(_ ∧ _) ∧ Hid (Below w.heap.size w _)›).2.out.size)⟩)
      (first
        | (go_at_call 12; refine (theirs12 A xs c regs _ (HX.out.below ?_) hl2).mono ?_; (exact (‹(_ ∧ _) ∧ Hid (Below w.heap.size w _)›).2.out); rintro e w' ⟨A', c', rfl, hI, hb⟩)
        | (go_at_call 11; refine (formed11 _ xs _ regs _ (by assumption) HL.out HSZ.out).mono ?_; rintro e w' ⟨rfl, hb⟩)
        | (go_at_call 13; refine (formed13 A xs c regs _ (HX.out.below ?_) HL.out HSZ.out).mono ?_; (exact (‹(_ ∧ _) ∧ Hid (Below w.heap.size w _)›).2.out); rintro e w' ⟨rfl, hb⟩))
    go_wp2
    go_ret
    exact ⟨rfl, (‹(_ ∧ _) ∧ Hid (Below w.heap.size w _)›).2.out⟩
  · go_wp2_with (go_at_call 10; refine (awake10 _).mono ?_; rintro e w2 ⟨rfl, hb2⟩; have H2 := Lib.hid (HB.out.trans (hb2.mono HB.out.size)); clear hb2)
    go_ret
    exact ⟨rfl, H2.out⟩
end Go.Proofs.Ytbibchinimhamaa
