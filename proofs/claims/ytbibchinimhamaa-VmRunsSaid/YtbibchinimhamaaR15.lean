/- The walk of VmRuns. -/
import Derived.Test.YtbibchinimhamaaR14
import Derived.Test.YtbibchinimhamaaS
namespace Go.Proofs.Ytbibchinimhamaa
set_option linter.unusedVariables false
set_option linter.unusedSimpArgs false
open Go.RowKit

def runR (regs : Int) (xs : List I) (R : List (List V)) : V × Int × Int := if formedO regs xs then resO R xs else (zV, 0, 1)
theorem vm32 (A : Option Addr) (R : List (List V)) (cR : Nat) (X : Option Addr) (xs : List I) (c : Nat) (regs : Int) (w : World) (hx : HasI w X xs) (hl : xs.length ≤ maxLen) (hs : ∀ i, i < xs.length → (ei xs i).v.wf)
    (hR : HasR w A R) (hRl : R.length ≤ maxLen) (hw : wfR R) :
    Calls Try.prog 32 #[.agg #[.slice X xs.length c, .int .i64 regs], .slice A R.length cR] w (post32 w (runR regs xs R)) := by
  unfold runR
  cases hf : formedO regs xs with
  | true =>
    obtain ⟨n, rfl⟩ := Int.eq_ofNat_of_zero_le (show 0 ≤ regs by have := (sound_of hf).1; omega)
    exact vm32_formed A R cR X xs c n w hx hl hs hf hR hRl hw
  | false => exact vm32_not A R.length cR X xs c regs w hx hl (fun i hi => (hs i hi).2.2) hf
theorem ref33 (A : Option Addr) (R : List (List V)) (cR : Nat) (X : Option Addr) (xs : List I) (c : Nat) (regs : Int) (w : World) (hx : HasI w X xs) (hl : xs.length ≤ maxLen) (hs : ∀ i, i < xs.length → (ei xs i).v.wf)
    (hR : HasR w A R) (hRl : R.length ≤ maxLen) (hw : wfR R) :
    Calls Try.prog 33 #[.agg #[.slice X xs.length c, .int .i64 regs], .slice A R.length cR] w (post32 w (runR regs xs R)) := by
  unfold runR
  cases hf : formedO regs xs with
  | true =>
    obtain ⟨n, rfl⟩ := Int.eq_ofNat_of_zero_le (show 0 ≤ regs by have := (sound_of hf).1; omega)
    exact ref33_formed A R cR X xs c n w hx hl hs hf hR hRl hw
  | false => exact ref33_not A R.length cR X xs c regs w hx hl (fun i hi => (hs i hi).2.2) hf

def i7 : I := ⟨⟨#[99, 111, 110, 115, 116]⟩, 0, 0, 0, ⟨1, 7, ⟨#[]⟩⟩⟩
theorem awake_run : runR 1 [i7] [] = (⟨1, 7, ⟨#[]⟩⟩, 2, 0) := by kernel_rfl
set_option maxHeartbeats 400000 in
theorem awake31 (w : World) : Calls Try.prog 31 #[] w fun e w' => e = .returned (.bool true) ∧ Below w.heap.size w w' := by
  go_enter Try.func31, Try.ntmps31
  go_wp2_with fail
  refine (vm32 none [] 0 (some ⟨w.heap.size, 0, none⟩) [i7] 1 1 _ (hasI_one w i7 55) (by unfold maxLen; simp) (fun i hi => ?_) (fun h => absurd rfl h) (Nat.zero_le _) (fun i hi => absurd hi (by simp))).mono ?_
  · obtain rfl : i = 0 := by simpa using hi
    exact ⟨by decide, by decide, Nat.zero_le _⟩
  rw [awake_run]
  rintro e w1 ⟨rfl, hb1⟩
  have HB := Lib.hid (Below.trans (by go_grown : Below w.heap.size w _) (hb1.mono (by simp)))
  clear hb1
  go_wp2
  go_ret
  exact ⟨rfl, HB.out.alloc HB.out.size _⟩

set_option maxHeartbeats 1000000 in
theorem law9 (A : Option Addr) (xs : List I) (c : Nat) (regs : Int) (B : Option Addr) (R : List (List V)) (cR : Nat) (w : World) (hx : HasI w A xs) (hl : xs.length ≤ maxLen) (hs : ∀ i, i < xs.length → (ei xs i).v.wf)
    (hR : HasR w B R) (hRl : R.length ≤ maxLen) (hw : wfR R) :
    Calls Try.prog 9 #[.agg #[.slice A xs.length c, .int .i64 regs], .slice B R.length cR] w fun e w' => e = .returned (.bool true) ∧ Below w.heap.size w w' := by
  have HL := Lib.hid hl
  have HRL := Lib.hid hRl
  unfold maxLen at hl hRl
  have HX := Lib.hid hx
  have HSZ := Lib.hid hs
  have HR := Lib.hid hR
  have HW := Lib.hid hw
  clear hx hs hR hw
  go_enter Try.func9, Try.ntmps9
  go_wp2_with fail
  refine (awake31 _).mono ?_
  rintro e w1 ⟨rfl, hb1⟩
  have HP := Lib.hid ((PBox.new w (.slice A xs.length c) regs 24).below hb1)
  have HB := Lib.hid (Below.trans (by go_grown : Below w.heap.size w (w.alloc (.cells #[.slice A xs.length c, .int .i64 regs] 24))) (hb1.mono (by simp)))
  clear hb1
  obtain ⟨p0, p1⟩ := HP.out
  by_cases hl2 : xs.length ≤ 1100
  · by_cases hr2 : R.length ≤ 20
    · go_wp2_with fail
      refine (theirs12 A xs c regs _ (HX.out.below HB.out) hl2).mono ?_
      rintro e w2 ⟨A', c', rfl, hI, hb2⟩
      have HP2 := Lib.hid (HP.out.below hb2)
      have HB2 := Lib.hid (HB.out.trans (hb2.mono HB.out.size))
      have HI := Lib.hid hI
      clear hb2 hI HP HB p0 p1
      go_wp2_with fail
      refine (vm32 B R cR A' xs c' regs _ HI.out HL.out HSZ.out (HR.out.below HB2.out) HRL.out HW.out).mono ?_
      rintro e w3 ⟨rfl, hb3⟩
      generalize hq : runR regs xs R = q
      have HQ := Lib.hid hq
      clear hq
      have HP3 := Lib.hid (HP2.out.below hb3)
      have HB3 := Lib.hid (HB2.out.trans (hb3.mono HB2.out.size))
      clear hb3 HP2 HB2 HI
      obtain ⟨p0, p1⟩ := HP3.out
      have zp := lt_of_cell p0
      go_wp2_with fail
      refine (ref33 B R cR A xs c regs _ (HX.out.below (HB3.out.alloc HB3.out.size _)) HL.out HSZ.out (HR.out.below (HB3.out.alloc HB3.out.size _)) HRL.out HW.out).mono ?_
      rw [HQ.out]
      rintro e w4 ⟨rfl, hb4⟩
      have HXX := Lib.hid ((BoxV.new w3 q.1 33).below hb4)
      have HB4 := Lib.hid ((HB3.out.alloc HB3.out.size (.cells #[.int .i64 q.1.k, .int .i64 q.1.n, .string q.1.s] 33)).trans (hb4.mono (by simp; have := HB3.out.size; omega)))
      clear hb4 HP3 HB3 p0 p1 zp
      obtain ⟨a0, a1, a2⟩ := HXX.out
      have z1 := lt_of_cell a0
      obtain ⟨⟨qk, qn, qs⟩, qt, qe⟩ := q
      go_wp2
      go_ret
      exact ⟨rfl, HB4.out.alloc HB4.out.size _⟩
    · go_wp2_with (go_at_call 31; refine (awake31 _).mono ?_; rintro e w2 ⟨rfl, hb2⟩; have H2 := Lib.hid (HB.out.trans (hb2.mono HB.out.size)); clear hb2)
      go_ret
      exact ⟨rfl, H2.out⟩
  · go_wp2_with (go_at_call 31; refine (awake31 _).mono ?_; rintro e w2 ⟨rfl, hb2⟩; have H2 := Lib.hid (HB.out.trans (hb2.mono HB.out.size)); clear hb2)
    go_ret
    exact ⟨rfl, H2.out⟩
end Go.Proofs.Ytbibchinimhamaa
