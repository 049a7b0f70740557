/- The walks of ValueReckons and ValueBack. -/
import Derived.Test.YtbibchinimhamaaL
namespace Go.Proofs.Ytbibchinimhamaa
open Go.RowKit

set_option maxHeartbeats 400000 in
theorem law7 (op : ByteArray) (a b : V) (w : World) (ha : a.wf) (hb : b.wf) :
    Calls Try.prog 7 #[.string op, a.val, b.val] w fun e w' => e = .returned (.bool true) ∧ Below w.heap.size w w' := by
  have HA := Lib.hid ha
  have HB := Lib.hid hb
  clear ha hb
  go_enter Try.func7, Try.ntmps7
  go_wp2_with fail
  refine (awake14 _).mono ?_
  rintro e w1 ⟨rfl, hb1⟩
  have H1 := Lib.hid ((Two.start w a b).below hb1)
  clear hb1
  obtain ⟨a0, a1, a2⟩ := H1.out.ha
  obtain ⟨b0, b1, b2⟩ := H1.out.hb
  go_wp2_with fail
  refine (reckon29 op a b _ HA.out HB.out).mono ?_
  generalize hc : recR op a b = c
  have HC := Lib.hid hc
  clear hc
  rintro e w2 ⟨rfl, hb2⟩
  have H2 := Lib.hid (H1.out.below hb2)
  clear hb2 H1 a0 a1 a2 b0 b1 b2
  obtain ⟨a0, a1, a2⟩ := H2.out.ha
  obtain ⟨b0, b1, b2⟩ := H2.out.hb
  have z1 := lt_of_cell a0
  have z2 := lt_of_cell b0
  go_wp2_with fail
  refine (reckon30 op a b _ HA.out HB.out).mono ?_
  rw [HC.out]
  rintro e w3 ⟨rfl, hb3⟩
  have HX := Lib.hid ((BoxV.new w2 c.1 33).below hb3)
  have HW := Lib.hid ((H2.out.hw.alloc H2.out.hw.size (.cells #[.int .i64 c.1.k, .int .i64 c.1.n, .string c.1.s] 33)).trans (hb3.mono (by simp; have := H2.out.hw.size; omega)))
  clear hb3 H2 a0 a1 a2 b0 b1 b2 z1 z2
  obtain ⟨a0, a1, a2⟩ := HX.out
  have z1 := lt_of_cell a0
  obtain ⟨⟨ck, cn, cs⟩, ce⟩ := c
  go_wp2
  go_ret
  exact ⟨rfl, HW.out.alloc HW.out.size _⟩

abbrev iv (n : Int) : V := ⟨1, n, ⟨#[]⟩⟩
theorem fmd_iv (n : Int) : fmd (iv n) = true := by simp [fmd]
theorem wf_of_I64 {z : Int} (h : I64 z) : (Lit.int .i64 z).wf = true := by
  unfold I64 at h
  simp [Lit.wf, IntKind.min, IntKind.max, IntKind.signed, IntKind.bits]
  omega
theorem wf_iv {n : Int} (h : (Lit.int .i64 n).wf = true) : (iv n).wf := ⟨wf_of_I64 (z := 1) (by unfold I64; omega), h, Nat.zero_le _⟩
theorem rec_iv {op : ByteArray} {x y z : Int} (hz : recZ op x y = some z) : recR op (iv x) (iv y) = if I64 z then (iv z, 0) else (zV, 13) := by
  unfold recR
  rw [show recZ op (iv x).n (iv y).n = some z from hz]
  simp only [fmd_iv]
  simp

set_option maxHeartbeats 1000000 in
theorem law8 (a b : Int) (w : World) (ha : (Lit.int .i64 a).wf = true) (hb : (Lit.int .i64 b).wf = true) :
    Calls Try.prog 8 #[.int .i64 a, .int .i64 b] w fun e w' => e = .returned (.bool true) ∧ Below w.heap.size w w' := by
  have HA := Lib.hid (wf_iv ha)
  have HB := Lib.hid (wf_iv hb)
  clear ha hb
  have hs : recR ⟨#[42]⟩ (iv b) (iv a) = recR ⟨#[42]⟩ (iv a) (iv b) := by rw [rec_iv (recZ_times b a), rec_iv (recZ_times a b), Int.mul_comm]
  have HC2' := Lib.hid hs
  have h1 := rec_iv (recZ_plus a b)
  have HC1 := Lib.hid h1
  clear h1 hs
  generalize hc2 : recR ⟨#[42]⟩ (iv a) (iv b) = c2 at *
  have HC2 := Lib.hid hc2
  clear hc2
  go_enter Try.func8, Try.ntmps8
  go_wp2_with fail
  refine (awake14 _).mono ?_
  rintro e w1 ⟨rfl, hb1⟩
  have HW1 := Lib.hid hb1
  clear hb1
  go_wp2_with fail
  refine (reckon29 ⟨#[43]⟩ (iv a) (iv b) _ HA.out HB.out).mono ?_
  generalize hc1 : recR ⟨#[43]⟩ (iv a) (iv b) = c1 at *
  rintro e w2 ⟨rfl, hb2⟩
  have T2 := Lib.hid ((Two.start w1 (iv a) (iv b)).below hb2)
  clear hb2
  obtain ⟨a0, a1, a2⟩ := T2.out.ha
  obtain ⟨b0, b1, b2⟩ := T2.out.hb
  have z1 := lt_of_cell a0
  have z2 := lt_of_cell b0
  have HC1' := Lib.hid hc1
  clear hc1
  obtain ⟨⟨sk, sn, ss⟩, se⟩ := c1
  obtain ⟨⟨pk, pn, ps⟩, pe⟩ := c2
  go_wp2_with fail
  refine (reckon29 ⟨#[42]⟩ (iv a) (iv b) _ HA.out HB.out).mono ?_
  rw [HC2.out]
  rintro e w3 ⟨rfl, hb3⟩
  have T3 := Lib.hid ((T2.out.below (by go_grown : Below w2.heap.size w2 (w2.alloc (.cells #[.int .i64 sk, .int .i64 sn, .string ss] 33)))).below hb3)
  have S3 := Lib.hid ((BoxV.new w2 ⟨sk, sn, ss⟩ 33).below hb3)
  clear hb3 T2 a0 a1 a2 b0 b1 b2 z1 z2
  obtain ⟨a0, a1, a2⟩ := T3.out.ha
  obtain ⟨b0, b1, b2⟩ := T3.out.hb
  have z1 := lt_of_cell a0
  have z2 := lt_of_cell b0
  go_wp2_with fail
  refine (reckon29 ⟨#[42]⟩ (iv b) (iv a) _ HB.out HA.out).mono ?_
  rw [HC2'.out]
  rintro e w4 ⟨rfl, hb4⟩
  have hg : Below w3.heap.size w3 (w3.alloc (.cells #[.int .i64 pk, .int .i64 pn, .string ps] 33)) := by go_grown
  have T4 := Lib.hid ((T3.out.below hg).below hb4)
  have S4 := Lib.hid ((S3.out.below hg).below hb4)
  have P4 := Lib.hid ((BoxV.new w3 ⟨pk, pn, ps⟩ 33).below hb4)
  clear hg hb4 T3 S3 a0 a1 a2 b0 b1 b2 z1 z2
  obtain ⟨a0, a1, a2⟩ := T4.out.ha
  obtain ⟨b0, b1, b2⟩ := T4.out.hb
  obtain ⟨s0, s1, s2⟩ := S4.out
  obtain ⟨p0, p1, p2⟩ := P4.out
  have z1 := lt_of_cell a0
  have z2 := lt_of_cell b0
  have z3 := lt_of_cell s0
  have z4 := lt_of_cell p0
  by_cases hf : I64 (a + b)
  · have e1 := HC1.out.trans (if_pos hf)
    simp only [Prod.mk.injEq, V.mk.injEq] at e1
    obtain ⟨⟨rfl, rfl, rfl⟩, rfl⟩ := e1
    have hs2 := rec_iv (recZ_minus (a + b) b)
    rw [Int.add_sub_cancel, if_pos (wf_I64 HA.out.2.1)] at hs2
    have HM := Lib.hid hs2
    clear hs2
    go_wp2_with fail
    refine (reckon29 ⟨#[45]⟩ (iv (a + b)) (iv b) _ (wf_iv (wf_of_I64 hf)) HB.out).mono ?_
    rw [HM.out]
    rintro e w5 ⟨rfl, hb5⟩
    have hg : Below w4.heap.size w4 (w4.alloc (.cells #[.int .i64 pk, .int .i64 pn, .string ps] 33)) := by go_grown
    have T5 := Lib.hid ((T4.out.below hg).below hb5)
    clear hg hb5 T4 S4 P4 a0 a1 a2 b0 b1 b2 s0 s1 s2 p0 p1 p2 z1 z2 z3 z4
    obtain ⟨a0, a1, a2⟩ := T5.out.ha
    have z1 := lt_of_cell a0
    go_wp2
    go_ret
    exact ⟨rfl, (HW1.out.trans (T5.out.hw.mono HW1.out.size)).alloc (by have := T5.out.hw.size; have := HW1.out.size; omega) _⟩
  · have e1 := HC1.out.trans (if_neg hf)
    simp only [Prod.mk.injEq, zV, V.mk.injEq] at e1
    obtain ⟨⟨rfl, rfl, rfl⟩, rfl⟩ := e1
    go_wp2
    go_ret
    exact ⟨rfl, (HW1.out.trans (T4.out.hw.mono HW1.out.size)).alloc (by have := T4.out.hw.size; have := HW1.out.size; omega) _⟩
end Go.Proofs.Ytbibchinimhamaa
