/- value.Compare at an unknown sign; the reference's Compare. -/
import Derived.Test.YtbibchinimhamaaE
namespace Go.Proofs.Ytbibchinimhamaa
open Go.RowKit

theorem cmpR_none {op : ByteArray} {a b : V} (h : ¬ KnownOp op) : cmpR op a b = (0, 1) := by
  unfold cmpR
  rw [opIs_none (not_known h)]

theorem ne_lit {op : ByteArray} (l : List UInt8) (h : ¬ op = ⟨l.toArray⟩) : (op.toList == l) = false := by
  rw [beq_eq_false_iff_ne]
  intro he
  exact h (toList_inj (by rw [he]; simp [ByteArray.toList_eq]))

set_option maxHeartbeats 1000000 in
theorem compare15_none (op : ByteArray) (ho : ¬ KnownOp op) (a b : V) (w : World) :
    Calls Try.prog 15 #[.string op, a.val, b.val] w fun e w' => e = .returned (.tuple #[.int .i64 (cmpR op a b).1, .int .i64 (cmpR op a b).2]) ∧ Below w.heap.size w w' := by
  have HO := Lib.hid ho
  have hn := not_known ho
  obtain ⟨n1, n2, n3, n4, n5, n6⟩ := hn
  have m1 := ne_lit [61] n1
  have m2 := ne_lit [60, 62] n2
  have m3 := ne_lit [60] n3
  have m4 := ne_lit [60, 61] n4
  have m5 := ne_lit [62] n5
  have m6 := ne_lit [62, 61] n6
  clear ho n1 n2 n3 n4 n5 n6
  go_enter Try.func15, Try.ntmps15
  go_wp2_with fail
  refine (order17 a b _).mono ?_
  rintro e w1 ⟨rfl, hb1⟩
  have HW := Lib.hid (Below.trans (by go_grown : Below w.heap.size w ((w.alloc (.cells #[.int .i64 a.k, .int .i64 a.n, .string a.s] 33)).alloc (.cells #[.int .i64 b.k, .int .i64 b.n, .string b.s] 33))) (hb1.mono (by simp; omega)))
  clear hb1
  go_wp2
  go_ret2
  exact ⟨by rw [cmpR_none HO.out]; rfl, HW.out⟩

set_option maxHeartbeats 1000000 in
theorem compare16_known (op : ByteArray) (ho : KnownOp op) (a b : V) (w : World) (has : a.s.size ≤ maxLen) (hbs : b.s.size ≤ maxLen) :
    Calls Try.prog 16 #[.string op, a.val, b.val] w fun e w' => e = .returned (.tuple #[.int .i64 (cmpR op a b).1, .int .i64 (cmpR op a b).2]) ∧ Below w.heap.size w w' := by
  have HO := Lib.hid ho
  have HA := Lib.hid ((BoxV.new w a 33).alloc (.cells #[.int .i64 b.k, .int .i64 b.n, .string b.s] 33))
  have HB := Lib.hid (BoxV.new (w.alloc (.cells #[.int .i64 a.k, .int .i64 a.n, .string a.s] 33)) b 33)
  simp only [World.size_alloc] at HB
  have HW := Lib.hid (by go_grown : Below w.heap.size w ((w.alloc (.cells #[.int .i64 a.k, .int .i64 a.n, .string a.s] 33)).alloc (.cells #[.int .i64 b.k, .int .i64 b.n, .string b.s] 33)))
  rcases ho with rfl | rfl | rfl | rfl | rfl | rfl
  all_goals
    go_enter Try.func16, Try.ntmps16
    go_wp2_with fail
    refine (formed20 a _ has).mono ?_
    rintro e w2 ⟨rfl, hb2⟩
    have HA2 := Lib.hid (HA.out.below hb2)
    have HB2 := Lib.hid (HB.out.below hb2)
    have HW2 := Lib.hid (HW.out.trans (hb2.mono HW.out.size))
    clear hb2 HA HB HW
    obtain ⟨a0, a1, a2⟩ := HA2.out
    obtain ⟨b0, b1, b2⟩ := HB2.out
    cases hfa : fmd a with
    | false =>
      go_wp2
      go_ret2
      exact ⟨by rw [cmpR_arg (.inl hfa)]; rfl, HW2.out⟩
    | true =>
      go_wp2_with fail
      refine (formed20 b _ hbs).mono ?_
      rintro e w3 ⟨rfl, hb3⟩
      have HA3 := Lib.hid (HA2.out.below hb3)
      have HB3 := Lib.hid (HB2.out.below hb3)
      have HW3 := Lib.hid (HW2.out.trans (hb3.mono HW2.out.size))
      clear hb3 HA2 HB2 HW2 a0 a1 a2 b0 b1 b2
      obtain ⟨a0, a1, a2⟩ := HA3.out
      obtain ⟨b0, b1, b2⟩ := HB3.out
      cases hfb : fmd b with
      | false =>
        go_wp2
        go_ret2
        exact ⟨by rw [cmpR_arg (.inr hfb)]; rfl, HW3.out⟩
      | true =>
        go_wp2_with (first | (go_at_call 37; refine (truth37 _ _).mono ?_; rintro e w' ⟨rfl, rfl⟩) | (go_at_call 21; refine (order21 a b _).mono ?_; rintro e w4 ⟨rfl, hb4⟩; have HW4 := Lib.hid (HW3.out.trans (hb4.mono HW3.out.size)); clear hb4))
        all_goals go_ret2
        all_goals refine ⟨?_, by first | exact HW4.out | exact HW3.out⟩
        all_goals first
          | (rw [cmpR_null HO.out hfa hfb (by simp_all)]; rfl)
          | (rw [cmpR_type HO.out hfa hfb (by simp_all) (by simp_all) (by simp_all)]; rfl)
          | (rw [cmpR_is HO.out hfa hfb (by simp_all) (by simp_all) (by simp_all)]; rfl)

set_option maxHeartbeats 1000000 in
theorem compare16_none (op : ByteArray) (ho : ¬ KnownOp op) (a b : V) (w : World) :
    Calls Try.prog 16 #[.string op, a.val, b.val] w fun e w' => e = .returned (.tuple #[.int .i64 (cmpR op a b).1, .int .i64 (cmpR op a b).2]) ∧ Below w.heap.size w w' := by
  have HO := Lib.hid ho
  have hn := not_known ho
  obtain ⟨n1, n2, n3, n4, n5, n6⟩ := hn
  have m1 := ne_lit [61] n1
  have m2 := ne_lit [60, 62] n2
  have m3 := ne_lit [60] n3
  have m4 := ne_lit [60, 61] n4
  have m5 := ne_lit [62] n5
  have m6 := ne_lit [62, 61] n6
  clear ho n1 n2 n3 n4 n5 n6
  go_enter Try.func16, Try.ntmps16
  go_wp2
  go_ret2
  exact ⟨by rw [cmpR_none HO.out]; rfl, by go_grown⟩

theorem compare15 (op : ByteArray) (a b : V) (w : World) (has : a.s.size ≤ maxLen) (hbs : b.s.size ≤ maxLen) :
    Calls Try.prog 15 #[.string op, a.val, b.val] w fun e w' => e = .returned (.tuple #[.int .i64 (cmpR op a b).1, .int .i64 (cmpR op a b).2]) ∧ Below w.heap.size w w' := by
  by_cases ho : KnownOp op
  · exact compare15_known op ho a b w has hbs
  · exact compare15_none op ho a b w
theorem compare16 (op : ByteArray) (a b : V) (w : World) (has : a.s.size ≤ maxLen) (hbs : b.s.size ≤ maxLen) :
    Calls Try.prog 16 #[.string op, a.val, b.val] w fun e w' => e = .returned (.tuple #[.int .i64 (cmpR op a b).1, .int .i64 (cmpR op a b).2]) ∧ Below w.heap.size w w' := by
  by_cases ho : KnownOp op
  · exact compare16_known op ho a b w has hbs
  · exact compare16_none op ho a b w

theorem awake_cmp : cmpR ⟨#[60]⟩ ⟨1, 1, ⟨#[]⟩⟩ ⟨1, 2, ⟨#[]⟩⟩ = (1, 0) := by decide +kernel
set_option maxHeartbeats 400000 in
theorem awake14 (w : World) : Calls Try.prog 14 #[] w fun e w' => e = .returned (.bool true) ∧ Below w.heap.size w w' := by
  go_enter Try.func14, Try.ntmps14
  go_wp2_with fail
  refine (compare15 ⟨#[60]⟩ ⟨1, 1, ⟨#[]⟩⟩ ⟨1, 2, ⟨#[]⟩⟩ _ (by decide) (by decide)).mono ?_
  rw [awake_cmp]
  rintro e w1 ⟨rfl, hb1⟩
  have HB := Lib.hid hb1
  clear hb1
  go_wp2
  go_ret
  exact ⟨rfl, HB.out⟩

/-- Two boxes of the call's own that hold two values. -/
structure Two (w W : World) (a b : V) : Prop where
  ha : BoxV W w.heap.size a
  hb : BoxV W (w.heap.size + 1) b
  hw : Below w.heap.size w W
theorem Two.start (w : World) (a b : V) : Two w ((w.alloc (.cells #[.int .i64 a.k, .int .i64 a.n, .string a.s] 33)).alloc (.cells #[.int .i64 b.k, .int .i64 b.n, .string b.s] 33)) a b :=
  ⟨(BoxV.new w a 33).alloc _, by simpa using BoxV.new (w.alloc (.cells #[.int .i64 a.k, .int .i64 a.n, .string a.s] 33)) b 33, by go_grown⟩
theorem Two.below {w W W2 : World} {a b : V} (h : Two w W a b) (hb : Below W.heap.size W W2) : Two w W2 a b :=
  ⟨h.ha.below hb, h.hb.below hb, h.hw.trans (hb.mono h.hw.size)⟩

set_option maxHeartbeats 400000 in
theorem law4 (op : ByteArray) (a b : V) (w : World) (has : a.s.size ≤ maxLen) (hbs : b.s.size ≤ maxLen) :
    Calls Try.prog 4 #[.string op, a.val, b.val] w fun e w' => e = .returned (.bool true) ∧ Below w.heap.size w w' := by
  go_enter Try.func4, Try.ntmps4
  go_wp2_with fail
  refine (awake14 _).mono ?_
  rintro e w1 ⟨rfl, hb1⟩
  have H1 := Lib.hid ((Two.start w a b).below hb1)
  clear hb1
  obtain ⟨⟨a0, a1, a2⟩, ⟨b0, b1, b2⟩, _⟩ := H1.out
  go_wp2_with fail
  refine (compare15 op a b _ has hbs).mono ?_
  generalize hc : cmpR op a b = c
  have HC := Lib.hid hc
  clear hc
  rintro e w2 ⟨rfl, hb2⟩
  have H2 := Lib.hid (H1.out.below hb2)
  clear hb2 H1 a0 a1 a2 b0 b1 b2
  obtain ⟨⟨a0, a1, a2⟩, ⟨b0, b1, b2⟩, _⟩ := H2.out
  go_wp2_with fail
  refine (compare16 op a b _ has hbs).mono ?_
  rw [HC.out]
  rintro e w3 ⟨rfl, hb3⟩
  have H3 := Lib.hid (H2.out.below hb3)
  clear hb3 H2 a0 a1 a2 b0 b1 b2
  obtain ⟨c1, c2⟩ := c
  go_wp2
  all_goals go_ret
  all_goals exact ⟨by simp_all, H3.out.hw⟩
end Go.Proofs.Ytbibchinimhamaa
