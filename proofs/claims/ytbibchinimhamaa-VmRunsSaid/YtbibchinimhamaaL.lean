/- The reference's Reckon; Reckon at an unknown sign. -/
import Derived.Test.YtbibchinimhamaaK
namespace Go.Proofs.Ytbibchinimhamaa
open Go.RowKit

theorem not_knownAr {op : ByteArray} (h : ¬ KnownAr op) : (op.toList == [43]) = false ∧ (op.toList == [45]) = false ∧ (op.toList == [42]) = false := by
  unfold KnownAr at h
  simp only [not_or] at h
  exact ⟨ne_lit [43] h.1, ne_lit [45] h.2.1, ne_lit [42] h.2.2⟩
theorem recR_none {op : ByteArray} {a b : V} (h : ¬ KnownAr op) : recR op a b = (zV, 1) := by
  have h2 : recZ op a.n b.n = none := by
    unfold KnownAr at h
    simp only [not_or] at h
    unfold recZ
    rw [if_neg h.1, if_neg h.2.1, if_neg h.2.2]
  unfold recR; rw [h2]

theorem okN_is {z : Int} (h : I64 z) : okN z = z := by unfold okN; rw [if_pos h]

set_option maxHeartbeats 1000000 in
theorem reckon29_none (op : ByteArray) (ho : ¬ KnownAr op) (a b : V) (w : World) :
    Calls Try.prog 29 #[.string op, a.val, b.val] w fun e w' => e = .returned (.tuple #[(recR op a b).1.val, .int .i64 (recR op a b).2]) ∧ Below w.heap.size w w' := by
  have HO := Lib.hid ho
  obtain ⟨m1, m2, m3⟩ := not_knownAr ho
  clear ho
  have H0 := Lib.hid (Three.start w a b)
  go_enter Try.func29, Try.ntmps29
  go_wp2
  refine bodyPost_ret (v := .tuple #[V.val zV, .int .i64 1]) (by simp [results, Try.results29, go_sem, zV]) rfl ⟨by rw [recR_none HO.out], ?_⟩
  go_grown

set_option maxHeartbeats 1000000 in
theorem reckon30_none (op : ByteArray) (ho : ¬ KnownAr op) (a b : V) (w : World) :
    Calls Try.prog 30 #[.string op, a.val, b.val] w fun e w' => e = .returned (.tuple #[(recR op a b).1.val, .int .i64 (recR op a b).2]) ∧ Below w.heap.size w w' := by
  have HO := Lib.hid ho
  obtain ⟨m1, m2, m3⟩ := not_knownAr ho
  clear ho
  go_enter Try.func30, Try.ntmps30
  go_wp2
  refine bodyPost_ret (v := .tuple #[V.val zV, .int .i64 1]) (by simp [results, Try.results30, go_sem, zV]) rfl ⟨by rw [recR_none HO.out], ?_⟩
  go_grown

set_option maxHeartbeats 2000000 in
theorem reckon30_known (op : ByteArray) (ho : KnownAr op) (a b : V) (w : World) (ha : a.wf) (hb : b.wf) :
    Calls Try.prog 30 #[.string op, a.val, b.val] w fun e w' => e = .returned (.tuple #[(recR op a b).1.val, .int .i64 (recR op a b).2]) ∧ Below w.heap.size w w' := by
  have HA := Lib.hid (wf_I64 ha.2.1)
  have HB := Lib.hid (wf_I64 hb.2.1)
  have has := ha.2.2
  have hbs := hb.2.2
  clear ha hb
  obtain ⟨z, hz, hzz⟩ : ∃ z, recZ op a.n b.n = some z ∧ True := by rcases ho with rfl | rfl | rfl <;> exact ⟨_, rfl, trivial⟩
  have HZ := Lib.hid hz
  clear hz hzz
  have H0 := Lib.hid (Three.start w a b)
  rcases ho with rfl | rfl | rfl
  all_goals
    obtain rfl := Option.some.inj HZ.out
    go_enter Try.func30, Try.ntmps30
    go_wp2_with fail
    refine (formed20 a _ has).mono ?_
    rintro e w2 ⟨rfl, hb2⟩
    have H2 := Lib.hid (H0.out.below hb2)
    clear hb2 H0
    obtain ⟨a0, a1, a2⟩ := H2.out.ha
    obtain ⟨b0, b1, b2⟩ := H2.out.hb
    obtain ⟨r0, r1, r2⟩ := H2.out.hr.box
    have f0 := H2.out.hr.free 0
    have f1 := H2.out.hr.free 1
    have f2 := H2.out.hr.free 2
    cases hfa : fmd a with
    | false =>
      go_wp2
      refine bodyPost_ret (v := .tuple #[V.val zV, .int .i64 1]) (by simp [results, Try.results30, go_sem, zV, r0, r1, r2]) rfl ⟨by rw [recR_arg HZ.out (.inl hfa)], ?_⟩
      exact below3 H2.out.hw (by omega) _ _ _
    | true =>
      go_wp2_with fail
      refine (formed20 b _ hbs).mono ?_
      rintro e w3 ⟨rfl, hb3⟩
      have H3 := Lib.hid (H2.out.below hb3)
      clear hb3 H2 a0 a1 a2 b0 b1 b2 r0 r1 r2 f0 f1 f2
      obtain ⟨a0, a1, a2⟩ := H3.out.ha
      obtain ⟨b0, b1, b2⟩ := H3.out.hb
      obtain ⟨r0, r1, r2⟩ := H3.out.hr.box
      have f0 := H3.out.hr.free 0
      have f1 := H3.out.hr.free 1
      have f2 := H3.out.hr.free 2
      cases hfb : fmd b with
      | false =>
        go_wp2
        refine bodyPost_ret (v := .tuple #[V.val zV, .int .i64 1]) (by simp [results, Try.results30, go_sem, zV, r0, r1, r2]) rfl ⟨by rw [recR_arg HZ.out (.inr hfb)], ?_⟩
        exact below3 H3.out.hw (by omega) _ _ _
      | true =>
        go_wp2_with (first
          | (go_at_call 47; refine (plus47 _ _ _ HA.out HB.out).mono ?_; rintro e w4 ⟨rfl, rfl⟩)
          | (go_at_call 48; refine (minus48 _ _ _ HA.out HB.out).mono ?_; rintro e w4 ⟨rfl, rfl⟩)
          | (go_at_call 49; refine (times49 _ _ _ HA.out HB.out).mono ?_; rintro e w4 ⟨rfl, hb4⟩; have H4 := Lib.hid (H3.out.below hb4); clear hb4 H3 a0 a1 a2 b0 b1 b2 r0 r1 r2 f0 f1 f2; have H3 := H4; clear H4; obtain ⟨r0, r1, r2⟩ := H3.out.hr.box; have f0 := H3.out.hr.free 0; have f1 := H3.out.hr.free 1; have f2 := H3.out.hr.free 2))
        · refine bodyPost_ret (v := .tuple #[V.val zV, .int .i64 7]) (by simp [results, Try.results30, go_sem, zV, r0, r1, r2]) rfl ⟨by rw [recR_text HZ.out hfa hfb (by simp_all)], ?_⟩
          exact below3 H3.out.hw (by omega) _ _ _
        · refine bodyPost_ret (v := .tuple #[V.val zV, .int .i64 7]) (by simp [results, Try.results30, go_sem, zV, r0, r1, r2]) rfl ⟨by rw [recR_text HZ.out hfa hfb (by simp_all)], ?_⟩
          exact below3 H3.out.hw (by omega) _ _ _
        · refine bodyPost_ret (v := .tuple #[V.val zV, .int .i64 0]) (by simp [results, Try.results30, go_sem, zV, r0, r1, r2]) rfl ⟨by rw [recR_null HZ.out hfa hfb (by simp_all) (by simp_all)], ?_⟩
          exact below3 H3.out.hw (by omega) _ _ _
        · refine bodyPost_ret (v := .tuple #[V.val zV, .int .i64 0]) (by simp [results, Try.results30, go_sem, zV, r0, r1, r2]) rfl ⟨by rw [recR_null HZ.out hfa hfb (by simp_all) (by simp_all)], ?_⟩
          exact below3 H3.out.hw (by omega) _ _ _
        · refine bodyPost_ret (v := .tuple #[V.val zV, .int .i64 13]) (by simp [results, Try.results30, go_sem, zV, r0, r1, r2]) rfl ⟨by rw [recR_no HZ.out hfa hfb (by simp_all) (by simp_all) (by simp_all)], ?_⟩
          exact below3 H3.out.hw (by omega) _ _ _
        · refine bodyPost_ret (v := .tuple #[V.val ⟨1, _, ⟨#[]⟩⟩, .int .i64 0]) (by simp [results, Try.results30, go_sem, r0, r1, r2]; rfl) rfl ⟨?_, ?_⟩
          · rw [recR_yes HZ.out hfa hfb (by simp_all) (by simp_all) (by simp_all)]
            first
              | rw [okN_is (of_decide_eq_true (by simp_all [fits]))]
              | rw [timesN_fits (of_decide_eq_true (by simp_all [fits]))]
          · exact below3 H3.out.hw (by omega) _ _ _

theorem reckon29 (op : ByteArray) (a b : V) (w : World) (ha : a.wf) (hb : b.wf) :
    Calls Try.prog 29 #[.string op, a.val, b.val] w fun e w' => e = .returned (.tuple #[(recR op a b).1.val, .int .i64 (recR op a b).2]) ∧ Below w.heap.size w w' := by
  by_cases ho : KnownAr op
  · exact reckon29_known op ho a b w ha hb
  · exact reckon29_none op ho a b w
theorem reckon30 (op : ByteArray) (a b : V) (w : World) (ha : a.wf) (hb : b.wf) :
    Calls Try.prog 30 #[.string op, a.val, b.val] w fun e w' => e = .returned (.tuple #[(recR op a b).1.val, .int .i64 (recR op a b).2]) ∧ Below w.heap.size w w' := by
  by_cases ho : KnownAr op
  · exact reckon30_known op ho a b w ha hb
  · exact reckon30_none op ho a b w

end Go.Proofs.Ytbibchinimhamaa
