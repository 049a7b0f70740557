/- value.Reckon and the reference's Reckon. -/
import Derived.Test.YtbibchinimhamaaJ
namespace Go.Proofs.Ytbibchinimhamaa
open Go.RowKit

def zV : V := ⟨0, 0, ⟨#[]⟩⟩
def recZ (op : ByteArray) (x y : Int) : Option Int := if op = ⟨#[43]⟩ then some (x + y) else if op = ⟨#[45]⟩ then some (x - y) else if op = ⟨#[42]⟩ then some (x * y) else none
def recR (op : ByteArray) (a b : V) : V × Int :=
  match recZ op a.n b.n with
  | none => (zV, 1)
  | some z => if fmd a = false ∨ fmd b = false then (zV, 1) else if a.k = 2 ∨ b.k = 2 then (zV, 7) else if a.k = 0 ∨ b.k = 0 then (zV, 0) else if I64 z then (⟨1, z, ⟨#[]⟩⟩, 0) else (zV, 13)

/-- A block of the call's own that holds one value and may be written. -/
def Own (w : World) (g : Nat) (v : V) : Prop := w.heap[g]? = some (.cells #[.int .i64 v.k, .int .i64 v.n, .string v.s] 33 (0, 0))
theorem Own.lt {w : World} {g : Nat} {v : V} (h : Own w g v) : g < w.heap.size := by
  rcases Nat.lt_or_ge g w.heap.size with hlt | hge
  · exact hlt
  · unfold Own at h; rw [Array.getElem?_eq_none hge] at h; cases h
theorem Own.box {w : World} {g : Nat} {v : V} (h : Own w g v) : BoxV w g v := by
  unfold Own at h
  refine ⟨?_, ?_, ?_⟩ <;> simp [World.cell?, h]
theorem Own.free {w : World} {g : Nat} {v : V} (h : Own w g v) (i : Nat) : w.frozen? ⟨g, i, none⟩ = false := by
  unfold Own at h
  simp [World.frozen?, h]
theorem Own.drewB {w : World} {g : Nat} {v : V} (h : Own w g v) : Own w.drew g v := h
theorem Own.below {w w' : World} {g : Nat} {v : V} (h : Own w g v) (hb : Below w.heap.size w w') : Own w' g v := (hb.block g h.lt).trans h
theorem Own.new (w : World) (v : V) : Own (w.alloc (.cells #[.int .i64 v.k, .int .i64 v.n, .string v.s] 33)) w.heap.size v := heap_alloc_new w _

/-- Two boxes, and the block of the result. -/
structure Three (w W : World) (a b : V) : Prop where
  ha : BoxV W w.heap.size a
  hb : BoxV W (w.heap.size + 1) b
  hr : Own W (w.heap.size + 1 + 1) zV
  hw : Below w.heap.size w W
theorem Three.start (w : World) (a b : V) : Three w (((w.alloc (.cells #[.int .i64 a.k, .int .i64 a.n, .string a.s] 33)).alloc (.cells #[.int .i64 b.k, .int .i64 b.n, .string b.s] 33)).alloc (.cells #[.int .i64 0, .int .i64 0, .string ⟨#[]⟩] 33)) a b :=
  ⟨(Two.start w a b).ha.alloc _, (Two.start w a b).hb.alloc _, by simpa [zV] using Own.new ((w.alloc (.cells #[.int .i64 a.k, .int .i64 a.n, .string a.s] 33)).alloc (.cells #[.int .i64 b.k, .int .i64 b.n, .string b.s] 33)) zV, by go_grown⟩
theorem Three.below {w W W2 : World} {a b : V} (h : Three w W a b) (hb : Below W.heap.size W W2) : Three w W2 a b :=
  ⟨h.ha.below hb, h.hb.below hb, h.hr.below hb, h.hw.trans (hb.mono h.hw.size)⟩

theorem recZ_plus (x y : Int) : recZ ⟨#[43]⟩ x y = some (x + y) := rfl
theorem recZ_minus (x y : Int) : recZ ⟨#[45]⟩ x y = some (x - y) := rfl
theorem recZ_times (x y : Int) : recZ ⟨#[42]⟩ x y = some (x * y) := rfl
section
variable {op : ByteArray} {a b : V} {z : Int} (hz : recZ op a.n b.n = some z)
include hz
theorem recR_arg (h : fmd a = false ∨ fmd b = false) : recR op a b = (zV, 1) := by unfold recR; rw [hz]; simp only []; rw [if_pos h]
theorem recR_text (ha : fmd a = true) (hb : fmd b = true) (h : a.k = 2 ∨ b.k = 2) : recR op a b = (zV, 7) := by
  unfold recR; rw [hz]; simp only []; rw [if_neg (by rw [ha, hb]; simp), if_pos h]
theorem recR_null (ha : fmd a = true) (hb : fmd b = true) (h0 : ¬ (a.k = 2 ∨ b.k = 2)) (h : a.k = 0 ∨ b.k = 0) : recR op a b = (zV, 0) := by
  unfold recR; rw [hz]; simp only []; rw [if_neg (by rw [ha, hb]; simp), if_neg h0, if_pos h]
theorem recR_yes (ha : fmd a = true) (hb : fmd b = true) (h0 : ¬ (a.k = 2 ∨ b.k = 2)) (h1 : ¬ (a.k = 0 ∨ b.k = 0)) (h : fits z = true) : recR op a b = (⟨1, z, ⟨#[]⟩⟩, 0) := by
  unfold recR; rw [hz]; simp only []; rw [if_neg (by rw [ha, hb]; simp), if_neg h0, if_neg h1, if_pos (of_decide_eq_true h)]
theorem recR_no (ha : fmd a = true) (hb : fmd b = true) (h0 : ¬ (a.k = 2 ∨ b.k = 2)) (h1 : ¬ (a.k = 0 ∨ b.k = 0)) (h : fits z = false) : recR op a b = (zV, 13) := by
  unfold recR; rw [hz]; simp only []; rw [if_neg (by rw [ha, hb]; simp), if_neg h0, if_neg h1, if_neg (of_decide_eq_false h)]
end
theorem plus_test {x y : Int} (hx : I64 x) (hy : I64 y) : (decide (wrap64 (x + y) < x) == decide (y < 0)) = fits (x + y) := by
  unfold fits
  rw [Bool.eq_iff_iff]
  simp only [beq_iff_eq, decide_eq_true_eq, decide_eq_decide]
  unfold I64 wrap64 at *
  omega
theorem minus_test {x y : Int} (hx : I64 x) (hy : I64 y) : (decide (x < wrap64 (x - y)) == decide (y < 0)) = fits (x - y) := by
  unfold fits
  rw [Bool.eq_iff_iff]
  simp only [beq_iff_eq, decide_eq_true_eq, decide_eq_decide]
  unfold I64 wrap64 at *
  omega

theorem below3 {B g : Nat} {w U : World} (h : Below B w U) (hg : B ≤ g) (x y z : Value) : Below B w (((U.setCell ⟨g, 0, none⟩ x).setCell ⟨g, 1, none⟩ y).setCell ⟨g, 2, none⟩ z) :=
  ((h.setCell (p := ⟨g, 0, none⟩) hg x).setCell (p := ⟨g, 1, none⟩) hg y).setCell (p := ⟨g, 2, none⟩) hg z

def KnownAr (op : ByteArray) : Prop := op = ⟨#[43]⟩ ∨ op = ⟨#[45]⟩ ∨ op = ⟨#[42]⟩

set_option maxHeartbeats 2000000 in
theorem reckon29_known (op : ByteArray) (ho : KnownAr op) (a b : V) (w : World) (ha : a.wf) (hb : b.wf) :
    Calls Try.prog 29 #[.string op, a.val, b.val] w fun e w' => e = .returned (.tuple #[(recR op a b).1.val, .int .i64 (recR op a b).2]) ∧ Below w.heap.size w w' := by
  have hp := plus_test (wf_I64 ha.2.1) (wf_I64 hb.2.1)
  have hm := minus_test (wf_I64 ha.2.1) (wf_I64 hb.2.1)
  have HA := Lib.hid (wf_I64 ha.2.1)
  have HB := Lib.hid (wf_I64 hb.2.1)
  have has := ha.2.2
  have hbs := hb.2.2
  clear ha hb
  obtain ⟨z, hz, hzz⟩ : ∃ z, recZ op a.n b.n = some z ∧ True := by rcases ho with rfl | rfl | rfl <;> exact ⟨_, rfl, trivial⟩
  have HZ := Lib.hid hz
  clear hz hzz
  have H0 := Lib.hid (Three.start w a b)
  rcases ho with rfl | rfl | rfl
  all_goals
    obtain rfl := Option.some.inj HZ.out
    go_enter Try.func29, Try.ntmps29
    go_wp2_with (go_at_call 46; refine (product46 _ _ _ HA.out HB.out).mono ?_; rintro e w1 ⟨rfl, hb1⟩; have H1 := Lib.hid (H0.out.below hb1); clear hb1 H0; have H0 := H1; clear H1; obtain ⟨a0, a1, a2⟩ := H0.out.ha; obtain ⟨b0, b1, b2⟩ := H0.out.hb)
    refine (formed19 a _ has).mono ?_
    rintro e w2 ⟨rfl, hb2⟩
    have H2 := Lib.hid (H0.out.below hb2)
    try clear a0 a1 a2 b0 b1 b2
    clear hb2 H0
    obtain ⟨a0, a1, a2⟩ := H2.out.ha
    obtain ⟨b0, b1, b2⟩ := H2.out.hb
    obtain ⟨r0, r1, r2⟩ := H2.out.hr.box
    have f0 := H2.out.hr.free 0
    have f1 := H2.out.hr.free 1
    have f2 := H2.out.hr.free 2
    cases hfa : fmd a with
    | false =>
      go_wp2
      refine bodyPost_ret (v := .tuple #[V.val zV, .int .i64 1]) (by simp [results, Try.results29, go_sem, zV, r0, r1, r2]) rfl ⟨by rw [recR_arg HZ.out (.inl hfa)], ?_⟩
      exact below3 H2.out.hw (by omega) _ _ _
    | true =>
      go_wp2_with fail
      refine (formed19 b _ hbs).mono ?_
      rintro e w3 ⟨rfl, hb3⟩
      have H3 := Lib.hid (H2.out.below hb3)
      clear hb3 H2 a0 a1 a2 b0 b1 b2 r0 r1 r2 f0 f1 f2
      obtain ⟨a0, a1, a2⟩ := H3.out.ha
      obtain ⟨b0, b1, b2⟩ := H3.out.hb
      obtain ⟨r0, r1, r2⟩ := H3.out.hr.box
      have f0 := H3.out.hr.free 0
      have f1 := H3.out.hr.free 1
      have f2 := H3.out.hr.free 2
      cases hfb : fmd b with
      | false =>
        go_wp2
        refine bodyPost_ret (v := .tuple #[V.val zV, .int .i64 1]) (by simp [results, Try.results29, go_sem, zV, r0, r1, r2]) rfl ⟨by rw [recR_arg HZ.out (.inr hfb)], ?_⟩
        exact below3 H3.out.hw (by omega) _ _ _
      | true =>
        go_wp2
        · refine bodyPost_ret (v := .tuple #[V.val zV, .int .i64 7]) (by simp [results, Try.results29, go_sem, zV, r0, r1, r2]) rfl ⟨by rw [recR_text HZ.out hfa hfb (by simp_all)], ?_⟩
          exact below3 H3.out.hw (by omega) _ _ _
        · refine bodyPost_ret (v := .tuple #[V.val zV, .int .i64 7]) (by simp [results, Try.results29, go_sem, zV, r0, r1, r2]) rfl ⟨by rw [recR_text HZ.out hfa hfb (by simp_all)], ?_⟩
          exact below3 H3.out.hw (by omega) _ _ _
        · refine bodyPost_ret (v := .tuple #[V.val zV, .int .i64 0]) (by simp [results, Try.results29, go_sem, zV, r0, r1, r2]) rfl ⟨by rw [recR_null HZ.out hfa hfb (by simp_all) (by simp_all)], ?_⟩
          exact below3 H3.out.hw (by omega) _ _ _
        · refine bodyPost_ret (v := .tuple #[V.val zV, .int .i64 0]) (by simp [results, Try.results29, go_sem, zV, r0, r1, r2]) rfl ⟨by rw [recR_null HZ.out hfa hfb (by simp_all) (by simp_all)], ?_⟩
          exact below3 H3.out.hw (by omega) _ _ _
        · refine bodyPost_ret (v := .tuple #[V.val zV, .int .i64 13]) (by simp [results, Try.results29, go_sem, zV, r0, r1, r2]) rfl ⟨by rw [recR_no HZ.out hfa hfb (by simp_all) (by simp_all) (by simp_all)], ?_⟩
          exact below3 H3.out.hw (by omega) _ _ _
        · have hy := HZ.out
          refine bodyPost_ret (v := .tuple #[V.val ⟨1, wrap64 _, ⟨#[]⟩⟩, .int .i64 0]) (by simp [results, Try.results29, go_sem, r0, r1, r2]; rfl) rfl ⟨by rw [recR_yes HZ.out hfa hfb (by simp_all) (by simp_all) (by simp_all), wrap_fits (of_decide_eq_true (by simp_all [fits]))], ?_⟩
          exact below3 H3.out.hw (by omega) _ _ _
end Go.Proofs.Ytbibchinimhamaa
