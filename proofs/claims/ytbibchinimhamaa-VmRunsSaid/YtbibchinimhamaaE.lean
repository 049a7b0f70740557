/- value.Compare and the reference's Compare. -/
import Derived.Test.YtbibchinimhamaaD
namespace Go.Proofs.Ytbibchinimhamaa
open Go.RowKit

theorem ret_two {k l : IntKind} {a b c d : Int} (h : (a, b) = (c, d)) : Ending.returned (.tuple #[.int k a, .int l b]) = .returned (.tuple #[.int k c, .int l d]) := by
  simp only [Prod.mk.injEq] at h; rw [h.1, h.2]

def t01 (t : Bool) : Int := if t then 1 else 0
theorem t01_true : t01 true = 1 := rfl
theorem t01_false : t01 false = 0 := rfl

def opIs (op : ByteArray) (n : Int) : Option Bool :=
  if op = ⟨#[61]⟩ then some (n == 0) else if op = ⟨#[60, 62]⟩ then some (n != 0) else if op = ⟨#[60]⟩ then some (decide (n < 0)) else if op = ⟨#[60, 61]⟩ then some (decide (n ≤ 0)) else
  if op = ⟨#[62]⟩ then some (decide (0 < n)) else if op = ⟨#[62, 61]⟩ then some (decide (0 ≤ n)) else none
def cmpR (op : ByteArray) (a b : V) : Int × Int :=
  match opIs op (ord a b) with
  | none => (0, 1)
  | some t => if fmd a = false ∨ fmd b = false then (0, 1) else if a.k = 0 ∨ b.k = 0 then (2, 0) else if a.k ≠ b.k then (0, 7) else (t01 t, 0)

set_option maxHeartbeats 400000 in
theorem truth36 (t : Bool) (w : World) : Calls Try.prog 36 #[.bool t] w fun e w' => e = .returned (.int .i64 (t01 t)) ∧ w = w' := by
  go_enter Try.func36, Try.ntmps36
  go_wp2
  all_goals go_ret
  all_goals simp_all [t01]
set_option maxHeartbeats 400000 in
theorem truth37 (t : Bool) (w : World) : Calls Try.prog 37 #[.bool t] w fun e w' => e = .returned (.int .i64 (t01 t)) ∧ w = w' := by
  go_enter Try.func37, Try.ntmps37
  go_wp2
  all_goals go_ret
  all_goals simp_all [t01]

/-- A block that holds a value. -/
def BoxV (w : World) (b : Nat) (v : V) : Prop :=
  w.cell? ⟨b, 0, none⟩ = some (.int .i64 v.k) ∧ w.cell? ⟨b, 1, none⟩ = some (.int .i64 v.n) ∧ w.cell? ⟨b, 2, none⟩ = some (.string v.s)
theorem BoxV.below {w w' : World} {b : Nat} {v : V} (h : BoxV w b v) (hb : Below w.heap.size w w') : BoxV w' b v := by
  have hlt := lt_of_cell h.1
  exact ⟨(hb.cell (p := ⟨b, _, none⟩) hlt).trans h.1, (hb.cell (p := ⟨b, _, none⟩) hlt).trans h.2.1, (hb.cell (p := ⟨b, _, none⟩) hlt).trans h.2.2⟩
theorem BoxV.drew {w : World} {b : Nat} {v : V} (h : BoxV w b v) : BoxV w.drew b v := h
theorem BoxV.alloc {w : World} {b : Nat} {v : V} (h : BoxV w b v) (ob : Obj) : BoxV (w.alloc ob) b v := h.below (by go_grown)
theorem BoxV.new (w : World) (v : V) (t : TypeId) : BoxV (w.alloc (.cells #[.int .i64 v.k, .int .i64 v.n, .string v.s] t)) w.heap.size v := by
  refine ⟨?_, ?_, ?_⟩ <;> go_simp

theorem op_cases (op : ByteArray) : op = ⟨#[61]⟩ ∨ op = ⟨#[60, 62]⟩ ∨ op = ⟨#[60]⟩ ∨ op = ⟨#[60, 61]⟩ ∨ op = ⟨#[62]⟩ ∨ op = ⟨#[62, 61]⟩ ∨
    ((¬ op = ⟨#[61]⟩) ∧ (¬ op = ⟨#[60, 62]⟩) ∧ (¬ op = ⟨#[60]⟩) ∧ (¬ op = ⟨#[60, 61]⟩) ∧ (¬ op = ⟨#[62]⟩) ∧ ¬ op = ⟨#[62, 61]⟩) := by
  by_cases h1 : op = ⟨#[61]⟩
  · exact .inl h1
  by_cases h2 : op = ⟨#[60, 62]⟩
  · exact .inr (.inl h2)
  by_cases h3 : op = ⟨#[60]⟩
  · exact .inr (.inr (.inl h3))
  by_cases h4 : op = ⟨#[60, 61]⟩
  · exact .inr (.inr (.inr (.inl h4)))
  by_cases h5 : op = ⟨#[62]⟩
  · exact .inr (.inr (.inr (.inr (.inl h5))))
  by_cases h6 : op = ⟨#[62, 61]⟩
  · exact .inr (.inr (.inr (.inr (.inr (.inl h6)))))
  exact .inr (.inr (.inr (.inr (.inr (.inr ⟨h1, h2, h3, h4, h5, h6⟩)))))
theorem opIs_none {op : ByteArray} {n : Int} (h : (¬ op = ⟨#[61]⟩) ∧ (¬ op = ⟨#[60, 62]⟩) ∧ (¬ op = ⟨#[60]⟩) ∧ (¬ op = ⟨#[60, 61]⟩) ∧ (¬ op = ⟨#[62]⟩) ∧ ¬ op = ⟨#[62, 61]⟩) : opIs op n = none := by
  unfold opIs
  rw [if_neg h.1, if_neg h.2.1, if_neg h.2.2.1, if_neg h.2.2.2.1, if_neg h.2.2.2.2.1, if_neg h.2.2.2.2.2]

def KnownOp (op : ByteArray) : Prop := op = ⟨#[61]⟩ ∨ op = ⟨#[60, 62]⟩ ∨ op = ⟨#[60]⟩ ∨ op = ⟨#[60, 61]⟩ ∨ op = ⟨#[62]⟩ ∨ op = ⟨#[62, 61]⟩
theorem not_known {op : ByteArray} (h : ¬ KnownOp op) : ((¬ op = ⟨#[61]⟩) ∧ (¬ op = ⟨#[60, 62]⟩) ∧ (¬ op = ⟨#[60]⟩) ∧ (¬ op = ⟨#[60, 61]⟩) ∧ (¬ op = ⟨#[62]⟩) ∧ ¬ op = ⟨#[62, 61]⟩) := by
  unfold KnownOp at h
  simpa using h
def cmpT (op : ByteArray) (n : Int) : Bool := (opIs op n).getD false
theorem opIs_some {op : ByteArray} (h : KnownOp op) (n : Int) : opIs op n = some (cmpT op n) := by
  rcases h with rfl | rfl | rfl | rfl | rfl | rfl <;> rfl
theorem cmpR_arg {op : ByteArray} {a b : V} (h : fmd a = false ∨ fmd b = false) : cmpR op a b = (0, 1) := by
  unfold cmpR
  cases opIs op (ord a b) with
  | none => rfl
  | some t => simp only []; rw [if_pos h]
theorem cmpR_null {op : ByteArray} {a b : V} (ho : KnownOp op) (ha : fmd a = true) (hb : fmd b = true) (h : a.k = 0 ∨ b.k = 0) : cmpR op a b = (2, 0) := by
  unfold cmpR
  rw [opIs_some ho]
  simp only []
  rw [if_neg (by rw [ha, hb]; simp), if_pos h]
theorem cmpR_type {op : ByteArray} {a b : V} (ho : KnownOp op) (ha : fmd a = true) (hb : fmd b = true) (h0 : ¬ a.k = 0) (h1 : ¬ b.k = 0) (h : ¬ a.k = b.k) : cmpR op a b = (0, 7) := by
  unfold cmpR
  rw [opIs_some ho]
  simp only []
  rw [if_neg (by rw [ha, hb]; simp), if_neg (by simp [h0, h1]), if_pos h]
theorem cmpR_is {op : ByteArray} {a b : V} (ho : KnownOp op) (ha : fmd a = true) (hb : fmd b = true) (h0 : ¬ a.k = 0) (h1 : ¬ b.k = 0) (h : a.k = b.k) : cmpR op a b = (t01 (cmpT op (ord a b)), 0) := by
  unfold cmpR
  rw [opIs_some ho]
  simp only []
  rw [if_neg (by rw [ha, hb]; simp), if_neg (by simp [h0, h1]), if_neg (by simp [h])]

set_option maxHeartbeats 1000000 in
theorem compare15_known (op : ByteArray) (ho : KnownOp op) (a b : V) (w : World) (has : a.s.size ≤ maxLen) (hbs : b.s.size ≤ maxLen) :
    Calls Try.prog 15 #[.string op, a.val, b.val] w fun e w' => e = .returned (.tuple #[.int .i64 (cmpR op a b).1, .int .i64 (cmpR op a b).2]) ∧ Below w.heap.size w w' := by
  have HO := Lib.hid ho
  go_enter Try.func15, Try.ntmps15
  go_wp2_with fail
  refine (order17 a b _).mono ?_
  rintro e w1 ⟨rfl, hb1⟩
  have HA := Lib.hid (((BoxV.new w a 33).alloc (.cells #[.int .i64 b.k, .int .i64 b.n, .string b.s] 33)).below hb1)
  have HB := Lib.hid ((BoxV.new (w.alloc (.cells #[.int .i64 a.k, .int .i64 a.n, .string a.s] 33)) b 33).below hb1)
  have HW := Lib.hid (Below.trans (by go_grown : Below w.heap.size w ((w.alloc (.cells #[.int .i64 a.k, .int .i64 a.n, .string a.s] 33)).alloc (.cells #[.int .i64 b.k, .int .i64 b.n, .string b.s] 33))) (hb1.mono (by simp; omega)))
  simp only [World.size_alloc] at HB
  clear hb1
  obtain ⟨a0, a1, a2⟩ := HA.out
  obtain ⟨b0, b1, b2⟩ := HB.out
  rcases ho with rfl | rfl | rfl | rfl | rfl | rfl
  all_goals
    go_wp2_with fail
    refine (formed19 a _ has).mono ?_
    rintro e w2 ⟨rfl, hb2⟩
    have HA2 := Lib.hid (HA.out.below hb2)
    have HB2 := Lib.hid (HB.out.below hb2)
    have HW2 := Lib.hid (HW.out.trans (hb2.mono HW.out.size))
    clear hb2 HA HB HW a0 a1 a2 b0 b1 b2
    obtain ⟨a0, a1, a2⟩ := HA2.out
    obtain ⟨b0, b1, b2⟩ := HB2.out
    cases hfa : fmd a with
    | false =>
      go_wp2
      go_ret2
      exact ⟨by rw [cmpR_arg (.inl hfa)]; rfl, HW2.out⟩
    | true =>
      go_wp2_with fail
      refine (formed19 b _ hbs).mono ?_
      rintro e w3 ⟨rfl, hb3⟩
      have HA3 := Lib.hid (HA2.out.below hb3)
      have HB3 := Lib.hid (HB2.out.below hb3)
      have HW3 := Lib.hid (HW2.out.trans (hb3.mono HW2.out.size))
      clear hb3 HA2 HB2 HW2 a0 a1 a2 b0 b1 b2
      obtain ⟨a0, a1, a2⟩ := HA3.out
      obtain ⟨b0, b1, b2⟩ := HB3.out
      cases hfb : fmd b with
      | false =>
        go_wp2
        go_ret2
        exact ⟨by rw [cmpR_arg (.inr hfb)]; rfl, HW3.out⟩
      | true =>
        go_wp2_with (go_at_call 36; refine (truth36 _ _).mono ?_; rintro e w' ⟨rfl, rfl⟩)
        all_goals go_ret2
        all_goals refine ⟨?_, HW3.out⟩
        all_goals first
          | (rw [cmpR_null HO.out hfa hfb (by simp_all)]; rfl)
          | (rw [cmpR_type HO.out hfa hfb (by simp_all) (by simp_all) (by simp_all)]; rfl)
          | (rw [cmpR_is HO.out hfa hfb (by simp_all) (by simp_all) (by simp_all)]; rfl)
end Go.Proofs.Ytbibchinimhamaa
