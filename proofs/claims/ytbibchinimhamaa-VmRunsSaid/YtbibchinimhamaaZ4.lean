import Derived.Test.YtbibchinimhamaaZ1
namespace Go.Proofs.Ytbibchinimhamaa
open Go.RowKit
set_option maxRecDepth 1000000 in
set_option maxHeartbeats 4000000 in
theorem case_col {w : World} {A : Option Addr} {len cR g n c k : Nat} {a : Act} {X : Option Addr} {xs : List I} {fv : Nat → V} {ft : Nat → Int} {wr : World} {J : Act → World → Prop} {Q : Exit → Act → World → Prop}
    (hF : F32 w A len cR g n k 0 a) (hM : M32 w X xs c n g fv ft wr) (hx : HasI w X xs) (hk : k < xs.length) (hl : xs.length ≤ 1000) (ha : 0 ≤ (ei xs k).a ∧ (ei xs k).a < n) {R : List (List V)} (hb0 : 0 ≤ (ei xs k).b) (hc0 : 0 ≤ (ei xs k).c) (hlen : len = R.length) (hR : HasR w A R) (hl : R.length ≤ maxLen) (hw : wfR R)
    (hop : (ei xs k).op.toList = [99, 111, 108])
    (hJ : ∀ a' w', F32 w A len cR g n (k + 1) (colO R (ei xs k).b (ei xs k).c).2 a' → M32 w X xs c n g (upd fv (ei xs k).a.toNat (colO R (ei xs k).b (ei xs k).c).1) ft w' → J a' w') :
    body32.wp Try.prog (Exit.jump 0 J Q) a wr := by
  have HM := Lib.hid hM
  have HJ := Lib.hid hJ
  obtain ⟨b, o, rfl, hc⟩ := hx (by intro h; subst h; simp at hk)
  have IAT := Lib.hid ((hc k hk).below hM.hb)
  clear hM hc hx hJ
  generalize ei xs k = x at *
  obtain ⟨x0, x1, x2, x3, x4, x5, x6⟩ := IAT.out
  obtain ⟨p0, p1⟩ := HM.out.hp
  have z1 := lt_of_cell x0
  have zr := HM.out.hr.lt
  have i0 : (0 : Int) ≤ (k : Int) := by omega
  have i1 : (k : Int) < (xs.length : Int) := by omega
  have nk : ¬ ((k : Int) = (xs.length : Int)) := by omega
  subst hlen
  have HRR := Lib.hid (hR.below HM.out.hb)
  clear hR
  obtain ⟨ha0, ha1⟩ := ha
  obtain ⟨ra, hra⟩ := Int.eq_ofNat_of_zero_le ha0
  obtain ⟨a0, a1, a2, a3⟩ := HM.out.hr.cells (i := ra) (by omega)
  have HR := Lib.hid (show True from trivial)
  rw [hra] at x1 ha0 ha1
  try rw [hra] at HJ
  simp only [Int.toNat_natCast] at HJ
  have g0 := HM.out.hr.free
  obtain ⟨u, rfl⟩ := hF.lit
  clear hF HR
  conv => arg 2; whnf
  go_wp2_with fail
  refine (column50 A R cR x.b x.c _ (HRR.out.below (by go_grown)) hl hw hb0 hc0).mono ?_
  rintro e w1 ⟨rfl, hb1⟩
  have HM1 := Lib.hid ((HM.out.below (by go_grown : Below wr.heap.size wr (wr.alloc (.cells #[.string x.op, .int .i64 ra, .int .i64 x.b, .int .i64 x.c, .int .i64 x.v.k, .int .i64 x.v.n, .string x.v.s] 55)))).below hb1)
  clear hb1 x0 x1 x2 x3 x4 x5 x6 p0 p1 z1 zr a0 a1 a2 a3 g0
  obtain ⟨a0, a1, a2, a3⟩ := HM1.out.hr.cells (i := ra) (by omega)
  have g0 := HM1.out.hr.free
  have zr := HM1.out.hr.lt
  go_wp2
  go_step3
  simp only [Exit.jump]
  exact ⟨trivial, HJ.out _ _ ⟨rfl, rfl, rfl, rfl, rfl, rfl, rfl, rfl⟩ (HM1.out.setV ra _)⟩
set_option maxRecDepth 1000000 in
set_option maxHeartbeats 4000000 in
theorem case_neg {w : World} {A : Option Addr} {len cR g n c k : Nat} {a : Act} {X : Option Addr} {xs : List I} {fv : Nat → V} {ft : Nat → Int} {wr : World} {J : Act → World → Prop} {Q : Exit → Act → World → Prop}
    (hF : F32 w A len cR g n k 0 a) (hM : M32 w X xs c n g fv ft wr) (hx : HasI w X xs) (hk : k < xs.length) (hl : xs.length ≤ 1000) (ha : 0 ≤ (ei xs k).a ∧ (ei xs k).a < n) (hb : 0 ≤ (ei xs k).b ∧ (ei xs k).b < n) (hwf : ∀ i, i < n → (fv i).wf)
    (hop : (ei xs k).op.toList = [110, 101, 103])
    (hJ : ∀ a' w', F32 w A len cR g n (k + 1) (recR ⟨#[45]⟩ oneV (fv (ei xs k).b.toNat)).2 a' → M32 w X xs c n g (upd fv (ei xs k).a.toNat (recR ⟨#[45]⟩ oneV (fv (ei xs k).b.toNat)).1) ft w' → J a' w') :
    body32.wp Try.prog (Exit.jump 0 J Q) a wr := by
  have HM := Lib.hid hM
  have HJ := Lib.hid hJ
  obtain ⟨b, o, rfl, hc⟩ := hx (by intro h; subst h; simp at hk)
  have IAT := Lib.hid ((hc k hk).below hM.hb)
  clear hM hc hx hJ
  generalize ei xs k = x at *
  obtain ⟨x0, x1, x2, x3, x4, x5, x6⟩ := IAT.out
  obtain ⟨p0, p1⟩ := HM.out.hp
  have z1 := lt_of_cell x0
  have zr := HM.out.hr.lt
  have i0 : (0 : Int) ≤ (k : Int) := by omega
  have i1 : (k : Int) < (xs.length : Int) := by omega
  have nk : ¬ ((k : Int) = (xs.length : Int)) := by omega
  have HW := Lib.hid hwf
  clear hwf
  obtain ⟨ha0, ha1⟩ := ha
  obtain ⟨ra, hra⟩ := Int.eq_ofNat_of_zero_le ha0
  obtain ⟨a0, a1, a2, a3⟩ := HM.out.hr.cells (i := ra) (by omega)
  obtain ⟨hb0, hb1⟩ := hb
  obtain ⟨rb, hrb⟩ := Int.eq_ofNat_of_zero_le hb0
  obtain ⟨b0, b1, b2, b3⟩ := HM.out.hr.cells (i := rb) (by omega)
  have HR := Lib.hid (show True from trivial)
  rw [hra] at x1 ha0 ha1
  try rw [hra] at HJ
  rw [hrb] at x2 hb0 hb1
  try rw [hrb] at HJ
  simp only [Int.toNat_natCast] at HJ
  have g0 := HM.out.hr.free
  obtain ⟨u, rfl⟩ := hF.lit
  clear hF HR
  conv => arg 2; whnf
  go_wp2_with fail
  refine (reckon29 ⟨#[45]⟩ oneV (fv rb) _ ⟨by decide, by decide, Nat.zero_le _⟩ (HW.out rb (by omega))).mono ?_
  rintro e w1 ⟨rfl, hq1⟩
  have HM1 := Lib.hid ((HM.out.below (by go_grown : Below wr.heap.size wr (wr.alloc (.cells #[.string x.op, .int .i64 ra, .int .i64 rb, .int .i64 x.c, .int .i64 x.v.k, .int .i64 x.v.n, .string x.v.s] 55)))).below hq1)
  clear hq1 x0 x1 x2 x3 x4 x5 x6 p0 p1 z1 zr a0 a1 a2 a3 b0 b1 b2 b3 g0
  obtain ⟨a0, a1, a2, a3⟩ := HM1.out.hr.cells (i := ra) (by omega)
  have g0 := HM1.out.hr.free
  have zr := HM1.out.hr.lt
  go_wp2
  go_step3
  simp only [Exit.jump]
  exact ⟨trivial, HJ.out _ _ ⟨rfl, rfl, rfl, rfl, rfl, rfl, rfl, rfl⟩ (HM1.out.setV ra _)⟩
end Go.Proofs.Ytbibchinimhamaa
