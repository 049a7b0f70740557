import Derived.Test.YtbibchinimhamaaZ1
namespace Go.Proofs.Ytbibchinimhamaa
set_option linter.unusedVariables false
set_option linter.unusedSimpArgs false
open Go.RowKit
set_option maxRecDepth 1000000 in
set_option maxHeartbeats 4000000 in
theorem case_const {w : World} {A : Option Addr} {len cR g n c k : Nat} {a : Act} {X : Option Addr} {xs : List I} {fv : Nat → V} {ft : Nat → Int} {wr : World} {J : Act → World → Prop} {Q : Exit → Act → World → Prop}
    (hF : F32 w A len cR g n k 0 a) (hM : M32 w X xs c n g fv ft wr) (hx : HasI w X xs) (hk : k < xs.length) (hl : xs.length ≤ 1000) (ha : 0 ≤ (ei xs k).a ∧ (ei xs k).a < n)
    (hop : (ei xs k).op.toList = [99, 111, 110, 115, 116])
    (hJ : ∀ a' w', F32 w A len cR g n (k + 1) 0 a' → M32 w X xs c n g (upd fv (ei xs k).a.toNat (ei xs k).v) ft w' → J a' w') :
    body32.wp Try.prog (Exit.jump 0 J Q) a wr := by
  have HM := Lib.hid hM
  have HJ := Lib.hid hJ
  obtain ⟨b, o, rfl, hc⟩ := hx (by intro h; subst h; simp at hk)
  have IAT := Lib.hid ((hc k hk).below hM.hb)
  clear hM hc hx hJ
  generalize ei xs k = x at *
  obtain ⟨x0, x1, x2, x3, x4, x5, x6⟩ := IAT.out
  obtain ⟨p0, p1⟩ := HM.out.hp
  have z1 := lt_of_cell x0
  have zr := HM.out.hr.lt
  have i0 : (0 : Int) ≤ (k : Int) := by omega
  have i1 : (k : Int) < (xs.length : Int) := by omega
  have nk : ¬ ((k : Int) = (xs.length : Int)) := by omega
  obtain ⟨ha0, ha1⟩ := ha
  obtain ⟨ra, hra⟩ := Int.eq_ofNat_of_zero_le ha0
  obtain ⟨a0, a1, a2, a3⟩ := HM.out.hr.cells (i := ra) (by omega)
  have HR := Lib.hid (show True from trivial)
  rw [hra] at x1 ha0 ha1
  try rw [hra] at HJ
  simp only [Int.toNat_natCast] at HJ
  have g0 := HM.out.hr.free
  obtain ⟨u, rfl⟩ := hF.lit
  clear hF HR
  conv => arg 2; whnf
  go_wp2
  go_step3
  simp only [Exit.jump]
  exact ⟨trivial, HJ.out _ _ ⟨rfl, rfl, rfl, rfl, rfl, rfl, rfl, rfl⟩ ((HM.out.setV ra x.v).below (by go_grown))⟩
set_option maxRecDepth 1000000 in
set_option maxHeartbeats 4000000 in
theorem case_null {w : World} {A : Option Addr} {len cR g n c k : Nat} {a : Act} {X : Option Addr} {xs : List I} {fv : Nat → V} {ft : Nat → Int} {wr : World} {J : Act → World → Prop} {Q : Exit → Act → World → Prop}
    (hF : F32 w A len cR g n k 0 a) (hM : M32 w X xs c n g fv ft wr) (hx : HasI w X xs) (hk : k < xs.length) (hl : xs.length ≤ 1000) (ha : 0 ≤ (ei xs k).a ∧ (ei xs k).a < n) (hb : 0 ≤ (ei xs k).b ∧ (ei xs k).b < n)
    (hop : (ei xs k).op.toList = [110, 117, 108, 108])
    (hJ : ∀ a' w', F32 w A len cR g n (k + 1) 0 a' → M32 w X xs c n g fv (upd ft (ei xs k).a.toNat (t01 ((fv (ei xs k).b.toNat).k == 0))) w' → J a' w') :
    body32.wp Try.prog (Exit.jump 0 J Q) a wr := by
  have HM := Lib.hid hM
  have HJ := Lib.hid hJ
  obtain ⟨b, o, rfl, hc⟩ := hx (by intro h; subst h; simp at hk)
  have IAT := Lib.hid ((hc k hk).below hM.hb)
  clear hM hc hx hJ
  generalize ei xs k = x at *
  obtain ⟨x0, x1, x2, x3, x4, x5, x6⟩ := IAT.out
  obtain ⟨p0, p1⟩ := HM.out.hp
  have z1 := lt_of_cell x0
  have zr := HM.out.hr.lt
  have i0 : (0 : Int) ≤ (k : Int) := by omega
  have i1 : (k : Int) < (xs.length : Int) := by omega
  have nk : ¬ ((k : Int) = (xs.length : Int)) := by omega
  obtain ⟨ha0, ha1⟩ := ha
  obtain ⟨ra, hra⟩ := Int.eq_ofNat_of_zero_le ha0
  obtain ⟨a0, a1, a2, a3⟩ := HM.out.hr.cells (i := ra) (by omega)
  obtain ⟨hb0, hb1⟩ := hb
  obtain ⟨rb, hrb⟩ := Int.eq_ofNat_of_zero_le hb0
  obtain ⟨b0, b1, b2, b3⟩ := HM.out.hr.cells (i := rb) (by omega)
  have HR := Lib.hid (show True from trivial)
  rw [hra] at x1 ha0 ha1
  try rw [hra] at HJ
  rw [hrb] at x2 hb0 hb1
  try rw [hrb] at HJ
  simp only [Int.toNat_natCast] at HJ
  have g0 := HM.out.hr.free
  obtain ⟨u, rfl⟩ := hF.lit
  clear hF HR
  conv => arg 2; whnf
  go_wp2_with (go_at_call 51; refine (truth51 _ _).mono ?_; rintro e w1 ⟨rfl, rfl⟩)
  go_step3
  simp only [Exit.jump]
  exact ⟨trivial, HJ.out _ _ ⟨rfl, rfl, rfl, rfl, rfl, rfl, rfl, rfl⟩ ((HM.out.setT ra _).below (by go_grown))⟩
set_option maxRecDepth 1000000 in
set_option maxHeartbeats 4000000 in
theorem case_some {w : World} {A : Option Addr} {len cR g n c k : Nat} {a : Act} {X : Option Addr} {xs : List I} {fv : Nat → V} {ft : Nat → Int} {wr : World} {J : Act → World → Prop} {Q : Exit → Act → World → Prop}
    (hF : F32 w A len cR g n k 0 a) (hM : M32 w X xs c n g fv ft wr) (hx : HasI w X xs) (hk : k < xs.length) (hl : xs.length ≤ 1000) (ha : 0 ≤ (ei xs k).a ∧ (ei xs k).a < n) (hb : 0 ≤ (ei xs k).b ∧ (ei xs k).b < n)
    (hop : (ei xs k).op.toList = [115, 111, 109, 101])
    (hJ : ∀ a' w', F32 w A len cR g n (k + 1) 0 a' → M32 w X xs c n g fv (upd ft (ei xs k).a.toNat (t01 ((fv (ei xs k).b.toNat).k != 0))) w' → J a' w') :
    body32.wp Try.prog (Exit.jump 0 J Q) a wr := by
  have HM := Lib.hid hM
  have HJ := Lib.hid hJ
  obtain ⟨b, o, rfl, hc⟩ := hx (by intro h; subst h; simp at hk)
  have IAT := Lib.hid ((hc k hk).below hM.hb)
  clear hM hc hx hJ
  generalize ei xs k = x at *
  obtain ⟨x0, x1, x2, x3, x4, x5, x6⟩ := IAT.out
  obtain ⟨p0, p1⟩ := HM.out.hp
  have z1 := lt_of_cell x0
  have zr := HM.out.hr.lt
  have i0 : (0 : Int) ≤ (k : Int) := by omega
  have i1 : (k : Int) < (xs.length : Int) := by omega
  have nk : ¬ ((k : Int) = (xs.length : Int)) := by omega
  obtain ⟨ha0, ha1⟩ := ha
  obtain ⟨ra, hra⟩ := Int.eq_ofNat_of_zero_le ha0
  obtain ⟨a0, a1, a2, a3⟩ := HM.out.hr.cells (i := ra) (by omega)
  obtain ⟨hb0, hb1⟩ := hb
  obtain ⟨rb, hrb⟩ := Int.eq_ofNat_of_zero_le hb0
  obtain ⟨b0, b1, b2, b3⟩ := HM.out.hr.cells (i := rb) (by omega)
  have HR := Lib.hid (show True from trivial)
  rw [hra] at x1 ha0 ha1
  try rw [hra] at HJ
  rw [hrb] at x2 hb0 hb1
  try rw [hrb] at HJ
  simp only [Int.toNat_natCast] at HJ
  have g0 := HM.out.hr.free
  obtain ⟨u, rfl⟩ := hF.lit
  clear hF HR
  conv => arg 2; whnf
  go_wp2_with (go_at_call 51; refine (truth51 _ _).mono ?_; rintro e w1 ⟨rfl, rfl⟩)
  go_step3
  simp only [Exit.jump]
  exact ⟨trivial, HJ.out _ _ ⟨rfl, rfl, rfl, rfl, rfl, rfl, rfl, rfl⟩ ((HM.out.setT ra _).below (by go_grown))⟩
set_option maxRecDepth 1000000 in
set_option maxHeartbeats 4000000 in
theorem case_not {w : World} {A : Option Addr} {len cR g n c k : Nat} {a : Act} {X : Option Addr} {xs : List I} {fv : Nat → V} {ft : Nat → Int} {wr : World} {J : Act → World → Prop} {Q : Exit → Act → World → Prop}
    (hF : F32 w A len cR g n k 0 a) (hM : M32 w X xs c n g fv ft wr) (hx : HasI w X xs) (hk : k < xs.length) (hl : xs.length ≤ 1000) (ha : 0 ≤ (ei xs k).a ∧ (ei xs k).a < n) (hb : 0 ≤ (ei xs k).b ∧ (ei xs k).b < n)
    (hop : (ei xs k).op.toList = [110, 111, 116])
    (hJ : ∀ a' w', F32 w A len cR g n (k + 1) 0 a' → M32 w X xs c n g fv (upd ft (ei xs k).a.toNat (notO (ft (ei xs k).b.toNat))) w' → J a' w') :
    body32.wp Try.prog (Exit.jump 0 J Q) a wr := by
  have HM := Lib.hid hM
  have HJ := Lib.hid hJ
  obtain ⟨b, o, rfl, hc⟩ := hx (by intro h; subst h; simp at hk)
  have IAT := Lib.hid ((hc k hk).below hM.hb)
  clear hM hc hx hJ
  generalize ei xs k = x at *
  obtain ⟨x0, x1, x2, x3, x4, x5, x6⟩ := IAT.out
  obtain ⟨p0, p1⟩ := HM.out.hp
  have z1 := lt_of_cell x0
  have zr := HM.out.hr.lt
  have i0 : (0 : Int) ≤ (k : Int) := by omega
  have i1 : (k : Int) < (xs.length : Int) := by omega
  have nk : ¬ ((k : Int) = (xs.length : Int)) := by omega
  obtain ⟨ha0, ha1⟩ := ha
  obtain ⟨ra, hra⟩ := Int.eq_ofNat_of_zero_le ha0
  obtain ⟨a0, a1, a2, a3⟩ := HM.out.hr.cells (i := ra) (by omega)
  obtain ⟨hb0, hb1⟩ := hb
  obtain ⟨rb, hrb⟩ := Int.eq_ofNat_of_zero_le hb0
  obtain ⟨b0, b1, b2, b3⟩ := HM.out.hr.cells (i := rb) (by omega)
  have HR := Lib.hid (show True from trivial)
  rw [hra] at x1 ha0 ha1
  try rw [hra] at HJ
  rw [hrb] at x2 hb0 hb1
  try rw [hrb] at HJ
  simp only [Int.toNat_natCast] at HJ
  have g0 := HM.out.hr.free
  obtain ⟨u, rfl⟩ := hF.lit
  clear hF HR
  conv => arg 2; whnf
  go_wp2_with (go_at_call 27; refine (not27 _ _).mono ?_; rintro e w1 ⟨rfl, rfl⟩)
  go_step3
  simp only [Exit.jump]
  exact ⟨trivial, HJ.out _ _ ⟨rfl, rfl, rfl, rfl, rfl, rfl, rfl, rfl⟩ ((HM.out.setT ra _).below (by go_grown))⟩
set_option maxRecDepth 1000000 in
set_option maxHeartbeats 4000000 in
theorem case_copy {w : World} {A : Option Addr} {len cR g n c k : Nat} {a : Act} {X : Option Addr} {xs : List I} {fv : Nat → V} {ft : Nat → Int} {wr : World} {J : Act → World → Prop} {Q : Exit → Act → World → Prop}
    (hF : F32 w A len cR g n k 0 a) (hM : M32 w X xs c n g fv ft wr) (hx : HasI w X xs) (hk : k < xs.length) (hl : xs.length ≤ 1000) (ha : 0 ≤ (ei xs k).a ∧ (ei xs k).a < n) (hb : 0 ≤ (ei xs k).b ∧ (ei xs k).b < n)
    (hop : (ei xs k).op.toList = [99, 111, 112, 121])
    (hJ : ∀ a' w', F32 w A len cR g n (k + 1) 0 a' → M32 w X xs c n g (upd fv (ei xs k).a.toNat (fv (ei xs k).b.toNat)) (upd ft (ei xs k).a.toNat (ft (ei xs k).b.toNat)) w' → J a' w') :
    body32.wp Try.prog (Exit.jump 0 J Q) a wr := by
  have HM := Lib.hid hM
  have HJ := Lib.hid hJ
  obtain ⟨b, o, rfl, hc⟩ := hx (by intro h; subst h; simp at hk)
  have IAT := Lib.hid ((hc k hk).below hM.hb)
  clear hM hc hx hJ
  generalize ei xs k = x at *
  obtain ⟨x0, x1, x2, x3, x4, x5, x6⟩ := IAT.out
  obtain ⟨p0, p1⟩ := HM.out.hp
  have z1 := lt_of_cell x0
  have zr := HM.out.hr.lt
  have i0 : (0 : Int) ≤ (k : Int) := by omega
  have i1 : (k : Int) < (xs.length : Int) := by omega
  have nk : ¬ ((k : Int) = (xs.length : Int)) := by omega
  obtain ⟨ha0, ha1⟩ := ha
  obtain ⟨ra, hra⟩ := Int.eq_ofNat_of_zero_le ha0
  obtain ⟨a0, a1, a2, a3⟩ := HM.out.hr.cells (i := ra) (by omega)
  obtain ⟨hb0, hb1⟩ := hb
  obtain ⟨rb, hrb⟩ := Int.eq_ofNat_of_zero_le hb0
  obtain ⟨b0, b1, b2, b3⟩ := HM.out.hr.cells (i := rb) (by omega)
  have HR := Lib.hid (show True from trivial)
  rw [hra] at x1 ha0 ha1
  try rw [hra] at HJ
  rw [hrb] at x2 hb0 hb1
  try rw [hrb] at HJ
  simp only [Int.toNat_natCast] at HJ
  have g0 := HM.out.hr.free
  obtain ⟨u, rfl⟩ := hF.lit
  clear hF HR
  conv => arg 2; whnf
  go_wp2
  go_step3
  simp only [Exit.jump]
  exact ⟨trivial, HJ.out _ _ ⟨rfl, rfl, rfl, rfl, rfl, rfl, rfl, rfl⟩ (((HM.out.setV ra _).setT ra _).below (by go_grown))⟩
end Go.Proofs.Ytbibchinimhamaa
