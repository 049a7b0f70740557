import Derived.Test.YtbibchinimhamaaZ1
namespace Go.Proofs.Ytbibchinimhamaa
open Go.RowKit
set_option maxRecDepth 1000000 in
set_option maxHeartbeats 4000000 in
theorem case_false {w : World} {A : Option Addr} {len cR g n c k : Nat} {a : Act} {X : Option Addr} {xs : List I} {fv : Nat → V} {ft : Nat → Int} {wr : World} {J : Act → World → Prop} {Q : Exit → Act → World → Prop}
    (hF : F32 w A len cR g n k 0 a) (hM : M32 w X xs c n g fv ft wr) (hx : HasI w X xs) (hk : k < xs.length) (hl : xs.length ≤ 1000) (hb : 0 ≤ (ei xs k).b ∧ (ei xs k).b < n) (hc0 : 0 ≤ (ei xs k).c) (ha : (ei xs k).a = 0)
    (hop : (ei xs k).op.toList = [102, 97, 108, 115, 101])
    (hJ : ∀ a' w', F32 w A len cR g n (if ft (ei xs k).b.toNat = t01 false then (ei xs k).c.toNat else k + 1) 0 a' → M32 w X xs c n g fv ft w' → J a' w') :
    body32.wp Try.prog (Exit.jump 0 J Q) a wr := by
  have HM := Lib.hid hM
  have HJ := Lib.hid hJ
  obtain ⟨b, o, rfl, hc⟩ := hx (by intro h; subst h; simp at hk)
  have IAT := Lib.hid ((hc k hk).below hM.hb)
  clear hM hc hx hJ
  generalize ei xs k = x at *
  obtain ⟨x0, x1, x2, x3, x4, x5, x6⟩ := IAT.out
  obtain ⟨p0, p1⟩ := HM.out.hp
  have z1 := lt_of_cell x0
  have zr := HM.out.hr.lt
  have i0 : (0 : Int) ≤ (k : Int) := by omega
  have i1 : (k : Int) < (xs.length : Int) := by omega
  have nk : ¬ ((k : Int) = (xs.length : Int)) := by omega
  obtain ⟨rc, hrc⟩ := Int.eq_ofNat_of_zero_le hc0
  rw [hrc] at x3
  rw [ha] at x1
  clear hc0
  rw [hrc] at HJ
  obtain ⟨hb0, hb1⟩ := hb
  obtain ⟨rb, hrb⟩ := Int.eq_ofNat_of_zero_le hb0
  obtain ⟨b0, b1, b2, b3⟩ := HM.out.hr.cells (i := rb) (by omega)
  have HR := Lib.hid (show True from trivial)
  rw [hrb] at x2 hb0 hb1
  try rw [hrb] at HJ
  simp only [Int.toNat_natCast] at HJ
  have g0 := HM.out.hr.free
  obtain ⟨u, rfl⟩ := hF.lit
  clear hF HR
  have n0 : 0 < n := by omega
  conv => arg 2; whnf
  by_cases hq : ft rb = t01 false
  · rw [if_pos hq] at HJ
    go_wp2_with fail
    go_quiet (exact Calls.quiet_of_same (Calls_sym (truth51 _ _)))
    go_wp2
    go_step3
    simp only [Exit.jump]
    exact ⟨trivial, HJ.out _ _ ⟨rfl, rfl, rfl, rfl, rfl, rfl, rfl, rfl⟩ (HM.out.below (below_drewN (by go_grown) _))⟩
  · rw [if_neg hq] at HJ
    go_wp2_with fail
    go_quiet (exact Calls.quiet_of_same (Calls_sym (truth51 _ _)))
    go_wp2
    go_step3
    simp only [Exit.jump]
    exact ⟨trivial, HJ.out _ _ ⟨rfl, rfl, rfl, rfl, rfl, rfl, rfl, rfl⟩ (HM.out.below (below_drewN (by go_grown) _))⟩
set_option maxRecDepth 1000000 in
set_option maxHeartbeats 4000000 in
theorem case_true {w : World} {A : Option Addr} {len cR g n c k : Nat} {a : Act} {X : Option Addr} {xs : List I} {fv : Nat → V} {ft : Nat → Int} {wr : World} {J : Act → World → Prop} {Q : Exit → Act → World → Prop}
    (hF : F32 w A len cR g n k 0 a) (hM : M32 w X xs c n g fv ft wr) (hx : HasI w X xs) (hk : k < xs.length) (hl : xs.length ≤ 1000) (hb : 0 ≤ (ei xs k).b ∧ (ei xs k).b < n) (hc0 : 0 ≤ (ei xs k).c) (ha : (ei xs k).a = 0)
    (hop : (ei xs k).op.toList = [116, 114, 117, 101])
    (hJ : ∀ a' w', F32 w A len cR g n (if ft (ei xs k).b.toNat = t01 true then (ei xs k).c.toNat else k + 1) 0 a' → M32 w X xs c n g fv ft w' → J a' w') :
    body32.wp Try.prog (Exit.jump 0 J Q) a wr := by
  have HM := Lib.hid hM
  have HJ := Lib.hid hJ
  obtain ⟨b, o, rfl, hc⟩ := hx (by intro h; subst h; simp at hk)
  have IAT := Lib.hid ((hc k hk).below hM.hb)
  clear hM hc hx hJ
  generalize ei xs k = x at *
  obtain ⟨x0, x1, x2, x3, x4, x5, x6⟩ := IAT.out
  obtain ⟨p0, p1⟩ := HM.out.hp
  have z1 := lt_of_cell x0
  have zr := HM.out.hr.lt
  have i0 : (0 : Int) ≤ (k : Int) := by omega
  have i1 : (k : Int) < (xs.length : Int) := by omega
  have nk : ¬ ((k : Int) = (xs.length : Int)) := by omega
  obtain ⟨rc, hrc⟩ := Int.eq_ofNat_of_zero_le hc0
  rw [hrc] at x3
  rw [ha] at x1
  clear hc0
  rw [hrc] at HJ
  obtain ⟨hb0, hb1⟩ := hb
  obtain ⟨rb, hrb⟩ := Int.eq_ofNat_of_zero_le hb0
  obtain ⟨b0, b1, b2, b3⟩ := HM.out.hr.cells (i := rb) (by omega)
  have HR := Lib.hid (show True from trivial)
  rw [hrb] at x2 hb0 hb1
  try rw [hrb] at HJ
  simp only [Int.toNat_natCast] at HJ
  have g0 := HM.out.hr.free
  obtain ⟨u, rfl⟩ := hF.lit
  clear hF HR
  have n0 : 0 < n := by omega
  conv => arg 2; whnf
  by_cases hq : ft rb = t01 true
  · rw [if_pos hq] at HJ
    go_wp2_with fail
    go_quiet (exact Calls.quiet_of_same (Calls_sym (truth51 _ _)))
    go_wp2
    go_step3
    simp only [Exit.jump]
    exact ⟨trivial, HJ.out _ _ ⟨rfl, rfl, rfl, rfl, rfl, rfl, rfl, rfl⟩ (HM.out.below (below_drewN (by go_grown) _))⟩
  · rw [if_neg hq] at HJ
    go_wp2_with fail
    go_quiet (exact Calls.quiet_of_same (Calls_sym (truth51 _ _)))
    go_wp2
    go_step3
    simp only [Exit.jump]
    exact ⟨trivial, HJ.out _ _ ⟨rfl, rfl, rfl, rfl, rfl, rfl, rfl, rfl⟩ (HM.out.below (below_drewN (by go_grown) _))⟩
end Go.Proofs.Ytbibchinimhamaa
