import Derived.Test.YtbibchinimhamaaR2
import Derived.Test.YtbibchinimhamaaWLast
namespace Go.Proofs.Ytbibchinimhamaa
set_option linter.unusedVariables false
set_option linter.unusedSimpArgs false
open Go.RowKit Go.Proofs.YtbibchinimhamaaW.PrintLast
set_option maxRecDepth 1000000 in
set_option maxHeartbeats 4000000 in
theorem rcase_false {w : World} {A : Option Addr} {len cR gv gt n c k : Nat} {a : Act} {X : Option Addr} {xs : List I} {fv : Nat → V} {ft : Nat → Int} {wr : World} {J K0 : Act → World → Prop} {res : V × Int × Int}
    (hF : F33 w A len cR gv gt n k a) (hM : M33 w X xs c n gv gt fv ft wr) (hx : HasI w X xs) (hk : k < xs.length) (hl : xs.length ≤ 1000) (hb : 0 ≤ (ei xs k).b ∧ (ei xs k).b < n) (hc0 : 0 < (ei xs k).c ∧ (ei xs k).c ≤ 1000)
    (hop : (ei xs k).op.toList = [102, 97, 108, 115, 101])
    (hJ : ∀ a' w', F33 w A len cR gv gt n (if ft (ei xs k).b.toNat = t01 false then (ei xs k).c.toNat else k + 1) a' → M33 w X xs c n gv gt fv ft w' → J a' w') :
    body33.wp Try.prog (Exit.then J (Exit.inBlock 2 (Exit.then K0 (bodyPost Try.prog Try.f33 (post32 w res))))) a wr := by
  have HM := Lib.hid hM
  have HJ := Lib.hid hJ
  obtain ⟨b, o, rfl, hc⟩ := hx (by intro h; subst h; simp at hk)
  have IAT := Lib.hid ((hc k hk).below hM.hb)
  clear hM hc hx hJ
  generalize ei xs k = x at *
  obtain ⟨x0, x1, x2, x3, x4, x5, x6⟩ := IAT.out
  obtain ⟨p0, p1⟩ := HM.out.hp
  have z1 := lt_of_cell x0
  have zv := HM.out.hv.lt
  have zt := HM.out.ht.lt
  have i0 : (0 : Int) ≤ (k : Int) := by omega
  have i1 : (k : Int) < (xs.length : Int) := by omega
  obtain ⟨hc0, hc2⟩ := hc0
  obtain ⟨rc, hrc⟩ := Int.eq_ofNat_of_zero_le (show 0 ≤ x.c by omega)
  rw [hrc] at x3 hc0 hc2 HJ
  obtain ⟨hb0, hb1⟩ := hb
  obtain ⟨rb, hrb⟩ := Int.eq_ofNat_of_zero_le hb0
  obtain ⟨b0, b1, b2⟩ := HM.out.hv.cells (i := rb) (by omega)
  have b3 := HM.out.ht.cells (i := rb) (by omega)
  have HR := Lib.hid (show True from trivial)
  rw [hrb] at x2 hb0 hb1
  try rw [hrb] at HJ
  simp only [Int.toNat_natCast] at HJ
  have gf := HM.out.hv.free
  have hf := HM.out.ht.free
  obtain ⟨u, rfl⟩ := hF.lit
  clear hF HR
  conv => arg 2; whnf
  by_cases hq : ft rb = t01 false
  · rw [if_pos hq] at HJ
    go_wp2_with fail
    go_quiet (exact Calls.quiet_of_same (Calls_sym (truth53 _ _)))
    go_wp2
    exact HJ.out _ _ ⟨rfl, rfl, rfl, rfl, rfl, rfl, rfl, by go_num⟩ (HM.out.below (below_drewN (by go_grown) _))
  · rw [if_neg hq] at HJ
    go_wp2_with fail
    go_quiet (exact Calls.quiet_of_same (Calls_sym (truth53 _ _)))
    go_wp2
    exact HJ.out _ _ ⟨rfl, rfl, rfl, rfl, rfl, rfl, rfl, by go_num⟩ (HM.out.below (below_drewN (by go_grown) _))
set_option maxRecDepth 1000000 in
set_option maxHeartbeats 4000000 in
theorem rcase_true {w : World} {A : Option Addr} {len cR gv gt n c k : Nat} {a : Act} {X : Option Addr} {xs : List I} {fv : Nat → V} {ft : Nat → Int} {wr : World} {J K0 : Act → World → Prop} {res : V × Int × Int}
    (hF : F33 w A len cR gv gt n k a) (hM : M33 w X xs c n gv gt fv ft wr) (hx : HasI w X xs) (hk : k < xs.length) (hl : xs.length ≤ 1000) (hb : 0 ≤ (ei xs k).b ∧ (ei xs k).b < n) (hc0 : 0 < (ei xs k).c ∧ (ei xs k).c ≤ 1000)
    (hop : (ei xs k).op.toList = [116, 114, 117, 101])
    (hJ : ∀ a' w', F33 w A len cR gv gt n (if ft (ei xs k).b.toNat = t01 true then (ei xs k).c.toNat else k + 1) a' → M33 w X xs c n gv gt fv ft w' → J a' w') :
    body33.wp Try.prog (Exit.then J (Exit.inBlock 2 (Exit.then K0 (bodyPost Try.prog Try.f33 (post32 w res))))) a wr := by
  have HM := Lib.hid hM
  have HJ := Lib.hid hJ
  obtain ⟨b, o, rfl, hc⟩ := hx (by intro h; subst h; simp at hk)
  have IAT := Lib.hid ((hc k hk).below hM.hb)
  clear hM hc hx hJ
  generalize ei xs k = x at *
  obtain ⟨x0, x1, x2, x3, x4, x5, x6⟩ := IAT.out
  obtain ⟨p0, p1⟩ := HM.out.hp
  have z1 := lt_of_cell x0
  have zv := HM.out.hv.lt
  have zt := HM.out.ht.lt
  have i0 : (0 : Int) ≤ (k : Int) := by omega
  have i1 : (k : Int) < (xs.length : Int) := by omega
  obtain ⟨hc0, hc2⟩ := hc0
  obtain ⟨rc, hrc⟩ := Int.eq_ofNat_of_zero_le (show 0 ≤ x.c by omega)
  rw [hrc] at x3 hc0 hc2 HJ
  obtain ⟨hb0, hb1⟩ := hb
  obtain ⟨rb, hrb⟩ := Int.eq_ofNat_of_zero_le hb0
  obtain ⟨b0, b1, b2⟩ := HM.out.hv.cells (i := rb) (by omega)
  have b3 := HM.out.ht.cells (i := rb) (by omega)
  have HR := Lib.hid (show True from trivial)
  rw [hrb] at x2 hb0 hb1
  try rw [hrb] at HJ
  simp only [Int.toNat_natCast] at HJ
  have gf := HM.out.hv.free
  have hf := HM.out.ht.free
  obtain ⟨u, rfl⟩ := hF.lit
  clear hF HR
  conv => arg 2; whnf
  by_cases hq : ft rb = t01 true
  · rw [if_pos hq] at HJ
    go_wp2_with fail
    go_quiet (exact Calls.quiet_of_same (Calls_sym (truth53 _ _)))
    go_wp2
    exact HJ.out _ _ ⟨rfl, rfl, rfl, rfl, rfl, rfl, rfl, by go_num⟩ (HM.out.below (below_drewN (by go_grown) _))
  · rw [if_neg hq] at HJ
    go_wp2_with fail
    go_quiet (exact Calls.quiet_of_same (Calls_sym (truth53 _ _)))
    go_wp2
    exact HJ.out _ _ ⟨rfl, rfl, rfl, rfl, rfl, rfl, rfl, by go_num⟩ (HM.out.below (below_drewN (by go_grown) _))
end Go.Proofs.Ytbibchinimhamaa
