/- The reference's Run. -/
import Derived.Test.YtbibchinimhamaaR3
import Derived.Test.YtbibchinimhamaaR4
import Derived.Test.YtbibchinimhamaaR5
import Derived.Test.YtbibchinimhamaaR6
import Derived.Test.YtbibchinimhamaaR7
import Derived.Test.YtbibchinimhamaaR8
import Derived.Test.YtbibchinimhamaaR9
import Derived.Test.YtbibchinimhamaaR10
import Derived.Test.YtbibchinimhamaaR11
import Derived.Test.YtbibchinimhamaaR12
namespace Go.Proofs.Ytbibchinimhamaa
set_option linter.unusedVariables false
set_option linter.unusedSimpArgs false
open Go.RowKit

set_option maxHeartbeats 1000000 in
theorem step33 {w : World} {A : Option Addr} {cR gv gt n c k : Nat} {a : Act} {X : Option Addr} {xs : List I} {fv : Nat → V} {ft : Nat → Int} {wr : World} {J K0 : Act → World → Prop} {res : V × Int × Int} {R : List (List V)}
    (hF : F33 w A R.length cR gv gt n k a) (hM : M33 w X xs c n gv gt fv ft wr) (hx : HasI w X xs) (hk : k < xs.length) (hl : xs.length ≤ 1000) (hso : soundO n xs.length k (ei xs k) = true)
    (hwf : ∀ i, i < n → (fv i).wf) (hR : HasR w A R) (hRl : R.length ≤ maxLen) (hw : wfR R)
    (hE : ¬ (stepO R k (ei xs k) fv ft).1 = 0 → res = (zV, 0, (stepO R k (ei xs k) fv ft).1))
    (hJ : (stepO R k (ei xs k) fv ft).1 = 0 → ∀ a' w', F33 w A R.length cR gv gt n (stepO R k (ei xs k) fv ft).2.1 a' → M33 w X xs c n gv gt (stepO R k (ei xs k) fv ft).2.2.1 (stepO R k (ei xs k) fv ft).2.2.2 w' → J a' w') :
    body33.wp Try.prog (Exit.then J (Exit.inBlock 2 (Exit.then K0 (bodyPost Try.prog Try.f33 (post32 w res))))) a wr := by
  by_cases h0 : (ei xs k).op.toList = [99, 111, 110, 115, 116]
  · have hs := hso
    simp [soundO, jumpB, namedB, shapeO, reg, h0] at hs
    simp only [stepO, h0] at hJ hE
    simp at hJ
    exact rcase_const hF hM hx hk hl ⟨by omega, by omega⟩ h0 hJ
  by_cases h1 : (ei xs k).op.toList = [99, 111, 108]
  · have hs := hso
    simp [soundO, jumpB, namedB, shapeO, reg, h1] at hs
    simp only [stepO, h1] at hJ hE
    simp at hJ hE
    exact rcase_col hF hM hx hk hl ⟨by omega, by omega⟩ (by omega) (by omega) rfl hR hRl hw h1 hJ hE
  by_cases h2 : (ei xs k).op.toList = [110, 101, 103]
  · have hs := hso
    simp [soundO, jumpB, namedB, shapeO, reg, h2] at hs
    simp only [stepO, h2] at hJ hE
    simp at hJ hE
    exact rcase_neg hF hM hx hk hl ⟨by omega, by omega⟩ ⟨by omega, by omega⟩ hwf h2 hJ hE
  by_cases h3 : (ei xs k).op.toList = [43]
  · have hs := hso
    simp [soundO, jumpB, namedB, shapeO, reg, h3] at hs
    simp only [stepO, h3] at hJ hE
    simp at hJ hE
    exact rcase_plus hF hM hx hk hl ⟨by omega, by omega⟩ ⟨by omega, by omega⟩ ⟨by omega, by omega⟩ hwf h3 hJ hE
  by_cases h4 : (ei xs k).op.toList = [45]
  · have hs := hso
    simp [soundO, jumpB, namedB, shapeO, reg, h4] at hs
    simp only [stepO, h4] at hJ hE
    simp at hJ hE
    exact rcase_minus hF hM hx hk hl ⟨by omega, by omega⟩ ⟨by omega, by omega⟩ ⟨by omega, by omega⟩ hwf h4 hJ hE
  by_cases h5 : (ei xs k).op.toList = [42]
  · have hs := hso
    simp [soundO, jumpB, namedB, shapeO, reg, h5] at hs
    simp only [stepO, h5] at hJ hE
    simp at hJ hE
    exact rcase_times hF hM hx hk hl ⟨by omega, by omega⟩ ⟨by omega, by omega⟩ ⟨by omega, by omega⟩ hwf h5 hJ hE
  by_cases h6 : (ei xs k).op.toList = [110, 117, 108, 108]
  · have hs := hso
    simp [soundO, jumpB, namedB, shapeO, reg, h6] at hs
    simp only [stepO, h6] at hJ hE
    simp at hJ
    exact rcase_null hF hM hx hk hl ⟨by omega, by omega⟩ ⟨by omega, by omega⟩ h6 hJ
  by_cases h7 : (ei xs k).op.toList = [115, 111, 109, 101]
  · have hs := hso
    simp [soundO, jumpB, namedB, shapeO, reg, h7] at hs
    simp only [stepO, h7] at hJ hE
    simp at hJ
    exact rcase_some hF hM hx hk hl ⟨by omega, by omega⟩ ⟨by omega, by omega⟩ h7 hJ
  by_cases h8 : (ei xs k).op.toList = [110, 111, 116]
  · have hs := hso
    simp [soundO, jumpB, namedB, shapeO, reg, h8] at hs
    simp only [stepO, h8] at hJ hE
    simp at hJ
    exact rcase_not hF hM hx hk hl ⟨by omega, by omega⟩ ⟨by omega, by omega⟩ h8 hJ
  by_cases h9 : (ei xs k).op.toList = [97, 110, 100]
  · have hs := hso
    simp [soundO, jumpB, namedB, shapeO, reg, h9] at hs
    simp only [stepO, h9] at hJ hE
    simp at hJ
    exact rcase_and hF hM hx hk hl ⟨by omega, by omega⟩ ⟨by omega, by omega⟩ ⟨by omega, by omega⟩ h9 hJ
  by_cases h10 : (ei xs k).op.toList = [111, 114]
  · have hs := hso
    simp [soundO, jumpB, namedB, shapeO, reg, h10] at hs
    simp only [stepO, h10] at hJ hE
    simp at hJ
    exact rcase_or hF hM hx hk hl ⟨by omega, by omega⟩ ⟨by omega, by omega⟩ ⟨by omega, by omega⟩ h10 hJ
  by_cases h11 : (ei xs k).op.toList = [102, 97, 108, 115, 101]
  · have hs := hso
    simp [soundO, jumpB, reg, h11] at hs
    simp only [stepO, h11] at hJ hE
    simp at hJ
    exact rcase_false hF hM hx hk hl ⟨by omega, by omega⟩ ⟨by omega, by omega⟩ h11 hJ
  by_cases h12 : (ei xs k).op.toList = [116, 114, 117, 101]
  · have hs := hso
    simp [soundO, jumpB, reg, h12] at hs
    simp only [stepO, h12] at hJ hE
    simp at hJ
    exact rcase_true hF hM hx hk hl ⟨by omega, by omega⟩ ⟨by omega, by omega⟩ h12 hJ
  by_cases h13 : (ei xs k).op.toList = [99, 111, 112, 121]
  · have hs := hso
    simp [soundO, jumpB, namedB, shapeO, reg, h13] at hs
    simp only [stepO, h13] at hJ hE
    simp at hJ
    exact rcase_copy hF hM hx hk hl ⟨by omega, by omega⟩ ⟨by omega, by omega⟩ h13 hJ
  have q0 := beq_eq_false_iff_ne.2 h0
  have q1 := beq_eq_false_iff_ne.2 h1
  have q2 := beq_eq_false_iff_ne.2 h2
  have q3 := beq_eq_false_iff_ne.2 h3
  have q4 := beq_eq_false_iff_ne.2 h4
  have q5 := beq_eq_false_iff_ne.2 h5
  have q6 := beq_eq_false_iff_ne.2 h6
  have q7 := beq_eq_false_iff_ne.2 h7
  have q8 := beq_eq_false_iff_ne.2 h8
  have q9 := beq_eq_false_iff_ne.2 h9
  have q10 := beq_eq_false_iff_ne.2 h10
  have q11 := beq_eq_false_iff_ne.2 h11
  have q12 := beq_eq_false_iff_ne.2 h12
  have q13 := beq_eq_false_iff_ne.2 h13
  have hs := hso
  have hj : jumpB (ei xs k).op = false := by unfold jumpB; rw [q11, q12]; rfl
  unfold soundO at hs
  rw [hj, q1] at hs
  simp only [Bool.false_eq_true, if_false] at hs
  have hsh : shapeO (ei xs k).op = 2 := by
    rcases shape_cmp q0 q1 q2 q6 q7 q8 q13 with h | h
    · exact h
    · rw [named_none h] at hs
      simp at hs
  rw [hsh] at hs
  simp [reg] at hs
  simp [stepO, h0, h1, h2, h3, h4, h5, h6, h7, h8, h9, h10, h11, h12, h13] at hJ hE
  exact rcase_cmp hF hM hx hk hl ⟨by omega, by omega⟩ ⟨by omega, by omega⟩ ⟨by omega, by omega⟩ hwf q0 q1 q2 q3 q4 q5 q6 q7 q8 q9 q10 q11 q12 q13 hJ hE

def J33 (w : World) (A : Option Addr) (R : List (List V)) (cR : Nat) (X : Option Addr) (xs : List I) (c n gv gt : Nat) (res : V × Int × Int) (a : Act) (wr : World) : Prop :=
  ∃ (k : Nat) (fv : Nat → V) (ft : Nat → Int), F33 w A R.length cR gv gt n k a ∧ M33 w X xs c n gv gt fv ft wr ∧ k ≤ xs.length ∧ (∀ i, i < n → (fv i).wf) ∧ goO R xs k fv ft = res
def at33 (a : Act) : Nat := match a.tmps.getD 10 undef with
  | .int _ q => q.toNat
  | _ => 0
theorem F33.at {w : World} {A : Option Addr} {len cR gv gt n k : Nat} {a : Act} (h : F33 w A len cR gv gt n k a) : at33 a = k := by
  unfold at33; rw [h.s10]; simp
/-- What holds behind the loop. -/
def E33 (w : World) (A : Option Addr) (len cR gv gt : Nat) (X : Option Addr) (xs : List I) (c n : Nat) (res : V × Int × Int) (a : Act) (wr : World) : Prop :=
  ∃ (fv : Nat → V) (ft : Nat → Int), F33 w A len cR gv gt n xs.length a ∧ M33 w X xs c n gv gt fv ft wr ∧ res = (fv 0, ft 0, 0)

theorem round33 {w : World} {A : Option Addr} {R : List (List V)} {cR gv gt : Nat} {X : Option Addr} {xs : List I} {c n : Nat} {res : V × Int × Int} {K0 : Act → World → Prop} (hx : HasI w X xs) (hf : formedO n xs = true)
    (hxv : ∀ i, i < xs.length → (ei xs i).v.wf) (hR : HasR w A R) (hRl : R.length ≤ maxLen) (hw : wfR R) (hK : ∀ a w', E33 w A R.length cR gv gt X xs c n res a w' → K0 a w') {a : Act} {wr : World} (hJ : J33 w A R cR X xs c n gv gt res a wr) :
    body33.wp Try.prog (Exit.then (fun a' w' => J33 w A R cR X xs c n gv gt res a' w' ∧ xs.length - at33 a' < xs.length - at33 a) (Exit.inBlock 2 (Exit.then K0 (bodyPost Try.prog Try.f33 (post32 w res))))) a wr := by
  obtain ⟨⟨h1, h2, h3, h4⟩, hso⟩ := sound_of hf
  obtain ⟨k, fv, ft, hF, hM, hk, hwf, hr⟩ := hJ
  by_cases hkx : k < xs.length
  · have hon := step_on (R := R) (fv := fv) (ft := ft) hkx (hso k hkx)
    rw [go_step hso hkx] at hr
    refine step33 hF hM hx hkx h2 (hso k hkx) hwf hR hRl hw (fun he => ?_) (fun he a' w' hF' hM' => ⟨⟨_, _, _, hF', hM', hon.2, step_wf hw (hxv k hkx) hwf (copy_b (hso k hkx)), ?_⟩, ?_⟩)
    · rw [if_neg he] at hr
      exact hr.symm
    · rw [if_pos he] at hr
      exact hr
    · rw [hF.at, hF'.at]
      omega
  · obtain rfl : k = xs.length := by omega
    rw [go_end] at hr
    refine end33 hF hM (fun a' w' hF' hM' => ?_)
    show K0 a' w'
    exact hK _ _ ⟨fv, ft, hF', hM', hr.symm⟩
end Go.Proofs.Ytbibchinimhamaa
