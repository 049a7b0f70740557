/- vm.Run: one round, whatever the instruction. -/
import Derived.Test.YtbibchinimhamaaZ2
import Derived.Test.YtbibchinimhamaaZ3
import Derived.Test.YtbibchinimhamaaZ4
import Derived.Test.YtbibchinimhamaaZ5
import Derived.Test.YtbibchinimhamaaZ6
import Derived.Test.YtbibchinimhamaaZ7
namespace Go.Proofs.Ytbibchinimhamaa
set_option linter.unusedVariables false
set_option linter.unusedSimpArgs false
open Go.RowKit

theorem zV_wf : zV.wf := ⟨by decide, by decide, Nat.zero_le _⟩
theorem recR_wf (op : ByteArray) (a b : V) : (recR op a b).1.wf := by
  unfold recR
  split
  · exact zV_wf
  · split
    · exact zV_wf
    · split
      · exact zV_wf
      · split
        · exact zV_wf
        · split
          · rename_i h
            refine ⟨(by decide : (Lit.int .i64 1).wf = true), ?_, Nat.zero_le _⟩
            unfold I64 at h
            have e1 : IntKind.i64.min = -9223372036854775808 := by decide
            have e2 : IntKind.i64.max = 9223372036854775807 := by decide
            simp [Lit.wf, e1, e2]
            omega
          · exact zV_wf
theorem colO_wf {R : List (List V)} (hw : wfR R) (b c : Int) : (colO R b c).1.wf := by
  unfold colO
  split
  · rename_i h
    exact hw _ h.1 _ h.2.1
  · exact zV_wf
theorem upd_wf {n : Nat} {fv : Nat → V} (h : ∀ i, i < n → (fv i).wf) (A : Nat) {v : V} (hv : v.wf) : ∀ i, i < n → (upd fv A v i).wf := by
  intro i hi
  unfold upd
  split
  · exact hv
  · exact h i hi
theorem adv_wf {n : Nat} {c : Prop} [Decidable c] {s t : Int × Nat × (Nat → V) × (Nat → Int)} (h1 : ∀ i, i < n → (s.2.2.1 i).wf) (h2 : ∀ i, i < n → (t.2.2.1 i).wf) : ∀ i, i < n → ((if c then s else t).2.2.1 i).wf := by
  split
  · exact h1
  · exact h2
theorem step_wf {n k : Nat} {R : List (List V)} {x : I} {fv : Nat → V} {ft : Nat → Int} (hw : wfR R) (hx : x.v.wf) (h : ∀ i, i < n → (fv i).wf) (hb : x.b.toNat < n ∨ ¬ x.op.toList = [99, 111, 112, 121]) : ∀ i, i < n → ((stepO R k x fv ft).2.2.1 i).wf := by
  unfold stepO
  refine adv_wf (upd_wf h _ hx) ?_
  refine adv_wf (upd_wf h _ (colO_wf hw _ _)) ?_
  refine adv_wf (upd_wf h _ (recR_wf _ _ _)) ?_
  refine adv_wf (upd_wf h _ (recR_wf _ _ _)) ?_
  refine adv_wf h (adv_wf h (adv_wf h (adv_wf h (adv_wf h (adv_wf h (adv_wf h ?_))))))
  by_cases e : x.op.toList = [99, 111, 112, 121]
  · rw [if_pos e]
    exact upd_wf h _ (h _ (hb.resolve_right (fun h => h e)))
  · rw [if_neg e]
    exact h

theorem shape_cmp {op : ByteArray} (q0 : (op.toList == [99, 111, 110, 115, 116]) = false) (q1 : (op.toList == [99, 111, 108]) = false) (q2 : (op.toList == [110, 101, 103]) = false) (q6 : (op.toList == [110, 117, 108, 108]) = false)
    (q7 : (op.toList == [115, 111, 109, 101]) = false) (q8 : (op.toList == [110, 111, 116]) = false) (q13 : (op.toList == [99, 111, 112, 121]) = false) : shapeO op = 2 ∨ shapeO op = -1 := by
  unfold shapeO
  rw [q0, q1, q2, q6, q7, q8, q13]
  simp only [Bool.or_self, Bool.false_eq_true, if_false]
  split
  · exact .inl rfl
  · exact .inr rfl

set_option maxHeartbeats 1000000 in
theorem step32 {w : World} {A : Option Addr} {cR g n c k : Nat} {a : Act} {X : Option Addr} {xs : List I} {fv : Nat → V} {ft : Nat → Int} {wr : World} {J : Act → World → Prop} {res : V × Int × Int} {R : List (List V)}
    (hF : F32 w A R.length cR g n k 0 a) (hM : M32 w X xs c n g fv ft wr) (hx : HasI w X xs) (hk : k < xs.length) (hl : xs.length ≤ 1000) (hso : soundO n xs.length k (ei xs k) = true)
    (hwf : ∀ i, i < n → (fv i).wf) (hR : HasR w A R) (hRl : R.length ≤ maxLen) (hw : wfR R)
    (hJ : ∀ a' w', F32 w A R.length cR g n (stepO R k (ei xs k) fv ft).2.1 (stepO R k (ei xs k) fv ft).1 a' → M32 w X xs c n g (stepO R k (ei xs k) fv ft).2.2.1 (stepO R k (ei xs k) fv ft).2.2.2 w' → J a' w') :
    body32.wp Try.prog (Exit.jump 0 J (bodyPost Try.prog Try.f32 (post32 w res))) a wr := by
  by_cases h0 : (ei xs k).op.toList = [99, 111, 110, 115, 116]
  · have hs := hso
    simp [soundO, jumpB, namedB, shapeO, reg, h0] at hs
    simp [stepO, h0] at hJ
    exact case_const hF hM hx hk hl ⟨by omega, by omega⟩ h0 hJ
  by_cases h1 : (ei xs k).op.toList = [99, 111, 108]
  · have hs := hso
    simp [soundO, jumpB, namedB, shapeO, reg, h1] at hs
    simp [stepO, h1] at hJ
    exact case_col hF hM hx hk hl ⟨by omega, by omega⟩ (by omega) (by omega) rfl hR hRl hw h1 hJ
  by_cases h2 : (ei xs k).op.toList = [110, 101, 103]
  · have hs := hso
    simp [soundO, jumpB, namedB, shapeO, reg, h2] at hs
    simp [stepO, h2] at hJ
    exact case_neg hF hM hx hk hl ⟨by omega, by omega⟩ ⟨by omega, by omega⟩ hwf h2 hJ
  by_cases h3 : (ei xs k).op.toList = [43]
  · have hs := hso
    simp [soundO, jumpB, namedB, shapeO, reg, h3] at hs
    simp [stepO, h3] at hJ
    exact case_plus hF hM hx hk hl ⟨by omega, by omega⟩ ⟨by omega, by omega⟩ ⟨by omega, by omega⟩ hwf h3 hJ
  by_cases h4 : (ei xs k).op.toList = [45]
  · have hs := hso
    simp [soundO, jumpB, namedB, shapeO, reg, h4] at hs
    simp [stepO, h4] at hJ
    exact case_minus hF hM hx hk hl ⟨by omega, by omega⟩ ⟨by omega, by omega⟩ ⟨by omega, by omega⟩ hwf h4 hJ
  by_cases h5 : (ei xs k).op.toList = [42]
  · have hs := hso
    simp [soundO, jumpB, namedB, shapeO, reg, h5] at hs
    simp [stepO, h5] at hJ
    exact case_times hF hM hx hk hl ⟨by omega, by omega⟩ ⟨by omega, by omega⟩ ⟨by omega, by omega⟩ hwf h5 hJ
  by_cases h6 : (ei xs k).op.toList = [110, 117, 108, 108]
  · have hs := hso
    simp [soundO, jumpB, namedB, shapeO, reg, h6] at hs
    simp [stepO, h6] at hJ
    exact case_null hF hM hx hk hl ⟨by omega, by omega⟩ ⟨by omega, by omega⟩ h6 hJ
  by_cases h7 : (ei xs k).op.toList = [115, 111, 109, 101]
  · have hs := hso
    simp [soundO, jumpB, namedB, shapeO, reg, h7] at hs
    simp [stepO, h7] at hJ
    exact case_some hF hM hx hk hl ⟨by omega, by omega⟩ ⟨by omega, by omega⟩ h7 hJ
  by_cases h8 : (ei xs k).op.toList = [110, 111, 116]
  · have hs := hso
    simp [soundO, jumpB, namedB, shapeO, reg, h8] at hs
    simp [stepO, h8] at hJ
    exact case_not hF hM hx hk hl ⟨by omega, by omega⟩ ⟨by omega, by omega⟩ h8 hJ
  by_cases h9 : (ei xs k).op.toList = [97, 110, 100]
  · have hs := hso
    simp [soundO, jumpB, namedB, shapeO, reg, h9] at hs
    simp [stepO, h9] at hJ
    exact case_and hF hM hx hk hl ⟨by omega, by omega⟩ ⟨by omega, by omega⟩ ⟨by omega, by omega⟩ h9 hJ
  by_cases h10 : (ei xs k).op.toList = [111, 114]
  · have hs := hso
    simp [soundO, jumpB, namedB, shapeO, reg, h10] at hs
    simp [stepO, h10] at hJ
    exact case_or hF hM hx hk hl ⟨by omega, by omega⟩ ⟨by omega, by omega⟩ ⟨by omega, by omega⟩ h10 hJ
  by_cases h11 : (ei xs k).op.toList = [102, 97, 108, 115, 101]
  · have hs := hso
    simp [soundO, jumpB, reg, h11] at hs
    simp [stepO, h11] at hJ
    exact case_false hF hM hx hk hl ⟨by omega, by omega⟩ (by omega) (by omega) h11 hJ
  by_cases h12 : (ei xs k).op.toList = [116, 114, 117, 101]
  · have hs := hso
    simp [soundO, jumpB, reg, h12] at hs
    simp [stepO, h12] at hJ
    exact case_true hF hM hx hk hl ⟨by omega, by omega⟩ (by omega) (by omega) h12 hJ
  by_cases h13 : (ei xs k).op.toList = [99, 111, 112, 121]
  · have hs := hso
    simp [soundO, jumpB, namedB, shapeO, reg, h13] at hs
    simp [stepO, h13] at hJ
    exact case_copy hF hM hx hk hl ⟨by omega, by omega⟩ ⟨by omega, by omega⟩ h13 hJ
  have q0 := beq_eq_false_iff_ne.2 h0
  have q1 := beq_eq_false_iff_ne.2 h1
  have q2 := beq_eq_false_iff_ne.2 h2
  have q3 := beq_eq_false_iff_ne.2 h3
  have q4 := beq_eq_false_iff_ne.2 h4
  have q5 := beq_eq_false_iff_ne.2 h5
  have q6 := beq_eq_false_iff_ne.2 h6
  have q7 := beq_eq_false_iff_ne.2 h7
  have q8 := beq_eq_false_iff_ne.2 h8
  have q9 := beq_eq_false_iff_ne.2 h9
  have q10 := beq_eq_false_iff_ne.2 h10
  have q11 := beq_eq_false_iff_ne.2 h11
  have q12 := beq_eq_false_iff_ne.2 h12
  have q13 := beq_eq_false_iff_ne.2 h13
  have hs := hso
  have hj : jumpB (ei xs k).op = false := by unfold jumpB; rw [q11, q12]; rfl
  unfold soundO at hs
  rw [hj, q1] at hs
  simp only [Bool.false_eq_true, if_false] at hs
  have hsh : shapeO (ei xs k).op = 2 := by
    rcases shape_cmp q0 q1 q2 q6 q7 q8 q13 with h | h
    · exact h
    · rw [named_none h] at hs
      simp at hs
  rw [hsh] at hs
  simp [reg] at hs
  simp [stepO, h0, h1, h2, h3, h4, h5, h6, h7, h8, h9, h10, h11, h12, h13] at hJ
  exact case_cmp hF hM hx hk hl ⟨by omega, by omega⟩ ⟨by omega, by omega⟩ ⟨by omega, by omega⟩ hwf q0 q1 q2 q3 q4 q5 q6 q7 q8 q9 q10 q11 q12 q13 hJ
end Go.Proofs.Ytbibchinimhamaa
