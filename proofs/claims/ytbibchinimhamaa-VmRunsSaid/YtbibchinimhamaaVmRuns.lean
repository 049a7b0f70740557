/- VmRuns: at any program and any rows the two machines answer alike: the law returns true at every input; no condition. -/
import Derived.Test.YtbibchinimhamaaRows
import Derived.Test.YtbibchinimhamaaR15
import Derived.Test.YtbibchinimhamaaT
import Derived.Test.YtbibchinimhamaaR16
namespace Go.Proofs.Ytbibchinimhamaa.vmRuns
open Go.ChangeShapes Go.WideShapes Go.ChangeAt Go.RowKit
open Go.ChangeMaps (open_string shut_string)
set_option maxRecDepth 100000 in
theorem lifted (os : Os) (started : os.Started) (H : Type) (enc : TypeId × Value → H) :
    ReturnsInHanded {} Try.checked os 9 .any (Rows.vmRunsSpec.pre6 enc Try.prog Try.f9 Rows.vmRunsRow.domain false) (Rows.vmRunsSpec.post enc Try.prog Try.f9 false true false false) := by
  refine returnsInHanded_of_change_sized (C := Try.checked) Try.own started (by kernel_rfl) Try.func9
    (ChangeSpec.witness6 (enc := enc) (C := Try.checked) false ⟨#[], #[.agg #[.slice none 0 0, .int .i64 0], .slice none 0 0], []⟩ 8 (by kernel_rfl) (by kernel_rfl) (by kernel_rfl) (by kernel_rfl)) ?_
  intro W base args ds gs before hval0 hW hcnd hsz0 _
  have hval : ∀ (j : Nat) t v, Try.f9.params[j]? = some t → args[j]? = some v → Value.okWide Try.prog W .any base t v := hval0
  have hW' := hW
  have hlt := hW.lt
  obtain ⟨p, q, hA0, hV, rfl, hfz, hnd⟩ := hW
  have hA : DataW.TrodAll enc Try.prog W 0 (fun _ => true) true Try.f9.params.toList args.toList ds p := hA0
  rw [Try.params9] at hA hval
  have hA2 := hA
  obtain ⟨v0, vs0, d0, ds0, p0, q0, hargs, rfl, rfl, h0, r0⟩ := trodAll_cons hA
  obtain ⟨v1, vs1, d1, ds1, p1, q1, rfl, rfl, rfl, h1, r1⟩ := trodAll_cons r0
  obtain ⟨rfl, rfl, rfl⟩ := trodAll_nil r1
  obtain rfl : args = #[v0, v1] := by cases args; simp_all
  obtain ⟨rfl, rfl⟩ := trodVars_none hV
  obtain ⟨A0, x0, c0, g0, rfl, hm0, hl0, hc0, w0⟩ := open_prog (hval 0 24 v0 rfl rfl) h0
  obtain ⟨A1, x1, c1, rfl, hm1, hl1, hc1, w1⟩ := open_rows (hval 1 49 v1 rfl rfl) h1
  clear hA0 hval0 hsz0
  refine (law9 A0 x0 c0 g0 A1 x1 c1 W hm0 hl0 (fun i hi => (w0 i hi).2.2.2.2) hm1 hl1 w1).mono fun e W' ⟨he, bel⟩ => ?_
  subst he
  exact ⟨_, rfl, _, _, _, [], _, [], hW', trodAll_mk1 (shut_bool Try.underlying4 _), carryAll bel (by decide +kernel) hA2 (fun x hx => hlt x (List.mem_append_left _ hx)), rfl, bel.frame _, fun h => by cases h⟩
theorem over : Rows.vmRunsRow.holds Try.pinned (OpenSpec.ofChange Rows.vmRunsSpec) :=
  OpenClaim.holds_of_wide 9 Try.f9 rfl rfl rfl rfl rfl rfl rfl ⟨rfl, rfl, rfl, rfl, rfl⟩ rfl rfl rfl rfl rfl (by kernel_rfl) Try.func9 (by kernel_rfl)
    (of_decide_eq_true (by kernel_rfl)) (by unfold Func.isWrapper; first | (rw [if_pos (by decide +kernel)]; kernel_rfl) | (rw [if_neg (by decide +kernel)]; exact ⟨rfl, rfl⟩))
    (fun os started H enc _ => lifted os started H enc)
end Go.Proofs.Ytbibchinimhamaa.vmRuns
namespace Go.Proofs.Ytbibchinimhamaa
theorem vmRuns_holds : Rows.VmRunsSaid := vmRuns.over
#print axioms vmRuns_holds
end Go.Proofs.Ytbibchinimhamaa
