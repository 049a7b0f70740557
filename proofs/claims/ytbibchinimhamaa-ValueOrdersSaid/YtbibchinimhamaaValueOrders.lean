/- ValueOrders: any two values, and rows, are formed and ordered as the document says; the other way round the other way: the law returns true at every input; no condition. -/
import Derived.Test.YtbibchinimhamaaRows
import Derived.Test.YtbibchinimhamaaH
import Derived.Test.YtbibchinimhamaaG
namespace Go.Proofs.Ytbibchinimhamaa.valueOrders
open Go.ChangeShapes Go.WideShapes Go.ChangeAt Go.RowKit
open Go.ChangeMaps (open_string shut_string)
set_option maxRecDepth 100000 in
theorem lifted (os : Os) (started : os.Started) (H : Type) (enc : TypeId × Value → H) :
    ReturnsInHanded {} Try.checked os 5 .any (Rows.valueOrdersSpec.pre6 enc Try.prog Try.f5 Rows.valueOrdersRow.domain false) (Rows.valueOrdersSpec.post enc Try.prog Try.f5 false true false false) := by
  refine returnsInHanded_of_change_sized (C := Try.checked) Try.own started (by kernel_rfl) Try.func5
    (ChangeSpec.witness6 (enc := enc) (C := Try.checked) false ⟨#[], #[.agg #[.int .i64 0, .int .i64 0, .string ⟨#[]⟩], .agg #[.int .i64 0, .int .i64 0, .string ⟨#[]⟩], .slice none 0 0, .slice none 0 0], []⟩ 8 (by kernel_rfl) (by kernel_rfl) (by kernel_rfl) (by kernel_rfl)) ?_
  intro W base args ds gs before hval0 hW hcnd hsz0 _
  have hval : ∀ (j : Nat) t v, Try.f5.params[j]? = some t → args[j]? = some v → Value.okWide Try.prog W .any base t v := hval0
  have hW' := hW
  have hlt := hW.lt
  obtain ⟨p, q, hA0, hV, rfl, hfz, hnd⟩ := hW
  have hA : DataW.TrodAll enc Try.prog W 0 (fun _ => true) true Try.f5.params.toList args.toList ds p := hA0
  rw [Try.params5] at hA hval
  have hA2 := hA
  obtain ⟨v0, vs0, d0, ds0, p0, q0, hargs, rfl, rfl, h0, r0⟩ := trodAll_cons hA
  obtain ⟨v1, vs1, d1, ds1, p1, q1, rfl, rfl, rfl, h1, r1⟩ := trodAll_cons r0
  obtain ⟨v2, vs2, d2, ds2, p2, q2, rfl, rfl, rfl, h2, r2⟩ := trodAll_cons r1
  obtain ⟨v3, vs3, d3, ds3, p3, q3, rfl, rfl, rfl, h3, r3⟩ := trodAll_cons r2
  obtain ⟨rfl, rfl, rfl⟩ := trodAll_nil r3
  obtain rfl : args = #[v0, v1, v2, v3] := by cases args; simp_all
  obtain ⟨rfl, rfl⟩ := trodVars_none hV
  obtain ⟨x0, rfl, _, _, w0⟩ := open_V (hval 0 33 v0 rfl rfl) h0
  obtain ⟨x1, rfl, _, _, w1⟩ := open_V (hval 1 33 v1 rfl rfl) h1
  obtain ⟨A2, x2, c2, rfl, hm2, hl2, hc2, w2⟩ := open_Vs (hval 2 38 v2 rfl rfl) h2
  obtain ⟨A3, x3, c3, rfl, hm3, hl3, hc3, w3⟩ := open_Vs (hval 3 38 v3 rfl rfl) h3
  clear hA0 hval0 hsz0
  refine (law5 x0 x1 A2 A3 x2 x3 c2 c3 W w0.2.2 hm2 hm3 hl2 hl3).mono fun e W' ⟨he, bel⟩ => ?_
  subst he
  exact ⟨_, rfl, _, _, _, [], _, [], hW', trodAll_mk1 (shut_bool Try.underlying4 _), carryAll bel (by decide +kernel) hA2 (fun x hx => hlt x (List.mem_append_left _ hx)), rfl, bel.frame _, fun h => by cases h⟩
theorem over : Rows.valueOrdersRow.holds Try.pinned (OpenSpec.ofChange Rows.valueOrdersSpec) :=
  OpenClaim.holds_of_wide 5 Try.f5 rfl rfl rfl rfl rfl rfl rfl ⟨rfl, rfl, rfl, rfl, rfl⟩ rfl rfl rfl rfl rfl (by kernel_rfl) Try.func5 (by kernel_rfl)
    (of_decide_eq_true (by kernel_rfl)) (by unfold Func.isWrapper; first | (rw [if_pos (by decide +kernel)]; kernel_rfl) | (rw [if_neg (by decide +kernel)]; exact ⟨rfl, rfl⟩))
    (fun os started H enc _ => lifted os started H enc)
end Go.Proofs.Ytbibchinimhamaa.valueOrders
namespace Go.Proofs.Ytbibchinimhamaa
theorem valueOrders_holds : Rows.ValueOrdersSaid := valueOrders.over
#print axioms valueOrders_holds
end Go.Proofs.Ytbibchinimhamaa
