/- The walk of wainscotlaw04.KeysAfter: where both Afters answer the same row and the plain law holds of it, the machine answers true. -/
import Derived.Test.YtbibchinimhamaaDoorSA3
import Derived.Test.YtbibchinimhamaaDoorSA2
import Derived.Laws.Cover1
namespace Go.Proofs.YtbibchinimhamaaDoor.SA
open Go.RowKit Go.Proofs.YtbibchinimhamaaDoorW.PrintWords Go.Proofs.YtbibchinimhamaaDoorW.PrintLast Go.Proofs.YtbibchinimhamaaDoorW.PrintMore
attribute [local go_sem] max2_int min2_int max_two min_two max_three min_three max_four min_four
set_option linter.unusedVariables false
set_option linter.unusedSimpArgs false
theorem bytesLess_lt : ∀ x y : List UInt8, Op.bytesLess x y = decide (x < y)
  | [], [] => by simp [Op.bytesLess]
  | [], b :: y => by simp [Op.bytesLess]
  | a :: x, [] => by simp [Op.bytesLess]
  | a :: x, b :: y => by
    rw [Op.bytesLess, bytesLess_lt x y]
    rw [Bool.eq_iff_iff]
    simp [List.cons_lt_cons_iff]
theorem not_bytesLess_both (x y : List UInt8) (h : Op.bytesLess x y = true) : Op.bytesLess y x = false := by
  rw [bytesLess_lt] at *
  simp only [decide_eq_true_eq, decide_eq_false_iff_not] at *
  exact fun h2 => absurd (List.lt_trans h h2) (List.lt_irrefl _)
theorem bytesLess_irrefl (x : List UInt8) : Op.bytesLess x x = false := by
  rw [bytesLess_lt]; simp [List.lt_irrefl]
theorem bytesLess_or (x y : List UInt8) : Op.bytesLess x y = true ∨ x = y ∨ Op.bytesLess y x = true := by
  rw [bytesLess_lt, bytesLess_lt]
  simp only [decide_eq_true_eq]
  rcases Classical.em (x < y) with h | h
  · exact .inl h
  · rcases Classical.em (y < x) with h2 | h2
    · exact .inr (.inr h2)
    · exact .inr (.inl (List.le_antisymm (List.not_lt.1 h2) (List.not_lt.1 h)))
set_option maxHeartbeats 8000000 in
set_option maxRecDepth 100000 in
theorem keysAfter_walk (k : Nat) (A0 : Option Addr) (c0 : Nat) (l0 : List Int) (A1 : Option Addr) (c1 : Nat) (l1 : List Int) (A2 : Option Addr) (c2 : Nat) (l2 : List Int) (t160 : List Int) (w : World) (hr0 : Kd.C (Kd.int .u8) w A0 l0.length l0) (hc0 : l0.length ≤ c0) (hr1 : Kd.C (Kd.int .u8) w A1 l1.length l1) (hc1 : l1.length ≤ c1) (hr2 : Kd.C (Kd.int .u8) w A2 l2.length l2) (hc2 : l2.length ≤ c2) (A4 : Aside0 (wainscotlaw04_awake.f k = some true)) (A6 : Aside0 (keys_After.f k l0 = some t160)) (A7 : Aside0 (wainscotref01_After.f k l0 = some t160)) (c21 : (strOfNums l0).size + (strOfNums l1).size ≤ 9223372036854775807)
    (hup : (t160.length : Int) ≠ 0 → Op.bytesLess (((strOfNums l0) ++ (strOfNums l1)).toList) ((strOfNums t160).toList) = true)
    (hof : (t160.length : Int) ≠ 0 → (l0.length ≤ l2.length ∧ (strOfNums (l2.take l0.length)).toList = (strOfNums l0).toList) ∨ Op.bytesLess ((strOfNums l2).toList) ((strOfNums l0).toList) = true ∨ Op.bytesLess ((strOfNums l2).toList) ((strOfNums t160).toList) = false) :
    Calls Tryd.prog 3 #[.slice A0 l0.length c0, .slice A1 l1.length c1, .slice A2 l2.length c2] w fun e w' => e = .returned (.bool true) ∧ Below w.heap.size w w' := by
  have HR0 := Aside0.mk hr0
  have HC0 := Aside0.mk hc0
  clear hr0 hc0
  have HR1 := Aside0.mk hr1
  have HC1 := Aside0.mk hc1
  clear hr1 hc1
  have HR2 := Aside0.mk hr2
  have HC2 := Aside0.mk hc2
  clear hr2 hc2
  have HB := Aside0.mk (Below.refl w.heap.size w)
  have HUP := Aside0.mk hup
  have HOF := Aside0.mk hof
  clear hup hof
  have c21b0 := eq_true c21
  have c21b1 : decide ((strOfNums l0).size + (strOfNums l1).size ≤ 9223372036854775807) = true := decide_eq_true c21
  have c21b2 : (9223372036854775807 < (strOfNums l0).size + (strOfNums l1).size) = False := eq_false (Nat.not_lt.2 c21)
  go_enter Tryd.func3, Tryd.ntmps3
  try go_wp2_with (first | ((with_reducible refine gate_callee (f := 7) rfl ?_); refine goesL_ (some 9) rfl rfl Tryd.func7 (by kernel_rfl) rfl #[] rfl (by (try simp only [List.map_toArray, List.map_cons, List.map_nil]); first | done | rfl | (simp only [List.length_drop, List.length_take]; rfl)) ?_; (with_reducible refine (wainscotlaw04_awake.calls k  true _ A4.out).mono ?_); rintro e wa ⟨rfl, hb⟩; refine ⟨_, rfl, ?_⟩; have n0_ := Aside0.mk (below_step (by repeat (first | (with_reducible first | exact HB.out | apply below_alloc | apply pw_below_drewN | apply below_drew1) | exact HB.out)) hb); clear HB; have HB := n0_; clear n0_; (try clear hb); (try clear hb2); (try clear hk); (try clear hi)) | ((with_reducible refine gate_callee (f := 8) rfl ?_); refine goesL_ (some 12) rfl rfl Tryd.func8 (by kernel_rfl) rfl #[.slice A0 l0.length c0] rfl (by (try simp only [List.map_toArray, List.map_cons, List.map_nil]); first | done | rfl | (simp only [List.length_drop, List.length_take]; rfl)) ?_; (with_reducible refine (keys_After.calls k _ _ l0 t160 _ ?side1 ?side2 A6.out).mono ?_); (case side1 => repeat (first | exact (Kd.C_below HR0.out HB.out) | (with_reducible refine Kd.C_alloc ?_ _) | (with_reducible refine Kd.C_drewN ?_ _) | (with_reducible refine Kd.C_drew ?_))); (case side2 => exact HC0.out); rintro e wb ⟨v161, rfl, ho0, hb⟩; refine ⟨_, rfl, ?_⟩; have n0_ := Aside0.mk (Kd.R_lower ho0 (below_size (by repeat (first | (with_reducible first | exact HB.out | apply below_alloc | apply pw_below_drewN | apply below_drew1) | exact HB.out)))); have n1_ := Aside0.mk (below_step (by repeat (first | (with_reducible first | exact HB.out | apply below_alloc | apply pw_below_drewN | apply below_drew1) | exact HB.out)) hb); clear HB; have HO162 := n0_; have HB := n1_; clear n0_ n1_; (try clear hb); (try clear hb2); (try clear hk); (try clear hi); (try clear ho0)))
  have n0_ := Aside0.mk (Kd.R_drew HO162.out)
  have n1_ := Aside0.mk (below_drew1 HB.out)
  clear HO162 HB
  have HO162 := n0_
  have HB := n1_
  clear n0_ n1_
  have hcv13 := own_string (P := Tryd.prog) Tryd.underlying22 Tryd.underlying5 Tryd.underlying9 (Kd.own_of_R HO162.out)
  refine start_ (n := 6) (S := fun W => (convert 22 9 v161).run Tryd.prog W = .ok (.string (strOfNums t160)) W) (ds := []) #[false, false, false, false, false, false] (by kernel_rfl) rfl rfl hcv13 (fun hHeld => ?_)
  clear hcv13
  generalize wb.drew = w12 at HO162 HB hHeld ⊢
  refine pure_ (i := 0) (N := some 13) (v := ?_) (a' := ?_) #[true, false, false, false, false, false] rfl rfl (by kernel_rfl) (fun _ _ _ h => h) (Or.inl ⟨by rfl, ?_⟩) ?_ ?_
  rotate_left
  · intro w'
    go_simp
    with_reducible rfl
  rotate_left
  · simp only [Act.put, List.setIfInBounds_toArray, List.set_cons_zero, List.set_cons_succ, i64_w, i32_w]
    rfl
  refine take_ (i := 1) (N := some 14) (v := ?_) (a' := ?_) #[true, true, false, false, false, false] rfl rfl (by kernel_rfl) (fun _ _ _ h => h) (Or.inl ⟨by rfl, ?_⟩) hHeld ?_ ?_
  rotate_left
  · intro w' hcvS
    go_simp
    with_reducible rfl
  rotate_left
  · simp only [Act.put, List.setIfInBounds_toArray, List.set_cons_zero, List.set_cons_succ, i64_w, i32_w]
    rfl
  refine pure_ (i := 2) (N := some 15) (v := ?_) (a' := ?_) #[true, true, true, false, false, false] rfl rfl (by kernel_rfl) (fun _ _ _ h => h) (Or.inl ⟨by rfl, ?_⟩) ?_ ?_
  rotate_left
  · intro w'
    go_simp
    with_reducible rfl
  rotate_left
  · simp only [Act.put, List.setIfInBounds_toArray, List.set_cons_zero, List.set_cons_succ, i64_w, i32_w]
    rfl
  refine one_ (i := 3) (N := some 16) #[true, true, true, true, false, false] rfl rfl (by kernel_rfl) (by decide) (fun K hK => ?_)
  refine goes_ Tryd.func9 (by kernel_rfl) rfl #[.slice A0 l0.length c0] (by rfl) rfl rfl (by (try simp only [List.map_toArray, List.map_cons, List.map_nil]); first | done | rfl | (simp only [List.length_drop, List.length_take]; rfl)) ?_
  with_reducible refine (wainscotref01_After.calls k _ _ l0 t160 _ ?side1 ?side2 A7.out).mono ?_
  (case side1 => repeat (first | exact (Kd.C_below HR0.out HB.out) | (with_reducible refine Kd.C_alloc ?_ _) | (with_reducible refine Kd.C_drewN ?_ _) | (with_reducible refine Kd.C_drew ?_)))
  (case side2 => exact HC0.out)
  rintro e w14 ⟨v164, rfl, ho0, hb⟩
  refine ⟨_, rfl, ?_⟩
  have n0_ := Aside0.mk (Kd.R_elder' (by (with_reducible repeat (first | apply Kd.R_alloc | apply Kd.R_drewN | apply Kd.R_drew)); exact HO162.out) (Kd.R_base ho0) hb)
  have n1_ := Aside0.mk (Kd.R_lower (Kd.R_new' ho0 (Kd.R_lt (by (with_reducible repeat (first | apply Kd.R_alloc | apply Kd.R_drewN | apply Kd.R_drew)); exact HO162.out))) (below_size (by repeat (first | (with_reducible first | exact HB.out | apply below_alloc | apply pw_below_drewN | apply below_drew1) | exact HB.out))))
  have n2_ := Aside0.mk (below_step (by repeat (first | (with_reducible first | exact HB.out | apply below_alloc | apply pw_below_drewN | apply below_drew1) | exact HB.out)) hb)
  clear HO162 HB hHeld
  have HO162 := n0_
  have HO165 := n1_
  have HB := n2_
  clear n0_ n1_ n2_ hb ho0
  refine hK.out _ _ (own_string (P := Tryd.prog) Tryd.underlying22 Tryd.underlying5 Tryd.underlying9 (Kd.own_of_R HO162.out)) (fun hHeld => ?_)
  clear hK K
  refine norm_ (a' := ?_) ?_ ?_
  rotate_left
  · show Act.put _ (some 16) _ = _
    simp only [Act.put, List.setIfInBounds_toArray, List.set_cons_zero, List.set_cons_succ, i64_w, i32_w]
    rfl
  refine one_ (i := 4) (N := some 17) #[true, true, true, true, true, false] rfl rfl (by kernel_rfl) (by decide) (fun K hK => ?_)
  have hcv15 := own_string (P := Tryd.prog) Tryd.underlying22 Tryd.underlying5 Tryd.underlying9 (Kd.own_of_R HO165.out)
  refine value_ (w1 := ?_) (v := ?_) (by rfl) rfl ?_ ?_
  rotate_left 2
  · go_simp
    constructor
    · rfl
    · rfl
  clear hcv15
  refine hK.out _ _ hHeld (fun hHeld2 => ?_)
  clear hK K hHeld2
  refine norm_ (a' := ?_) ?_ ?_
  rotate_left
  · show Act.put _ (some 17) _ = _
    simp only [Act.put, List.setIfInBounds_toArray, List.set_cons_zero, List.set_cons_succ, i64_w, i32_w]
    rfl
  refine pure_ (i := 5) (N := some 18) (v := ?_) (a' := ?_) #[true, true, true, true, true, true] rfl rfl (by kernel_rfl) (fun _ _ _ h => h) (Or.inl ⟨by rfl, ?_⟩) ?_ ?_
  rotate_left
  · intro w'
    go_simp
    with_reducible rfl
  rotate_left
  · simp only [Act.put, List.setIfInBounds_toArray, List.set_cons_zero, List.set_cons_succ, i64_w, i32_w]
    rfl
  refine done_ (by kernel_rfl) ?_
  obtain ⟨Ao17, co17, eo17⟩ := Kd.R_slice HO162.out
  subst eo17
  have c8b0 : ((strOfNums t160).toList == (strOfNums t160).toList) = true := beq_iff_eq.mpr rfl
  have c8b1 : ((strOfNums t160).toList != (strOfNums t160).toList) = false := bne_eq_false_iff_eq.mpr rfl
  by_cases c9 : (t160.length : Int) = 0
  · have c9b0 : ((t160.length : Int) == 0) = true := beq_iff_eq.mpr c9
    have c9b1 : ((t160.length : Int) != 0) = false := bne_eq_false_iff_eq.mpr c9
    go_wp2
    go_ret
    exact ⟨by first | rfl | (simp [errW_none, errW_some] <;> rfl) | (simp [*, errW_none, errW_some] <;> rfl), by repeat (first | (with_reducible first | exact HB.out | apply below_alloc | apply pw_below_drewN | apply below_drew1) | exact HB.out)⟩
  have c9b0 : ((t160.length : Int) == 0) = false := beq_eq_false_iff_ne.mpr c9
  have c9b1 : ((t160.length : Int) != 0) = true := bne_iff_ne.mpr c9
  have c22b0 : (Op.bytesLess (((strOfNums l0) ++ (strOfNums l1)).toList) ((strOfNums t160).toList)) = true := HUP.out c9
  have c22b1 : (Op.bytesLess ((strOfNums t160).toList) (((strOfNums l0) ++ (strOfNums l1)).toList)) = false := not_bytesLess_both _ _ c22b0
  have c22b2 : ((strOfNums t160).toList == ((strOfNums l0) ++ (strOfNums l1)).toList) = false := beq_eq_false_iff_ne.mpr (fun h => by rw [h, bytesLess_irrefl] at c22b0; exact Bool.false_ne_true c22b0)
  have hof := HOF.out c9
  clear HUP HOF c9
  go_wp2
  clear HO165
  have hcv35 := fun n => Kd.C_string (P := Tryd.prog) (A := A0) (c := c0) Tryd.underlying22 Tryd.underlying5 Tryd.underlying9 (Kd.C_drewN (Kd.C_below HR0.out HB.out) n)
  have hcv39 := fun n => Kd.C_string (P := Tryd.prog) (A := A1) (c := c1) Tryd.underlying22 Tryd.underlying5 Tryd.underlying9 (Kd.C_drewN (Kd.C_below HR1.out HB.out) n)
  have hcv40 := fun n => Kd.C_string (P := Tryd.prog) (A := A2) (c := c2) Tryd.underlying22 Tryd.underlying5 Tryd.underlying9 (Kd.C_drewN (Kd.C_below HR2.out HB.out) n)
  have hcv37 := fun n => own_string (P := Tryd.prog) Tryd.underlying22 Tryd.underlying5 Tryd.underlying9 (Kd.own_of_R (Kd.R_drewN HO162.out n))
  clear hHeld HO162
  by_cases c18 : (l0.length : Int) ≤ (l2.length : Int)
  case neg =>
    have c18b0 : decide ((l0.length : Int) ≤ (l2.length : Int)) = false := decide_eq_false c18
    have c18b1 : decide (l0.length ≤ l2.length) = false := decide_eq_false (fun h => c18 (Int.ofNat_le.mpr h))
    clear c18
    go_quiet (fail)
    replace hof := hof.resolve_left (fun h => by have h1 := of_decide_eq_false c18b1; exact h1 h.1)
    cases hl2 : Op.bytesLess ((strOfNums l2).toList) ((strOfNums l0).toList) with
    | true =>
      go_wp2
      go_ret
      exact ⟨by first | rfl | (simp [errW_none, errW_some] <;> rfl) | (simp [*, errW_none, errW_some] <;> rfl), by repeat (first | (with_reducible first | exact HB.out | apply below_alloc | apply pw_below_drewN | apply below_drew1) | exact HB.out)⟩
    | false =>
      have hl3 := (hof.resolve_left (by rw [hl2]; exact Bool.false_ne_true))
      go_wp2
      go_ret
      exact ⟨by first | rfl | (simp [errW_none, errW_some] <;> rfl) | (simp [*, errW_none, errW_some] <;> rfl), by repeat (first | (with_reducible first | exact HB.out | apply below_alloc | apply pw_below_drewN | apply below_drew1) | exact HB.out)⟩
  have c18b0 : decide ((l0.length : Int) ≤ (l2.length : Int)) = true := decide_eq_true c18
  have c18b1 : decide (l0.length ≤ l2.length) = true := decide_eq_true (Int.ofNat_le.mp c18)
  have c18b2 : l0.length ≤ l2.length := Int.ofNat_le.mp c18
  clear c18
  obtain ⟨i033, hi033, _, hsz33, _⟩ := info_parts info5
  obtain ⟨hcut33, hA33, hC33⟩ := print_take_of (P := Tryd.prog) (Value.int .u8) 0 22 5 .i64 Tryd.underlying22 hi033 hsz33 A2 c2 l2 (l0.length : Int) (by omega) (by omega) HC2.out
  have HR166 := Aside0.mk (Kd.C_of_reads (h1 := fun _ => rfl) (hA33 _ (Kd.reads_of_C HR2.out)))
  clear hA33 hC33 hi033 hsz33
  have hcv34 := fun n => Kd.C_string (P := Tryd.prog) (A := A2) (c := c2) Tryd.underlying22 Tryd.underlying5 Tryd.underlying9 (Kd.C_drewN (Kd.C_below HR166.out HB.out) n)
  have hlen : (List.take ((l0.length : Int)).toNat l2).length = l0.length := by simp [List.length_take, Nat.min_eq_left c18b2]
  rw [hlen] at hcv34 hcut33
  simp only [Int.toNat_natCast] at hcv34
  clear hlen
  cases c23 : ((strOfNums (l2.take l0.length)).toList == (strOfNums l0).toList) with
  | true =>
    go_quiet (fail)
    go_wp2
    go_ret
    exact ⟨by first | rfl | (simp [errW_none, errW_some] <;> rfl) | (simp [*, errW_none, errW_some] <;> rfl), by repeat (first | (with_reducible first | exact HB.out | apply below_alloc | apply pw_below_drewN | apply below_drew1) | exact HB.out)⟩
  | false =>
    replace hof := hof.resolve_left (fun h => (beq_eq_false_iff_ne.mp c23) h.2)
    go_quiet (fail)
    cases hl2 : Op.bytesLess ((strOfNums l2).toList) ((strOfNums l0).toList) with
    | true =>
      go_wp2
      go_ret
      exact ⟨by first | rfl | (simp [errW_none, errW_some] <;> rfl) | (simp [*, errW_none, errW_some] <;> rfl), by repeat (first | (with_reducible first | exact HB.out | apply below_alloc | apply pw_below_drewN | apply below_drew1) | exact HB.out)⟩
    | false =>
      have hl3 := (hof.resolve_left (by rw [hl2]; exact Bool.false_ne_true))
      go_wp2
      go_ret
      exact ⟨by first | rfl | (simp [errW_none, errW_some] <;> rfl) | (simp [*, errW_none, errW_some] <;> rfl), by repeat (first | (with_reducible first | exact HB.out | apply below_alloc | apply pw_below_drewN | apply below_drew1) | exact HB.out)⟩
end Go.Proofs.YtbibchinimhamaaDoor.SA
