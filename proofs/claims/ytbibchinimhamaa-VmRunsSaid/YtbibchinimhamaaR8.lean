import Derived.Test.YtbibchinimhamaaR2
import Derived.Test.YtbibchinimhamaaWLast
namespace Go.Proofs.Ytbibchinimhamaa
set_option linter.unusedVariables false
set_option linter.unusedSimpArgs false
open Go.RowKit Go.Proofs.YtbibchinimhamaaW.PrintLast
set_option maxRecDepth 1000000 in
set_option maxHeartbeats 4000000 in
theorem rcase_neg {w : World} {A : Option Addr} {len cR gv gt n c k : Nat} {a : Act} {X : Option Addr} {xs : List I} {fv : Nat → V} {ft : Nat → Int} {wr : World} {J K0 : Act → World → Prop} {res : V × Int × Int}
    (hF : F33 w A len cR gv gt n k a) (hM : M33 w X xs c n gv gt fv ft wr) (hx : HasI w X xs) (hk : k < xs.length) (hl : xs.length ≤ 1000) (ha : 0 ≤ (ei xs k).a ∧ (ei xs k).a < n) (hb : 0 ≤ (ei xs k).b ∧ (ei xs k).b < n) (hwf : ∀ i, i < n → (fv i).wf)
    (hop : (ei xs k).op.toList = [110, 101, 103])
    (hJ : (recR ⟨#[45]⟩ oneV (fv (ei xs k).b.toNat)).2 = 0 → ∀ a' w', F33 w A len cR gv gt n (k + 1) a' → M33 w X xs c n gv gt (upd fv (ei xs k).a.toNat (recR ⟨#[45]⟩ oneV (fv (ei xs k).b.toNat)).1) ft w' → J a' w') (hE : ¬ (recR ⟨#[45]⟩ oneV (fv (ei xs k).b.toNat)).2 = 0 → res = (zV, 0, (recR ⟨#[45]⟩ oneV (fv (ei xs k).b.toNat)).2)) :
    body33.wp Try.prog (Exit.then J (Exit.inBlock 2 (Exit.then K0 (bodyPost Try.prog Try.f33 (post32 w res))))) a wr := by
  have HM := Lib.hid hM
  have HJ := Lib.hid hJ
  have HE := Lib.hid hE
  clear hE
  obtain ⟨b, o, rfl, hc⟩ := hx (by intro h; subst h; simp at hk)
  have IAT := Lib.hid ((hc k hk).below hM.hb)
  clear hM hc hx hJ
  generalize ei xs k = x at *
  obtain ⟨x0, x1, x2, x3, x4, x5, x6⟩ := IAT.out
  obtain ⟨p0, p1⟩ := HM.out.hp
  have z1 := lt_of_cell x0
  have zv := HM.out.hv.lt
  have zt := HM.out.ht.lt
  have i0 : (0 : Int) ≤ (k : Int) := by omega
  have i1 : (k : Int) < (xs.length : Int) := by omega
  have HW := Lib.hid hwf
  clear hwf
  obtain ⟨ha0, ha1⟩ := ha
  obtain ⟨ra, hra⟩ := Int.eq_ofNat_of_zero_le ha0
  obtain ⟨a0, a1, a2⟩ := HM.out.hv.cells (i := ra) (by omega)
  have a3 := HM.out.ht.cells (i := ra) (by omega)
  obtain ⟨hb0, hb1⟩ := hb
  obtain ⟨rb, hrb⟩ := Int.eq_ofNat_of_zero_le hb0
  obtain ⟨b0, b1, b2⟩ := HM.out.hv.cells (i := rb) (by omega)
  have b3 := HM.out.ht.cells (i := rb) (by omega)
  have HR := Lib.hid (show True from trivial)
  rw [hra] at x1 ha0 ha1
  try rw [hra] at HJ
  try rw [hra] at HE
  rw [hrb] at x2 hb0 hb1
  try rw [hrb] at HJ
  try rw [hrb] at HE
  simp only [Int.toNat_natCast] at HJ HE
  have gf := HM.out.hv.free
  have hf := HM.out.ht.free
  obtain ⟨u, rfl⟩ := hF.lit
  clear hF HR
  conv => arg 2; whnf
  go_wp2_with fail
  obtain ⟨W, hW⟩ : ∃ W, W = wr.alloc (.cells #[.string x.op, .int .i64 ra, .int .i64 rb, .int .i64 x.c, .int .i64 x.v.k, .int .i64 x.v.n, .string x.v.s] 57) := ⟨_, rfl⟩
  have HM1 := Lib.hid (show M33 w _ xs c n gv gt fv ft W by rw [hW]; exact HM.out.below (by go_grown))
  have HI : W.cell? ⟨wr.heap.size, 0, none⟩ = some (.string x.op) ∧ W.cell? ⟨wr.heap.size, 1, none⟩ = some (.int .i64 ra) ∧ W.cell? ⟨wr.heap.size, 2, none⟩ = some (.int .i64 rb) ∧ W.cell? ⟨wr.heap.size, 3, none⟩ = some (.int .i64 x.c) := by rw [hW]; refine ⟨?_, ?_, ?_, ?_⟩ <;> go_simp
  rw [← hW]
  clear hW HM IAT p0 p1 gf hf z1 zv zt x0 x1 x2 x3 x4 x5 x6 a0 a1 a2 a3 b0 b1 b2 b3
  obtain ⟨y0, y1, y2, y3⟩ := HI
  obtain ⟨a0, a1, a2⟩ := HM1.out.hv.cells (i := ra) (by omega)
  have a3 := HM1.out.ht.cells (i := ra) (by omega)
  obtain ⟨b0, b1, b2⟩ := HM1.out.hv.cells (i := rb) (by omega)
  have b3 := HM1.out.ht.cells (i := rb) (by omega)
  have gf := HM1.out.hv.free
  have hf := HM1.out.ht.free
  have zv := HM1.out.hv.lt
  have zt := HM1.out.ht.lt
  have HS : (fun U : World => U.cell? ⟨wr.heap.size, 0, none⟩ = some (.string x.op) ∧ U.cell? ⟨wr.heap.size, 1, none⟩ = some (.int .i64 ra) ∧ U.cell? ⟨wr.heap.size, 2, none⟩ = some (.int .i64 rb) ∧ U.cell? ⟨gv, rb * 3, none⟩ = some (.int .i64 (fv rb).k) ∧ U.cell? ⟨gv, rb * 3 + 1, none⟩ = some (.int .i64 (fv rb).n) ∧ U.cell? ⟨gv, rb * 3 + 2, none⟩ = some (.string (fv rb).s)) W.drew := ⟨y0, y1, y2, b0, b1, b2⟩
  refine start_ (n := 16) (S := fun U : World => U.cell? ⟨wr.heap.size, 0, none⟩ = some (.string x.op) ∧ U.cell? ⟨wr.heap.size, 1, none⟩ = some (.int .i64 ra) ∧ U.cell? ⟨wr.heap.size, 2, none⟩ = some (.int .i64 rb) ∧ U.cell? ⟨gv, rb * 3, none⟩ = some (.int .i64 (fv rb).k) ∧ U.cell? ⟨gv, rb * 3 + 1, none⟩ = some (.int .i64 (fv rb).n) ∧ U.cell? ⟨gv, rb * 3 + 2, none⟩ = some (.string (fv rb).s)) (ds := [14, 15]) #[false, false, false, false, false, false, false, false, false, false, false, false, false, false, false, false] (by kernel_rfl) rfl rfl HS (fun hHeld => ?_)
  obtain ⟨W1, hW1⟩ : ∃ W1, W1 = W.drew := ⟨_, rfl⟩
  have HMW := Lib.hid (show M33 w _ xs c n gv gt fv ft W1 by rw [hW1]; exact HM1.out.below (Below.refl _ _).drew)
  rw [← hW1] at hHeld ⊢
  clear HS hW1
  refine pure_ (i := 0) (N := (some 96)) (v := ?_) (a' := ?_) #[true, false, false, false, false, false, false, false, false, false, false, false, false, false, false, false] rfl rfl (by kernel_rfl) (fun _ _ _ h => h) (Or.inl ⟨by rfl, ?_⟩) ?_ ?_
  rotate_left
  · intro w'
    go_simp
    with_reducible rfl
  rotate_left
  · simp only [Act.put, List.setIfInBounds_toArray, List.set_cons_zero, List.set_cons_succ]
    rfl
  refine pure_ (i := 1) (N := (some 97)) (v := ?_) (a' := ?_) #[true, true, false, false, false, false, false, false, false, false, false, false, false, false, false, false] rfl rfl (by kernel_rfl) (fun _ _ _ h => h) (Or.inl ⟨by rfl, ?_⟩) ?_ ?_
  rotate_left
  · intro w'
    go_simp
    with_reducible rfl
  rotate_left
  · simp only [Act.put, List.setIfInBounds_toArray, List.set_cons_zero, List.set_cons_succ]
    rfl
  refine take_ (i := 2) (N := (some 98)) (v := ?_) (a' := ?_) #[true, true, true, false, false, false, false, false, false, false, false, false, false, false, false, false] rfl rfl (by kernel_rfl) (fun _ _ _ h => h) (Or.inl ⟨by rfl, ?_⟩) hHeld ?_ ?_
  rotate_left
  · rintro w' ⟨s0, s1, s2, s3, s4, s5⟩
    go_simp
    with_reducible rfl
  rotate_left
  · simp only [Act.put, List.setIfInBounds_toArray, List.set_cons_zero, List.set_cons_succ]
    rfl
  refine pure_ (i := 3) (N := (some 99)) (v := ?_) (a' := ?_) #[true, true, true, true, false, false, false, false, false, false, false, false, false, false, false, false] rfl rfl (by kernel_rfl) (fun _ _ _ h => h) (Or.inl ⟨by rfl, ?_⟩) ?_ ?_
  rotate_left
  · intro w'
    go_simp
    with_reducible rfl
  rotate_left
  · simp only [Act.put, List.setIfInBounds_toArray, List.set_cons_zero, List.set_cons_succ]
    rfl
  refine pure_ (i := 4) (N := (some 100)) (v := ?_) (a' := ?_) #[true, true, true, true, true, false, false, false, false, false, false, false, false, false, false, false] rfl rfl (by kernel_rfl) (fun _ _ _ h => h) (Or.inl ⟨by rfl, ?_⟩) ?_ ?_
  rotate_left
  · intro w'
    go_simp
    with_reducible rfl
  rotate_left
  · simp only [Act.put, List.setIfInBounds_toArray, List.set_cons_zero, List.set_cons_succ]
    rfl
  refine pure_ (i := 5) (N := (some 101)) (v := ?_) (a' := ?_) #[true, true, true, true, true, true, false, false, false, false, false, false, false, false, false, false] rfl rfl (by kernel_rfl) (fun _ _ _ h => h) (Or.inl ⟨by rfl, ?_⟩) ?_ ?_
  rotate_left
  · intro w'
    go_simp
    with_reducible rfl
  rotate_left
  · simp only [Act.put, List.setIfInBounds_toArray, List.set_cons_zero, List.set_cons_succ]
    rfl
  refine take_ (i := 6) (N := (some 102)) (v := ?_) (a' := ?_) #[true, true, true, true, true, true, true, false, false, false, false, false, false, false, false, false] rfl rfl (by kernel_rfl) (fun _ _ _ h => h) (Or.inl ⟨by rfl, ?_⟩) hHeld ?_ ?_
  rotate_left
  · rintro w' ⟨s0, s1, s2, s3, s4, s5⟩
    go_simp
    with_reducible rfl
  rotate_left
  · simp only [Act.put, List.setIfInBounds_toArray, List.set_cons_zero, List.set_cons_succ]
    rfl
  refine pure_ (i := 7) (N := (some 103)) (v := ?_) (a' := ?_) #[true, true, true, true, true, true, true, true, false, false, false, false, false, false, false, false] rfl rfl (by kernel_rfl) (fun _ _ _ h => h) (Or.inl ⟨by rfl, ?_⟩) ?_ ?_
  rotate_left
  · intro w'
    go_simp
    with_reducible rfl
  rotate_left
  · simp only [Act.put, List.setIfInBounds_toArray, List.set_cons_zero, List.set_cons_succ]
    rfl
  refine take_ (i := 8) (N := (some 104)) (v := ?_) (a' := ?_) #[true, true, true, true, true, true, true, true, true, false, false, false, false, false, false, false] rfl rfl (by kernel_rfl) (fun _ _ _ h => h) (Or.inl ⟨by rfl, ?_⟩) hHeld ?_ ?_
  rotate_left
  · rintro w' ⟨s0, s1, s2, s3, s4, s5⟩
    go_simp
    with_reducible rfl
  rotate_left
  · simp only [Act.put, List.setIfInBounds_toArray, List.set_cons_zero, List.set_cons_succ]
    rfl
  refine one_ (i := 9) (N := (some 105)) #[true, true, true, true, true, true, true, true, true, true, false, false, false, false, false, false] rfl rfl (by kernel_rfl) (by decide) (fun K hK => ?_)
  refine goes_ Try.func30 (by kernel_rfl) rfl #[.string ⟨#[45]⟩, oneV.val, (fv rb).val] (by rfl) rfl rfl (by (try simp only [List.map_toArray, List.map_cons, List.map_nil]); first | done | rfl) ?_
  refine (reckon30 ⟨#[45]⟩ oneV (fv rb) _ ⟨by decide, by decide, Nat.zero_le _⟩ (HW.out rb (by omega))).mono ?_
  rintro e w1 ⟨rfl, hq1⟩
  refine ⟨_, rfl, ?_⟩
  have HM2 := Lib.hid (HMW.out.below hq1)
  obtain ⟨s0, s1, s2, s3, s4, s5⟩ := hHeld
  refine hK.out _ _ ⟨cellBelow s0 hq1, cellBelow s1 hq1, cellBelow s2 hq1, cellBelow s3 hq1, cellBelow s4 hq1, cellBelow s5 hq1⟩ (fun hHeld => ?_)
  clear hK K s0 s1 s2 s3 s4 s5 hq1
  refine norm_ (a' := ?_) ?_ ?_
  rotate_left
  · show Act.put _ (some 105) _ = _
    simp only [Act.put, List.setIfInBounds_toArray, List.set_cons_zero, List.set_cons_succ]
    rfl
  refine pure_ (i := 10) (N := (some 95)) (v := ?_) (a' := ?_) #[true, true, true, true, true, true, true, true, true, true, true, false, false, false, false, false] rfl rfl (by kernel_rfl) (fun _ _ _ h => h) (Or.inl ⟨by rfl, ?_⟩) ?_ ?_
  rotate_left
  · intro w'
    go_simp
    with_reducible rfl
  rotate_left
  · simp only [Act.put, List.setIfInBounds_toArray, List.set_cons_zero, List.set_cons_succ]
    rfl
  refine pure_ (i := 11) (N := (some 106)) (v := ?_) (a' := ?_) #[true, true, true, true, true, true, true, true, true, true, true, true, false, false, false, false] rfl rfl (by kernel_rfl) (fun _ _ _ h => h) (Or.inl ⟨by rfl, ?_⟩) ?_ ?_
  rotate_left
  · intro w'
    go_simp
    with_reducible rfl
  rotate_left
  · simp only [Act.put, List.setIfInBounds_toArray, List.set_cons_zero, List.set_cons_succ]
    rfl
  refine pure_ (i := 12) (N := (some 107)) (v := ?_) (a' := ?_) #[true, true, true, true, true, true, true, true, true, true, true, true, true, false, false, false] rfl rfl (by kernel_rfl) (fun _ _ _ h => h) (Or.inl ⟨by rfl, ?_⟩) ?_ ?_
  rotate_left
  · intro w'
    go_simp
    with_reducible rfl
  rotate_left
  · simp only [Act.put, List.setIfInBounds_toArray, List.set_cons_zero, List.set_cons_succ]
    rfl
  refine pure_ (i := 13) (N := (some 108)) (v := ?_) (a' := ?_) #[true, true, true, true, true, true, true, true, true, true, true, true, true, true, false, false] rfl rfl (by kernel_rfl) (fun _ _ _ h => h) (Or.inl ⟨by rfl, ?_⟩) ?_ ?_
  rotate_left
  · intro w'
    go_simp
    with_reducible rfl
  rotate_left
  · simp only [Act.put, List.setIfInBounds_toArray, List.set_cons_zero, List.set_cons_succ]
    rfl
  refine last_ (i := 14) (N := none) #[true, true, true, true, true, true, true, true, true, true, true, true, true, true, true, false] rfl rfl (by kernel_rfl) (by decide) (fun K hK => ?_)
  clear hHeld HM1 HMW
  clear a0 a1 a2 a3 b0 b1 b2 b3 gf hf zv zt y0 y1 y2 y3
  obtain ⟨a0, a1, a2⟩ := HM2.out.hv.cells (i := ra) (by omega)
  have gf := HM2.out.hv.free
  refine skip_ (w1 := ?_) (by rfl) rfl ?_ ?_
  rotate_left
  · go_simp
    rfl
  refine hK.out _ _ ?_
  clear hK K
  refine pure_ (i := 15) (N := (some 12)) (v := ?_) (a' := ?_) #[true, true, true, true, true, true, true, true, true, true, true, true, true, true, true, true] rfl rfl (by kernel_rfl) (fun _ _ _ h => h) (Or.inl ⟨by rfl, ?_⟩) ?_ ?_
  rotate_left
  · intro w'
    go_simp
    with_reducible rfl
  rotate_left
  · simp only [Act.put, List.setIfInBounds_toArray, List.set_cons_zero, List.set_cons_succ]
    rfl
  refine done_ (by kernel_rfl) ?_
  have HM3 := Lib.hid (HM2.out.setV ra (recR ⟨#[45]⟩ oneV (fv rb)).1)
  obtain ⟨W3, hW3⟩ : ∃ W3, W3 = ((w1.setCell ⟨gv, ra * 3, none⟩ (.int .i64 (recR ⟨#[45]⟩ oneV (fv rb)).1.k)).setCell ⟨gv, ra * 3 + 1, none⟩ (.int .i64 (recR ⟨#[45]⟩ oneV (fv rb)).1.n)).setCell ⟨gv, ra * 3 + 2, none⟩ (.string (recR ⟨#[45]⟩ oneV (fv rb)).1.s) := ⟨_, rfl⟩
  rw [← hW3] at HM3 ⊢
  clear hW3
  by_cases he : (recR ⟨#[45]⟩ oneV (fv rb)).2 = 0
  · rw [he]
    go_wp2
    exact HJ.out he _ _ ⟨rfl, rfl, rfl, rfl, rfl, rfl, rfl, rfl⟩ HM3.out
  · have HR := Lib.hid (HE.out he)
    obtain ⟨s0, s1, s2⟩ := HM3.out.ho.box
    have f0 := HM3.out.ho.free 0
    have f1 := HM3.out.ho.free 1
    have f2 := HM3.out.ho.free 2
    go_wp2
    rw [HR.out]
    refine bodyPost_ret (v := .tuple #[V.val zV, .int .i64 0, .int .i64 (recR ⟨#[45]⟩ oneV (fv rb)).2]) (by simp [results, Try.results33, go_sem, zV, s0, s1, s2]) rfl ⟨rfl, ?_⟩
    exact below3 HM3.out.hb (by omega) _ _ _
end Go.Proofs.Ytbibchinimhamaa
