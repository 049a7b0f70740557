import Derived.Test.YtbibchinimhamaaZ1
import Derived.Test.YtbibchinimhamaaWLast
namespace Go.Proofs.Ytbibchinimhamaa
open Go.RowKit Go.Proofs.YtbibchinimhamaaW.PrintLast
set_option maxRecDepth 1000000 in
set_option maxHeartbeats 4000000 in
theorem case_cmp {w : World} {A : Option Addr} {len cR g n c k : Nat} {a : Act} {X : Option Addr} {xs : List I} {fv : Nat → V} {ft : Nat → Int} {wr : World} {J : Act → World → Prop} {res : V × Int × Int}
    (hF : F32 w A len cR g n k 0 a) (hM : M32 w X xs c n g fv ft wr) (hx : HasI w X xs) (hk : k < xs.length) (hl : xs.length ≤ 1000) (ha : 0 ≤ (ei xs k).a ∧ (ei xs k).a < n) (hb : 0 ≤ (ei xs k).b ∧ (ei xs k).b < n) (hc : 0 ≤ (ei xs k).c ∧ (ei xs k).c < n) (hwf : ∀ i, i < n → (fv i).wf)
    (q0 : ((ei xs k).op.toList == [99, 111, 110, 115, 116]) = false) (q1 : ((ei xs k).op.toList == [99, 111, 108]) = false) (q2 : ((ei xs k).op.toList == [110, 101, 103]) = false) (q3 : ((ei xs k).op.toList == [43]) = false) (q4 : ((ei xs k).op.toList == [45]) = false) (q5 : ((ei xs k).op.toList == [42]) = false) (q6 : ((ei xs k).op.toList == [110, 117, 108, 108]) = false) (q7 : ((ei xs k).op.toList == [115, 111, 109, 101]) = false) (q8 : ((ei xs k).op.toList == [110, 111, 116]) = false) (q9 : ((ei xs k).op.toList == [97, 110, 100]) = false) (q10 : ((ei xs k).op.toList == [111, 114]) = false) (q11 : ((ei xs k).op.toList == [102, 97, 108, 115, 101]) = false) (q12 : ((ei xs k).op.toList == [116, 114, 117, 101]) = false) (q13 : ((ei xs k).op.toList == [99, 111, 112, 121]) = false)
    (hJ : ∀ a' w', F32 w A len cR g n (k + 1) (cmpR (ei xs k).op (fv (ei xs k).b.toNat) (fv (ei xs k).c.toNat)).2 a' → M32 w X xs c n g fv (upd ft (ei xs k).a.toNat (cmpR (ei xs k).op (fv (ei xs k).b.toNat) (fv (ei xs k).c.toNat)).1) w' → J a' w') :
    body32.wp Try.prog (Exit.jump 0 J (bodyPost Try.prog Try.f32 (post32 w res))) a wr := by
  have HM := Lib.hid hM
  have HJ := Lib.hid hJ
  obtain ⟨b, o, rfl, hc⟩ := hx (by intro h; subst h; simp at hk)
  have IAT := Lib.hid ((hc k hk).below hM.hb)
  clear hM hc hx hJ
  generalize ei xs k = x at *
  obtain ⟨x0, x1, x2, x3, x4, x5, x6⟩ := IAT.out
  obtain ⟨p0, p1⟩ := HM.out.hp
  have z1 := lt_of_cell x0
  have zr := HM.out.hr.lt
  have i0 : (0 : Int) ≤ (k : Int) := by omega
  have i1 : (k : Int) < (xs.length : Int) := by omega
  have nk : ¬ ((k : Int) = (xs.length : Int)) := by omega
  have HW := Lib.hid hwf
  clear hwf
  obtain ⟨ha0, ha1⟩ := ha
  obtain ⟨ra, hra⟩ := Int.eq_ofNat_of_zero_le ha0
  obtain ⟨a0, a1, a2, a3⟩ := HM.out.hr.cells (i := ra) (by omega)
  obtain ⟨hb0, hb1⟩ := hb
  obtain ⟨rb, hrb⟩ := Int.eq_ofNat_of_zero_le hb0
  obtain ⟨b0, b1, b2, b3⟩ := HM.out.hr.cells (i := rb) (by omega)
  obtain ⟨hc0, hc1⟩ := hc
  obtain ⟨rc, hrc⟩ := Int.eq_ofNat_of_zero_le hc0
  obtain ⟨c0, c1, c2, c3⟩ := HM.out.hr.cells (i := rc) (by omega)
  have HR := Lib.hid (show True from trivial)
  rw [hra] at x1 ha0 ha1
  try rw [hra] at HJ
  rw [hrb] at x2 hb0 hb1
  try rw [hrb] at HJ
  rw [hrc] at x3 hc0 hc1
  try rw [hrc] at HJ
  simp only [Int.toNat_natCast] at HJ
  have g0 := HM.out.hr.free
  obtain ⟨u, rfl⟩ := hF.lit
  clear hF HR
  conv => arg 2; whnf
  go_wp2_with fail
  obtain ⟨W, hW⟩ : ∃ W, W = wr.alloc (.cells #[.string x.op, .int .i64 ra, .int .i64 rb, .int .i64 rc, .int .i64 x.v.k, .int .i64 x.v.n, .string x.v.s] 55) := ⟨_, rfl⟩
  have HM1 := Lib.hid (show M32 w _ xs c n g fv ft W by rw [hW]; exact HM.out.below (by go_grown))
  have HI : W.cell? ⟨wr.heap.size, 0, none⟩ = some (.string x.op) ∧ W.cell? ⟨wr.heap.size, 2, none⟩ = some (.int .i64 rb) ∧ W.cell? ⟨wr.heap.size, 3, none⟩ = some (.int .i64 rc) := by rw [hW]; refine ⟨?_, ?_, ?_⟩ <;> go_simp
  rw [← hW]
  clear hW HM IAT p0 p1 a0 a1 a2 a3 b0 b1 b2 b3 c0 c1 c2 c3 g0 z1 zr x0 x1 x2 x3 x4 x5 x6
  obtain ⟨y0, y2, y3⟩ := HI
  obtain ⟨a0, a1, a2, a3⟩ := HM1.out.hr.cells (i := ra) (by omega)
  obtain ⟨b0, b1, b2, b3⟩ := HM1.out.hr.cells (i := rb) (by omega)
  obtain ⟨c0, c1, c2, c3⟩ := HM1.out.hr.cells (i := rc) (by omega)
  have g0 := HM1.out.hr.free
  have zr := HM1.out.hr.lt
  have HS : (fun U : World => U.cell? ⟨wr.heap.size, 0, none⟩ = some (.string x.op) ∧ U.cell? ⟨wr.heap.size, 2, none⟩ = some (.int .i64 rb) ∧ U.cell? ⟨wr.heap.size, 3, none⟩ = some (.int .i64 rc) ∧ U.cell? ⟨g, rb * 4, none⟩ = some (.int .i64 (fv rb).k) ∧ U.cell? ⟨g, rb * 4 + 1, none⟩ = some (.int .i64 (fv rb).n) ∧ U.cell? ⟨g, rb * 4 + 2, none⟩ = some (.string (fv rb).s) ∧ U.cell? ⟨g, rb * 4 + 3, none⟩ = some (.int .i64 (ft rb)) ∧ U.cell? ⟨g, rc * 4, none⟩ = some (.int .i64 (fv rc).k) ∧ U.cell? ⟨g, rc * 4 + 1, none⟩ = some (.int .i64 (fv rc).n) ∧ U.cell? ⟨g, rc * 4 + 2, none⟩ = some (.string (fv rc).s) ∧ U.cell? ⟨g, rc * 4 + 3, none⟩ = some (.int .i64 (ft rc))) W.drew := ⟨y0, y2, y3, b0, b1, b2, b3, c0, c1, c2, c3⟩
  refine start_ (n := 23) (S := fun U : World => U.cell? ⟨wr.heap.size, 0, none⟩ = some (.string x.op) ∧ U.cell? ⟨wr.heap.size, 2, none⟩ = some (.int .i64 rb) ∧ U.cell? ⟨wr.heap.size, 3, none⟩ = some (.int .i64 rc) ∧ U.cell? ⟨g, rb * 4, none⟩ = some (.int .i64 (fv rb).k) ∧ U.cell? ⟨g, rb * 4 + 1, none⟩ = some (.int .i64 (fv rb).n) ∧ U.cell? ⟨g, rb * 4 + 2, none⟩ = some (.string (fv rb).s) ∧ U.cell? ⟨g, rb * 4 + 3, none⟩ = some (.int .i64 (ft rb)) ∧ U.cell? ⟨g, rc * 4, none⟩ = some (.int .i64 (fv rc).k) ∧ U.cell? ⟨g, rc * 4 + 1, none⟩ = some (.int .i64 (fv rc).n) ∧ U.cell? ⟨g, rc * 4 + 2, none⟩ = some (.string (fv rc).s) ∧ U.cell? ⟨g, rc * 4 + 3, none⟩ = some (.int .i64 (ft rc))) (ds := [21, 22]) #[false, false, false, false, false, false, false, false, false, false, false, false, false, false, false, false, false, false, false, false, false, false, false] (by kernel_rfl) rfl rfl HS (fun hHeld => ?_)
  generalize hW1 : W.drew = W1 at hHeld ⊢
  refine pure_ (i := 0) (N := (some 61)) (v := ?_) (a' := ?_) #[true, false, false, false, false, false, false, false, false, false, false, false, false, false, false, false, false, false, false, false, false, false, false] rfl rfl (by kernel_rfl) (fun _ _ _ h => h) (Or.inl ⟨by rfl, ?_⟩) ?_ ?_
  rotate_left
  · intro w'
    go_simp
    with_reducible rfl
  rotate_left
  · simp only [Act.put, List.setIfInBounds_toArray, List.set_cons_zero, List.set_cons_succ]
    rfl
  refine pure_ (i := 1) (N := (some 62)) (v := ?_) (a' := ?_) #[true, true, false, false, false, false, false, false, false, false, false, false, false, false, false, false, false, false, false, false, false, false, false] rfl rfl (by kernel_rfl) (fun _ _ _ h => h) (Or.inl ⟨by rfl, ?_⟩) ?_ ?_
  rotate_left
  · intro w'
    go_simp
    with_reducible rfl
  rotate_left
  · simp only [Act.put, List.setIfInBounds_toArray, List.set_cons_zero, List.set_cons_succ]
    rfl
  refine take_ (i := 2) (N := (some 63)) (v := ?_) (a' := ?_) #[true, true, true, false, false, false, false, false, false, false, false, false, false, false, false, false, false, false, false, false, false, false, false] rfl rfl (by kernel_rfl) (fun _ _ _ h => h) (Or.inl ⟨by rfl, ?_⟩) hHeld ?_ ?_
  rotate_left
  · rintro w' ⟨s0, s2, s3, sb0, sb1, sb2, sb3, sc0, sc1, sc2, sc3⟩
    go_simp
    with_reducible rfl
  rotate_left
  · simp only [Act.put, List.setIfInBounds_toArray, List.set_cons_zero, List.set_cons_succ]
    rfl
  refine pure_ (i := 3) (N := (some 64)) (v := ?_) (a' := ?_) #[true, true, true, true, false, false, false, false, false, false, false, false, false, false, false, false, false, false, false, false, false, false, false] rfl rfl (by kernel_rfl) (fun _ _ _ h => h) (Or.inl ⟨by rfl, ?_⟩) ?_ ?_
  rotate_left
  · intro w'
    go_simp
    with_reducible rfl
  rotate_left
  · simp only [Act.put, List.setIfInBounds_toArray, List.set_cons_zero, List.set_cons_succ]
    rfl
  refine pure_ (i := 4) (N := (some 65)) (v := ?_) (a' := ?_) #[true, true, true, true, true, false, false, false, false, false, false, false, false, false, false, false, false, false, false, false, false, false, false] rfl rfl (by kernel_rfl) (fun _ _ _ h => h) (Or.inl ⟨by rfl, ?_⟩) ?_ ?_
  rotate_left
  · intro w'
    go_simp
    with_reducible rfl
  rotate_left
  · simp only [Act.put, List.setIfInBounds_toArray, List.set_cons_zero, List.set_cons_succ]
    rfl
  refine take_ (i := 5) (N := (some 66)) (v := ?_) (a' := ?_) #[true, true, true, true, true, true, false, false, false, false, false, false, false, false, false, false, false, false, false, false, false, false, false] rfl rfl (by kernel_rfl) (fun _ _ _ h => h) (Or.inl ⟨by rfl, ?_⟩) hHeld ?_ ?_
  rotate_left
  · rintro w' ⟨s0, s2, s3, sb0, sb1, sb2, sb3, sc0, sc1, sc2, sc3⟩
    go_simp
    with_reducible rfl
  rotate_left
  · simp only [Act.put, List.setIfInBounds_toArray, List.set_cons_zero, List.set_cons_succ]
    rfl
  refine pure_ (i := 6) (N := (some 67)) (v := ?_) (a' := ?_) #[true, true, true, true, true, true, true, false, false, false, false, false, false, false, false, false, false, false, false, false, false, false, false] rfl rfl (by kernel_rfl) (fun _ _ _ h => h) (Or.inl ⟨by rfl, ?_⟩) ?_ ?_
  rotate_left
  · intro w'
    go_simp
    with_reducible rfl
  rotate_left
  · simp only [Act.put, List.setIfInBounds_toArray, List.set_cons_zero, List.set_cons_succ]
    rfl
  refine pure_ (i := 7) (N := (some 68)) (v := ?_) (a' := ?_) #[true, true, true, true, true, true, true, true, false, false, false, false, false, false, false, false, false, false, false, false, false, false, false] rfl rfl (by kernel_rfl) (fun _ _ _ h => h) (Or.inl ⟨by rfl, ?_⟩) ?_ ?_
  rotate_left
  · intro w'
    go_simp
    with_reducible rfl
  rotate_left
  · simp only [Act.put, List.setIfInBounds_toArray, List.set_cons_zero, List.set_cons_succ]
    rfl
  refine take_ (i := 8) (N := (some 69)) (v := ?_) (a' := ?_) #[true, true, true, true, true, true, true, true, true, false, false, false, false, false, false, false, false, false, false, false, false, false, false] rfl rfl (by kernel_rfl) (fun _ _ _ h => h) (Or.inl ⟨by rfl, ?_⟩) hHeld ?_ ?_
  rotate_left
  · rintro w' ⟨s0, s2, s3, sb0, sb1, sb2, sb3, sc0, sc1, sc2, sc3⟩
    go_simp
    with_reducible rfl
  rotate_left
  · simp only [Act.put, List.setIfInBounds_toArray, List.set_cons_zero, List.set_cons_succ]
    rfl
  refine pure_ (i := 9) (N := (some 70)) (v := ?_) (a' := ?_) #[true, true, true, true, true, true, true, true, true, true, false, false, false, false, false, false, false, false, false, false, false, false, false] rfl rfl (by kernel_rfl) (fun _ _ _ h => h) (Or.inl ⟨by rfl, ?_⟩) ?_ ?_
  rotate_left
  · intro w'
    go_simp
    with_reducible rfl
  rotate_left
  · simp only [Act.put, List.setIfInBounds_toArray, List.set_cons_zero, List.set_cons_succ]
    rfl
  refine pure_ (i := 10) (N := (some 71)) (v := ?_) (a' := ?_) #[true, true, true, true, true, true, true, true, true, true, true, false, false, false, false, false, false, false, false, false, false, false, false] rfl rfl (by kernel_rfl) (fun _ _ _ h => h) (Or.inl ⟨by rfl, ?_⟩) ?_ ?_
  rotate_left
  · intro w'
    go_simp
    with_reducible rfl
  rotate_left
  · simp only [Act.put, List.setIfInBounds_toArray, List.set_cons_zero, List.set_cons_succ]
    rfl
  refine take_ (i := 11) (N := (some 72)) (v := ?_) (a' := ?_) #[true, true, true, true, true, true, true, true, true, true, true, true, false, false, false, false, false, false, false, false, false, false, false] rfl rfl (by kernel_rfl) (fun _ _ _ h => h) (Or.inl ⟨by rfl, ?_⟩) hHeld ?_ ?_
  rotate_left
  · rintro w' ⟨s0, s2, s3, sb0, sb1, sb2, sb3, sc0, sc1, sc2, sc3⟩
    go_simp
    with_reducible rfl
  rotate_left
  · simp only [Act.put, List.setIfInBounds_toArray, List.set_cons_zero, List.set_cons_succ]
    rfl
  refine pure_ (i := 12) (N := (some 73)) (v := ?_) (a' := ?_) #[true, true, true, true, true, true, true, true, true, true, true, true, true, false, false, false, false, false, false, false, false, false, false] rfl rfl (by kernel_rfl) (fun _ _ _ h => h) (Or.inl ⟨by rfl, ?_⟩) ?_ ?_
  rotate_left
  · intro w'
    go_simp
    with_reducible rfl
  rotate_left
  · simp only [Act.put, List.setIfInBounds_toArray, List.set_cons_zero, List.set_cons_succ]
    rfl
  refine pure_ (i := 13) (N := (some 74)) (v := ?_) (a' := ?_) #[true, true, true, true, true, true, true, true, true, true, true, true, true, true, false, false, false, false, false, false, false, false, false] rfl rfl (by kernel_rfl) (fun _ _ _ h => h) (Or.inl ⟨by rfl, ?_⟩) ?_ ?_
  rotate_left
  · intro w'
    go_simp
    with_reducible rfl
  rotate_left
  · simp only [Act.put, List.setIfInBounds_toArray, List.set_cons_zero, List.set_cons_succ]
    rfl
  refine take_ (i := 14) (N := (some 75)) (v := ?_) (a' := ?_) #[true, true, true, true, true, true, true, true, true, true, true, true, true, true, true, false, false, false, false, false, false, false, false] rfl rfl (by kernel_rfl) (fun _ _ _ h => h) (Or.inl ⟨by rfl, ?_⟩) hHeld ?_ ?_
  rotate_left
  · rintro w' ⟨s0, s2, s3, sb0, sb1, sb2, sb3, sc0, sc1, sc2, sc3⟩
    go_simp
    with_reducible rfl
  rotate_left
  · simp only [Act.put, List.setIfInBounds_toArray, List.set_cons_zero, List.set_cons_succ]
    rfl
  refine one_ (i := 15) (N := (some 76)) #[true, true, true, true, true, true, true, true, true, true, true, true, true, true, true, true, false, false, false, false, false, false, false] rfl rfl (by kernel_rfl) (by decide) (fun K hK => ?_)
  refine goes_ Try.func15 (by kernel_rfl) rfl #[.string x.op, (fv rb).val, (fv rc).val] (by rfl) rfl rfl (by (try simp only [List.map_toArray, List.map_cons, List.map_nil]); first | done | rfl) ?_
  refine (compare15 x.op (fv rb) (fv rc) _ (HW.out rb (by omega)).2.2 (HW.out rc (by omega)).2.2).mono ?_
  rintro e w1 ⟨rfl, hq1⟩
  refine ⟨_, rfl, ?_⟩
  have HM2 := Lib.hid ((HM1.out.below (show Below W.heap.size W W1 by rw [← hW1]; exact (Below.refl _ _).drew)).below hq1)
  obtain ⟨s0, s2, s3, sb0, sb1, sb2, sb3, sc0, sc1, sc2, sc3⟩ := hHeld
  refine hK.out _ _ ⟨cellBelow s0 hq1, cellBelow s2 hq1, cellBelow s3 hq1, cellBelow sb0 hq1, cellBelow sb1 hq1, cellBelow sb2 hq1, cellBelow sb3 hq1, cellBelow sc0 hq1, cellBelow sc1 hq1, cellBelow sc2 hq1, cellBelow sc3 hq1⟩ (fun hHeld => ?_)
  clear hK K s0 s2 s3 sb0 sb1 sb2 sb3 sc0 sc1 sc2 sc3 hq1 hW1
  refine norm_ (a' := ?_) ?_ ?_
  rotate_left
  · show Act.put _ (some 76) _ = _
    simp only [Act.put, List.setIfInBounds_toArray, List.set_cons_zero, List.set_cons_succ]
    rfl
  refine pure_ (i := 16) (N := (some 60)) (v := ?_) (a' := ?_) #[true, true, true, true, true, true, true, true, true, true, true, true, true, true, true, true, true, false, false, false, false, false, false] rfl rfl (by kernel_rfl) (fun _ _ _ h => h) (Or.inl ⟨by rfl, ?_⟩) ?_ ?_
  rotate_left
  · intro w'
    go_simp
    with_reducible rfl
  rotate_left
  · simp only [Act.put, List.setIfInBounds_toArray, List.set_cons_zero, List.set_cons_succ]
    rfl
  refine pure_ (i := 17) (N := (some 77)) (v := ?_) (a' := ?_) #[true, true, true, true, true, true, true, true, true, true, true, true, true, true, true, true, true, true, false, false, false, false, false] rfl rfl (by kernel_rfl) (fun _ _ _ h => h) (Or.inl ⟨by rfl, ?_⟩) ?_ ?_
  rotate_left
  · intro w'
    go_simp
    with_reducible rfl
  rotate_left
  · simp only [Act.put, List.setIfInBounds_toArray, List.set_cons_zero, List.set_cons_succ]
    rfl
  refine pure_ (i := 18) (N := (some 78)) (v := ?_) (a' := ?_) #[true, true, true, true, true, true, true, true, true, true, true, true, true, true, true, true, true, true, true, false, false, false, false] rfl rfl (by kernel_rfl) (fun _ _ _ h => h) (Or.inl ⟨by rfl, ?_⟩) ?_ ?_
  rotate_left
  · intro w'
    go_simp
    with_reducible rfl
  rotate_left
  · simp only [Act.put, List.setIfInBounds_toArray, List.set_cons_zero, List.set_cons_succ]
    rfl
  refine pure_ (i := 19) (N := (some 79)) (v := ?_) (a' := ?_) #[true, true, true, true, true, true, true, true, true, true, true, true, true, true, true, true, true, true, true, true, false, false, false] rfl rfl (by kernel_rfl) (fun _ _ _ h => h) (Or.inl ⟨by rfl, ?_⟩) ?_ ?_
  rotate_left
  · intro w'
    go_simp
    with_reducible rfl
  rotate_left
  · simp only [Act.put, List.setIfInBounds_toArray, List.set_cons_zero, List.set_cons_succ]
    rfl
  refine pure_ (i := 20) (N := (some 80)) (v := ?_) (a' := ?_) #[true, true, true, true, true, true, true, true, true, true, true, true, true, true, true, true, true, true, true, true, true, false, false] rfl rfl (by kernel_rfl) (fun _ _ _ h => h) (Or.inl ⟨by rfl, ?_⟩) ?_ ?_
  rotate_left
  · intro w'
    go_simp
    with_reducible rfl
  rotate_left
  · simp only [Act.put, List.setIfInBounds_toArray, List.set_cons_zero, List.set_cons_succ]
    rfl
  refine last_ (i := 21) (N := none) #[true, true, true, true, true, true, true, true, true, true, true, true, true, true, true, true, true, true, true, true, true, true, false] rfl rfl (by kernel_rfl) (by decide) (fun K hK => ?_)
  clear a0 a1 a2 a3 b0 b1 b2 b3 c0 c1 c2 c3 g0 zr hHeld HS y0 y2 y3
  obtain ⟨a0, a1, a2, a3⟩ := HM2.out.hr.cells (i := ra) (by omega)
  have g0 := HM2.out.hr.free
  refine skip_ (w1 := ?_) (by rfl) rfl ?_ ?_
  rotate_left
  · go_simp
    rfl
  refine hK.out _ _ ?_
  clear hK K
  refine pure_ (i := 22) (N := (some 10)) (v := ?_) (a' := ?_) #[true, true, true, true, true, true, true, true, true, true, true, true, true, true, true, true, true, true, true, true, true, true, true] rfl rfl (by kernel_rfl) (fun _ _ _ h => h) (Or.inl ⟨by rfl, ?_⟩) ?_ ?_
  rotate_left
  · intro w'
    go_simp
    with_reducible rfl
  rotate_left
  · simp only [Act.put, List.setIfInBounds_toArray, List.set_cons_zero, List.set_cons_succ]
    rfl
  refine done_ (by kernel_rfl) ?_
  go_wp2
  go_step3
  simp only [Exit.jump]
  exact ⟨trivial, HJ.out _ _ ⟨rfl, rfl, rfl, rfl, rfl, rfl, rfl, rfl⟩ (HM2.out.setT ra _)⟩
end Go.Proofs.Ytbibchinimhamaa
