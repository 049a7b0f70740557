import Derived.Test.YtbibchinimhamaaR2
import Derived.Test.YtbibchinimhamaaWLast
namespace Go.Proofs.Ytbibchinimhamaa
set_option linter.unusedVariables false
set_option linter.unusedSimpArgs false
open Go.RowKit Go.Proofs.YtbibchinimhamaaW.PrintLast
set_option maxRecDepth 1000000 in
set_option maxHeartbeats 4000000 in
theorem rcase_not {w : World} {A : Option Addr} {len cR gv gt n c k : Nat} {a : Act} {X : Option Addr} {xs : List I} {fv : Nat → V} {ft : Nat → Int} {wr : World} {J K0 : Act → World → Prop} {res : V × Int × Int}
    (hF : F33 w A len cR gv gt n k a) (hM : M33 w X xs c n gv gt fv ft wr) (hx : HasI w X xs) (hk : k < xs.length) (hl : xs.length ≤ 1000) (ha : 0 ≤ (ei xs k).a ∧ (ei xs k).a < n) (hb : 0 ≤ (ei xs k).b ∧ (ei xs k).b < n)
    (hop : (ei xs k).op.toList = [110, 111, 116])
    (hJ : ∀ a' w', F33 w A len cR gv gt n (k + 1) a' → M33 w X xs c n gv gt fv (upd ft (ei xs k).a.toNat (notO (ft (ei xs k).b.toNat))) w' → J a' w') :
    body33.wp Try.prog (Exit.then J (Exit.inBlock 2 (Exit.then K0 (bodyPost Try.prog Try.f33 (post32 w res))))) a wr := by
  have HM := Lib.hid hM
  have HJ := Lib.hid hJ
  obtain ⟨b, o, rfl, hc⟩ := hx (by intro h; subst h; simp at hk)
  have IAT := Lib.hid ((hc k hk).below hM.hb)
  clear hM hc hx hJ
  generalize ei xs k = x at *
  obtain ⟨x0, x1, x2, x3, x4, x5, x6⟩ := IAT.out
  obtain ⟨p0, p1⟩ := HM.out.hp
  have z1 := lt_of_cell x0
  have zv := HM.out.hv.lt
  have zt := HM.out.ht.lt
  have i0 : (0 : Int) ≤ (k : Int) := by omega
  have i1 : (k : Int) < (xs.length : Int) := by omega
  obtain ⟨ha0, ha1⟩ := ha
  obtain ⟨ra, hra⟩ := Int.eq_ofNat_of_zero_le ha0
  obtain ⟨a0, a1, a2⟩ := HM.out.hv.cells (i := ra) (by omega)
  have a3 := HM.out.ht.cells (i := ra) (by omega)
  obtain ⟨hb0, hb1⟩ := hb
  obtain ⟨rb, hrb⟩ := Int.eq_ofNat_of_zero_le hb0
  obtain ⟨b0, b1, b2⟩ := HM.out.hv.cells (i := rb) (by omega)
  have b3 := HM.out.ht.cells (i := rb) (by omega)
  have HR := Lib.hid (show True from trivial)
  rw [hra] at x1 ha0 ha1
  try rw [hra] at HJ
  rw [hrb] at x2 hb0 hb1
  try rw [hrb] at HJ
  simp only [Int.toNat_natCast] at HJ
  have gf := HM.out.hv.free
  have hf := HM.out.ht.free
  obtain ⟨u, rfl⟩ := hF.lit
  clear hF HR
  conv => arg 2; whnf
  go_wp2_with fail
  obtain ⟨W, hW⟩ : ∃ W, W = wr.alloc (.cells #[.string x.op, .int .i64 ra, .int .i64 rb, .int .i64 x.c, .int .i64 x.v.k, .int .i64 x.v.n, .string x.v.s] 57) := ⟨_, rfl⟩
  have HM1 := Lib.hid (show M33 w _ xs c n gv gt fv ft W by rw [hW]; exact HM.out.below (by go_grown))
  have HI : W.cell? ⟨wr.heap.size, 0, none⟩ = some (.string x.op) ∧ W.cell? ⟨wr.heap.size, 1, none⟩ = some (.int .i64 ra) ∧ W.cell? ⟨wr.heap.size, 2, none⟩ = some (.int .i64 rb) ∧ W.cell? ⟨wr.heap.size, 3, none⟩ = some (.int .i64 x.c) := by rw [hW]; refine ⟨?_, ?_, ?_, ?_⟩ <;> go_simp
  rw [← hW]
  clear hW HM IAT p0 p1 gf hf z1 zv zt x0 x1 x2 x3 x4 x5 x6 a0 a1 a2 a3 b0 b1 b2 b3
  obtain ⟨y0, y1, y2, y3⟩ := HI
  obtain ⟨a0, a1, a2⟩ := HM1.out.hv.cells (i := ra) (by omega)
  have a3 := HM1.out.ht.cells (i := ra) (by omega)
  obtain ⟨b0, b1, b2⟩ := HM1.out.hv.cells (i := rb) (by omega)
  have b3 := HM1.out.ht.cells (i := rb) (by omega)
  have gf := HM1.out.hv.free
  have hf := HM1.out.ht.free
  have zv := HM1.out.hv.lt
  have zt := HM1.out.ht.lt
  obtain ⟨tv, htv⟩ : ∃ tv, notO (ft rb) = tv := ⟨_, rfl⟩
  have HC := fun W => Calls_sym (not28 (ft rb) W)
  rw [htv] at HJ
  simp only [htv] at HC
  clear htv
  refine wp_region_still_tail 10 (by kernel_rfl) (by kernel_rfl) ?_
  simp only [List.take_succ_cons, List.take_zero, List.drop_succ_cons, List.drop_zero]
  change wpStill _ _ (World.drew _) _ _ _
  repeat still_step
  still_call (HC _)
  repeat still_step
  refine wpStill_nil ?_
  go_wp2
  exact HJ.out _ _ ⟨rfl, rfl, rfl, rfl, rfl, rfl, rfl, rfl⟩ ((HM1.out.below (Below.refl _ _).drew).setT ra _)
set_option maxRecDepth 1000000 in
set_option maxHeartbeats 4000000 in
theorem rcase_and {w : World} {A : Option Addr} {len cR gv gt n c k : Nat} {a : Act} {X : Option Addr} {xs : List I} {fv : Nat → V} {ft : Nat → Int} {wr : World} {J K0 : Act → World → Prop} {res : V × Int × Int}
    (hF : F33 w A len cR gv gt n k a) (hM : M33 w X xs c n gv gt fv ft wr) (hx : HasI w X xs) (hk : k < xs.length) (hl : xs.length ≤ 1000) (ha : 0 ≤ (ei xs k).a ∧ (ei xs k).a < n) (hb : 0 ≤ (ei xs k).b ∧ (ei xs k).b < n) (hc : 0 ≤ (ei xs k).c ∧ (ei xs k).c < n)
    (hop : (ei xs k).op.toList = [97, 110, 100])
    (hJ : ∀ a' w', F33 w A len cR gv gt n (k + 1) a' → M33 w X xs c n gv gt fv (upd ft (ei xs k).a.toNat (andO (ft (ei xs k).b.toNat) (ft (ei xs k).c.toNat))) w' → J a' w') :
    body33.wp Try.prog (Exit.then J (Exit.inBlock 2 (Exit.then K0 (bodyPost Try.prog Try.f33 (post32 w res))))) a wr := by
  have HM := Lib.hid hM
  have HJ := Lib.hid hJ
  obtain ⟨b, o, rfl, hc⟩ := hx (by intro h; subst h; simp at hk)
  have IAT := Lib.hid ((hc k hk).below hM.hb)
  clear hM hc hx hJ
  generalize ei xs k = x at *
  obtain ⟨x0, x1, x2, x3, x4, x5, x6⟩ := IAT.out
  obtain ⟨p0, p1⟩ := HM.out.hp
  have z1 := lt_of_cell x0
  have zv := HM.out.hv.lt
  have zt := HM.out.ht.lt
  have i0 : (0 : Int) ≤ (k : Int) := by omega
  have i1 : (k : Int) < (xs.length : Int) := by omega
  obtain ⟨ha0, ha1⟩ := ha
  obtain ⟨ra, hra⟩ := Int.eq_ofNat_of_zero_le ha0
  obtain ⟨a0, a1, a2⟩ := HM.out.hv.cells (i := ra) (by omega)
  have a3 := HM.out.ht.cells (i := ra) (by omega)
  obtain ⟨hb0, hb1⟩ := hb
  obtain ⟨rb, hrb⟩ := Int.eq_ofNat_of_zero_le hb0
  obtain ⟨b0, b1, b2⟩ := HM.out.hv.cells (i := rb) (by omega)
  have b3 := HM.out.ht.cells (i := rb) (by omega)
  obtain ⟨hc0, hc1⟩ := hc
  obtain ⟨rc, hrc⟩ := Int.eq_ofNat_of_zero_le hc0
  obtain ⟨c0, c1, c2⟩ := HM.out.hv.cells (i := rc) (by omega)
  have c3 := HM.out.ht.cells (i := rc) (by omega)
  have HR := Lib.hid (show True from trivial)
  rw [hra] at x1 ha0 ha1
  try rw [hra] at HJ
  rw [hrb] at x2 hb0 hb1
  try rw [hrb] at HJ
  rw [hrc] at x3 hc0 hc1
  try rw [hrc] at HJ
  simp only [Int.toNat_natCast] at HJ
  have gf := HM.out.hv.free
  have hf := HM.out.ht.free
  obtain ⟨u, rfl⟩ := hF.lit
  clear hF HR
  conv => arg 2; whnf
  go_wp2_with fail
  obtain ⟨W, hW⟩ : ∃ W, W = wr.alloc (.cells #[.string x.op, .int .i64 ra, .int .i64 rb, .int .i64 rc, .int .i64 x.v.k, .int .i64 x.v.n, .string x.v.s] 57) := ⟨_, rfl⟩
  have HM1 := Lib.hid (show M33 w _ xs c n gv gt fv ft W by rw [hW]; exact HM.out.below (by go_grown))
  have HI : W.cell? ⟨wr.heap.size, 0, none⟩ = some (.string x.op) ∧ W.cell? ⟨wr.heap.size, 1, none⟩ = some (.int .i64 ra) ∧ W.cell? ⟨wr.heap.size, 2, none⟩ = some (.int .i64 rb) ∧ W.cell? ⟨wr.heap.size, 3, none⟩ = some (.int .i64 rc) := by rw [hW]; refine ⟨?_, ?_, ?_, ?_⟩ <;> go_simp
  rw [← hW]
  clear hW HM IAT p0 p1 gf hf z1 zv zt x0 x1 x2 x3 x4 x5 x6 a0 a1 a2 a3 b0 b1 b2 b3 c0 c1 c2 c3
  obtain ⟨y0, y1, y2, y3⟩ := HI
  obtain ⟨a0, a1, a2⟩ := HM1.out.hv.cells (i := ra) (by omega)
  have a3 := HM1.out.ht.cells (i := ra) (by omega)
  obtain ⟨b0, b1, b2⟩ := HM1.out.hv.cells (i := rb) (by omega)
  have b3 := HM1.out.ht.cells (i := rb) (by omega)
  obtain ⟨c0, c1, c2⟩ := HM1.out.hv.cells (i := rc) (by omega)
  have c3 := HM1.out.ht.cells (i := rc) (by omega)
  have gf := HM1.out.hv.free
  have hf := HM1.out.ht.free
  have zv := HM1.out.hv.lt
  have zt := HM1.out.ht.lt
  obtain ⟨tv, htv⟩ : ∃ tv, andO (ft rb) (ft rc) = tv := ⟨_, rfl⟩
  have HC := fun W => Calls_sym (logic54_and (ft rb) (ft rc) W)
  rw [htv] at HJ
  simp only [htv] at HC
  clear htv
  refine wp_region_still_tail 16 (by kernel_rfl) (by kernel_rfl) ?_
  simp only [List.take_succ_cons, List.take_zero, List.drop_succ_cons, List.drop_zero]
  change wpStill _ _ (World.drew _) _ _ _
  repeat still_step
  still_call (HC _)
  repeat still_step
  refine wpStill_nil ?_
  go_wp2
  exact HJ.out _ _ ⟨rfl, rfl, rfl, rfl, rfl, rfl, rfl, rfl⟩ ((HM1.out.below (Below.refl _ _).drew).setT ra _)
set_option maxRecDepth 1000000 in
set_option maxHeartbeats 4000000 in
theorem rcase_or {w : World} {A : Option Addr} {len cR gv gt n c k : Nat} {a : Act} {X : Option Addr} {xs : List I} {fv : Nat → V} {ft : Nat → Int} {wr : World} {J K0 : Act → World → Prop} {res : V × Int × Int}
    (hF : F33 w A len cR gv gt n k a) (hM : M33 w X xs c n gv gt fv ft wr) (hx : HasI w X xs) (hk : k < xs.length) (hl : xs.length ≤ 1000) (ha : 0 ≤ (ei xs k).a ∧ (ei xs k).a < n) (hb : 0 ≤ (ei xs k).b ∧ (ei xs k).b < n) (hc : 0 ≤ (ei xs k).c ∧ (ei xs k).c < n)
    (hop : (ei xs k).op.toList = [111, 114])
    (hJ : ∀ a' w', F33 w A len cR gv gt n (k + 1) a' → M33 w X xs c n gv gt fv (upd ft (ei xs k).a.toNat (orO (ft (ei xs k).b.toNat) (ft (ei xs k).c.toNat))) w' → J a' w') :
    body33.wp Try.prog (Exit.then J (Exit.inBlock 2 (Exit.then K0 (bodyPost Try.prog Try.f33 (post32 w res))))) a wr := by
  have HM := Lib.hid hM
  have HJ := Lib.hid hJ
  obtain ⟨b, o, rfl, hc⟩ := hx (by intro h; subst h; simp at hk)
  have IAT := Lib.hid ((hc k hk).below hM.hb)
  clear hM hc hx hJ
  generalize ei xs k = x at *
  obtain ⟨x0, x1, x2, x3, x4, x5, x6⟩ := IAT.out
  obtain ⟨p0, p1⟩ := HM.out.hp
  have z1 := lt_of_cell x0
  have zv := HM.out.hv.lt
  have zt := HM.out.ht.lt
  have i0 : (0 : Int) ≤ (k : Int) := by omega
  have i1 : (k : Int) < (xs.length : Int) := by omega
  obtain ⟨ha0, ha1⟩ := ha
  obtain ⟨ra, hra⟩ := Int.eq_ofNat_of_zero_le ha0
  obtain ⟨a0, a1, a2⟩ := HM.out.hv.cells (i := ra) (by omega)
  have a3 := HM.out.ht.cells (i := ra) (by omega)
  obtain ⟨hb0, hb1⟩ := hb
  obtain ⟨rb, hrb⟩ := Int.eq_ofNat_of_zero_le hb0
  obtain ⟨b0, b1, b2⟩ := HM.out.hv.cells (i := rb) (by omega)
  have b3 := HM.out.ht.cells (i := rb) (by omega)
  obtain ⟨hc0, hc1⟩ := hc
  obtain ⟨rc, hrc⟩ := Int.eq_ofNat_of_zero_le hc0
  obtain ⟨c0, c1, c2⟩ := HM.out.hv.cells (i := rc) (by omega)
  have c3 := HM.out.ht.cells (i := rc) (by omega)
  have HR := Lib.hid (show True from trivial)
  rw [hra] at x1 ha0 ha1
  try rw [hra] at HJ
  rw [hrb] at x2 hb0 hb1
  try rw [hrb] at HJ
  rw [hrc] at x3 hc0 hc1
  try rw [hrc] at HJ
  simp only [Int.toNat_natCast] at HJ
  have gf := HM.out.hv.free
  have hf := HM.out.ht.free
  obtain ⟨u, rfl⟩ := hF.lit
  clear hF HR
  conv => arg 2; whnf
  go_wp2_with fail
  obtain ⟨W, hW⟩ : ∃ W, W = wr.alloc (.cells #[.string x.op, .int .i64 ra, .int .i64 rb, .int .i64 rc, .int .i64 x.v.k, .int .i64 x.v.n, .string x.v.s] 57) := ⟨_, rfl⟩
  have HM1 := Lib.hid (show M33 w _ xs c n gv gt fv ft W by rw [hW]; exact HM.out.below (by go_grown))
  have HI : W.cell? ⟨wr.heap.size, 0, none⟩ = some (.string x.op) ∧ W.cell? ⟨wr.heap.size, 1, none⟩ = some (.int .i64 ra) ∧ W.cell? ⟨wr.heap.size, 2, none⟩ = some (.int .i64 rb) ∧ W.cell? ⟨wr.heap.size, 3, none⟩ = some (.int .i64 rc) := by rw [hW]; refine ⟨?_, ?_, ?_, ?_⟩ <;> go_simp
  rw [← hW]
  clear hW HM IAT p0 p1 gf hf z1 zv zt x0 x1 x2 x3 x4 x5 x6 a0 a1 a2 a3 b0 b1 b2 b3 c0 c1 c2 c3
  obtain ⟨y0, y1, y2, y3⟩ := HI
  obtain ⟨a0, a1, a2⟩ := HM1.out.hv.cells (i := ra) (by omega)
  have a3 := HM1.out.ht.cells (i := ra) (by omega)
  obtain ⟨b0, b1, b2⟩ := HM1.out.hv.cells (i := rb) (by omega)
  have b3 := HM1.out.ht.cells (i := rb) (by omega)
  obtain ⟨c0, c1, c2⟩ := HM1.out.hv.cells (i := rc) (by omega)
  have c3 := HM1.out.ht.cells (i := rc) (by omega)
  have gf := HM1.out.hv.free
  have hf := HM1.out.ht.free
  have zv := HM1.out.hv.lt
  have zt := HM1.out.ht.lt
  obtain ⟨tv, htv⟩ : ∃ tv, orO (ft rb) (ft rc) = tv := ⟨_, rfl⟩
  have HC := fun W => Calls_sym (logic54_or (ft rb) (ft rc) W)
  rw [htv] at HJ
  simp only [htv] at HC
  clear htv
  refine wp_region_still_tail 16 (by kernel_rfl) (by kernel_rfl) ?_
  simp only [List.take_succ_cons, List.take_zero, List.drop_succ_cons, List.drop_zero]
  change wpStill _ _ (World.drew _) _ _ _
  repeat still_step
  still_call (HC _)
  repeat still_step
  refine wpStill_nil ?_
  go_wp2
  exact HJ.out _ _ ⟨rfl, rfl, rfl, rfl, rfl, rfl, rfl, rfl⟩ ((HM1.out.below (Below.refl _ _).drew).setT ra _)
end Go.Proofs.Ytbibchinimhamaa
