import Derived.Test.YtbibchinimhamaaR2
import Derived.BigRegion
namespace Go.Proofs.Ytbibchinimhamaa
set_option linter.unusedVariables false
set_option linter.unusedSimpArgs false
open Go.RowKit
set_option maxRecDepth 1000000 in
set_option maxHeartbeats 4000000 in
theorem rcase_copy {w : World} {A : Option Addr} {len cR gv gt n c k : Nat} {a : Act} {X : Option Addr} {xs : List I} {fv : Nat → V} {ft : Nat → Int} {wr : World} {J K0 : Act → World → Prop} {res : V × Int × Int}
    (hF : F33 w A len cR gv gt n k a) (hM : M33 w X xs c n gv gt fv ft wr) (hx : HasI w X xs) (hk : k < xs.length) (hl : xs.length ≤ 1000) (ha : 0 ≤ (ei xs k).a ∧ (ei xs k).a < n) (hb : 0 ≤ (ei xs k).b ∧ (ei xs k).b < n)
    (hop : (ei xs k).op.toList = [99, 111, 112, 121])
    (hJ : ∀ a' w', F33 w A len cR gv gt n (k + 1) a' → M33 w X xs c n gv gt (upd fv (ei xs k).a.toNat (fv (ei xs k).b.toNat)) (upd ft (ei xs k).a.toNat (ft (ei xs k).b.toNat)) w' → J a' w') :
    body33.wp Try.prog (Exit.then J (Exit.inBlock 2 (Exit.then K0 (bodyPost Try.prog Try.f33 (post32 w res))))) a wr := by
  have HM := Lib.hid hM
  have HJ := Lib.hid hJ
  obtain ⟨b, o, rfl, hc⟩ := hx (by intro h; subst h; simp at hk)
  have IAT := Lib.hid ((hc k hk).below hM.hb)
  clear hM hc hx hJ
  generalize ei xs k = x at *
  obtain ⟨x0, x1, x2, x3, x4, x5, x6⟩ := IAT.out
  obtain ⟨p0, p1⟩ := HM.out.hp
  have z1 := lt_of_cell x0
  have zv := HM.out.hv.lt
  have zt := HM.out.ht.lt
  have i0 : (0 : Int) ≤ (k : Int) := by omega
  have i1 : (k : Int) < (xs.length : Int) := by omega
  obtain ⟨ha0, ha1⟩ := ha
  obtain ⟨ra, hra⟩ := Int.eq_ofNat_of_zero_le ha0
  obtain ⟨a0, a1, a2⟩ := HM.out.hv.cells (i := ra) (by omega)
  have a3 := HM.out.ht.cells (i := ra) (by omega)
  obtain ⟨hb0, hb1⟩ := hb
  obtain ⟨rb, hrb⟩ := Int.eq_ofNat_of_zero_le hb0
  obtain ⟨b0, b1, b2⟩ := HM.out.hv.cells (i := rb) (by omega)
  have b3 := HM.out.ht.cells (i := rb) (by omega)
  have HR := Lib.hid (show True from trivial)
  rw [hra] at x1 ha0 ha1
  try rw [hra] at HJ
  rw [hrb] at x2 hb0 hb1
  try rw [hrb] at HJ
  simp only [Int.toNat_natCast] at HJ
  have gf := HM.out.hv.free
  have hf := HM.out.ht.free
  obtain ⟨u, rfl⟩ := hF.lit
  clear hF HR
  conv => arg 2; whnf
  go_wp2_with fail
  have nv1 := Nat.ne_of_lt zv
  have nv2 := (Nat.ne_of_lt zv).symm
  have nt1 := Nat.ne_of_lt zt
  have nt2 := (Nat.ne_of_lt zt).symm
  obtain ⟨W, hW⟩ : ∃ W, W = wr.alloc (.cells #[.string x.op, .int .i64 ra, .int .i64 rb, .int .i64 x.c, .int .i64 x.v.k, .int .i64 x.v.n, .string x.v.s] 57) := ⟨_, rfl⟩
  have HM1 := Lib.hid (show M33 w _ xs c n gv gt fv ft W by rw [hW]; exact HM.out.below (by go_grown))
  have HI : W.cell? ⟨wr.heap.size, 0, none⟩ = some (.string x.op) ∧ W.cell? ⟨wr.heap.size, 1, none⟩ = some (.int .i64 ra) ∧ W.cell? ⟨wr.heap.size, 2, none⟩ = some (.int .i64 rb) ∧ W.cell? ⟨wr.heap.size, 3, none⟩ = some (.int .i64 x.c) := by rw [hW]; refine ⟨?_, ?_, ?_, ?_⟩ <;> go_simp
  rw [← hW]
  clear hW HM IAT p0 p1 gf hf z1 zv zt x0 x1 x2 x3 x4 x5 x6 a0 a1 a2 a3 b0 b1 b2 b3
  obtain ⟨y0, y1, y2, y3⟩ := HI
  obtain ⟨a0, a1, a2⟩ := HM1.out.hv.cells (i := ra) (by omega)
  have a3 := HM1.out.ht.cells (i := ra) (by omega)
  obtain ⟨b0, b1, b2⟩ := HM1.out.hv.cells (i := rb) (by omega)
  have b3 := HM1.out.ht.cells (i := rb) (by omega)
  have gf := HM1.out.hv.free
  have hf := HM1.out.ht.free
  have zv := HM1.out.hv.lt
  have zt := HM1.out.ht.lt
  have ne1 := HM1.out.hne
  have ne2 := HM1.out.hne.symm
  go_region
  all_goals go_wp2
  all_goals exact HJ.out _ _ ⟨rfl, rfl, rfl, rfl, rfl, rfl, rfl, rfl⟩ (((HM1.out.below (Below.refl _ _).drew).setV ra _).setT ra _)
end Go.Proofs.Ytbibchinimhamaa
