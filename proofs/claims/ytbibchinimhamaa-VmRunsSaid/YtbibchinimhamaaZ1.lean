import Derived.Test.YtbibchinimhamaaY
namespace Go.Proofs.Ytbibchinimhamaa
open Go.RowKit

def post32 (w : World) (res : V × Int × Int) : Ending → World → Prop := fun e w' => e = .returned (.tuple #[res.1.val, .int .i64 res.2.1, .int .i64 res.2.2]) ∧ Below w.heap.size w w'

set_option maxRecDepth 1000000 in
set_option maxHeartbeats 2000000 in
theorem out32 {w : World} {A : Option Addr} {len cR g n k c : Nat} {e : Int} {a : Act} {X : Option Addr} {xs : List I} {fv : Nat → V} {ft : Nat → Int} {wr : World} {J : Act → World → Prop}
    (hF : F32 w A len cR g n k e a) (hM : M32 w X xs c n g fv ft wr) (he : ¬ e = 0) :
    body32.wp Try.prog (Exit.jump 0 J (bodyPost Try.prog Try.f32 (post32 w (zV, 0, e)))) a wr := by
  have HM := Lib.hid hM
  clear hM
  obtain ⟨s0, s1, s2⟩ := HM.out.ho.box
  have f0 := HM.out.ho.free 0
  have f1 := HM.out.ho.free 1
  have f2 := HM.out.ho.free 2
  obtain ⟨u, rfl⟩ := hF.lit
  clear hF
  conv => arg 2; whnf
  go_wp2
  simp only [Exit.jump]
  refine bodyPost_ret (v := .tuple #[V.val zV, .int .i64 0, .int .i64 e]) (by simp [results, Try.results32, go_sem, zV, s0, s1, s2]) rfl ⟨rfl, ?_⟩
  exact below3 HM.out.hb (by omega) _ _ _

set_option maxRecDepth 1000000 in
set_option maxHeartbeats 2000000 in
theorem end32 {w : World} {A : Option Addr} {len cR g n c : Nat} {a : Act} {X : Option Addr} {xs : List I} {fv : Nat → V} {ft : Nat → Int} {wr : World} {J : Act → World → Prop}
    (hF : F32 w A len cR g n xs.length 0 a) (hM : M32 w X xs c n g fv ft wr) (hn : 1 ≤ n) (hn2 : n ≤ 1000) :
    body32.wp Try.prog (Exit.jump 0 J (bodyPost Try.prog Try.f32 (post32 w (fv 0, ft 0, 0)))) a wr := by
  have HM := Lib.hid hM
  clear hM
  obtain ⟨s0, s1, s2⟩ := HM.out.ho.box
  have f0 := HM.out.ho.free 0
  have f1 := HM.out.ho.free 1
  have f2 := HM.out.ho.free 2
  obtain ⟨p0, p1⟩ := HM.out.hp
  obtain ⟨r0, r1, r2, r3⟩ := HM.out.hr.cells (i := 0) hn
  simp only [Nat.zero_mul, Nat.zero_add] at r0 r1 r2 r3
  have i1 : 0 < n := by omega
  have hlt := HM.out.ho.lt
  have zr := HM.out.hr.lt
  obtain ⟨u, rfl⟩ := hF.lit
  clear hF
  conv => arg 2; whnf
  go_wp2_with fail
  go_region
  go_wp2
  all_goals simp only [Exit.jump]
  refine bodyPost_ret (v := .tuple #[V.val (fv 0), .int .i64 (ft 0), .int .i64 0]) (by simp [results, Try.results32, go_sem, s0, s1, s2]) rfl ⟨rfl, ?_⟩
  exact below3 HM.out.hb.drew (by omega) _ _ _
end Go.Proofs.Ytbibchinimhamaa
