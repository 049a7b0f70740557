/- The reference's column. -/
import Derived.Test.YtbibchinimhamaaU
namespace Go.Proofs.Ytbibchinimhamaa
open Go.RowKit

theorem cellBelow {U U' : World} {p : Addr} {v : Value} (h : U.cell? p = some v) (hb : Below U.heap.size U U') : U'.cell? p = some v := (hb.cell (World.block_lt_of_cell? U p h)).trans h
theorem keep7 {w U U' : World} {p0 p1 p2 p3 p4 p5 p6 : Addr} {v0 v1 v2 v3 v4 v5 v6 : Value}
    (h : Hid (Below w.heap.size w U) ∧ U.cell? p0 = some v0 ∧ U.cell? p1 = some v1 ∧ U.cell? p2 = some v2 ∧ U.cell? p3 = some v3 ∧ U.cell? p4 = some v4 ∧ U.cell? p5 = some v5 ∧ U.cell? p6 = some v6) (hb : Below U.heap.size U U') :
    Hid (Below w.heap.size w U') ∧ U'.cell? p0 = some v0 ∧ U'.cell? p1 = some v1 ∧ U'.cell? p2 = some v2 ∧ U'.cell? p3 = some v3 ∧ U'.cell? p4 = some v4 ∧ U'.cell? p5 = some v5 ∧ U'.cell? p6 = some v6 :=
  ⟨h.1.out.trans (hb.mono h.1.out.size), cellBelow h.2.1 hb, cellBelow h.2.2.1 hb, cellBelow h.2.2.2.1 hb, cellBelow h.2.2.2.2.1 hb, cellBelow h.2.2.2.2.2.1 hb, cellBelow h.2.2.2.2.2.2.1 hb, cellBelow h.2.2.2.2.2.2.2 hb⟩

set_option maxRecDepth 100000 in
set_option maxHeartbeats 2000000 in
theorem column52 (A : Option Addr) (R : List (List V)) (cR g : Nat) (b c : Int) (w : World) (hg : w.cell? ⟨g, 0, none⟩ = some (.slice A R.length cR)) (hR : HasR w A R) (hl : R.length ≤ maxLen) (hw : wfR R) (hb : 0 ≤ b) (hc : 0 ≤ c) :
    Calls Try.prog 52 #[.pointer (some ⟨g, 0, none⟩), .agg #[.int .i64 0, .string ⟨#[]⟩, .int .i64 0, .int .i64 0, .string ⟨#[]⟩, .int .i64 b, .int .i64 c, .slice none 0 0]] w fun e w' => e = .returned (.tuple #[(colO R b c).1.val, .int .i64 (colO R b c).2]) ∧ Below w.heap.size w w' := by
  obtain ⟨b, rfl⟩ := Int.eq_ofNat_of_zero_le hb
  obtain ⟨c, rfl⟩ := Int.eq_ofNat_of_zero_le hc
  unfold maxLen at hl
  clear hb hc
  have zg := lt_of_cell hg
  have nb : decide ((b : Int) < 0) = false := by simp
  have nc : decide ((c : Int) < 0) = false := by simp
  by_cases h1 : b < R.length
  · have hd : decide (R.length ≤ b) = false := by simp; omega
    obtain ⟨b', o, rfl, hcell⟩ := hR (by intro h; subst h; simp at h1)
    obtain ⟨A', c', r0, hV, hl2⟩ := hcell b h1
    have HWF := Lib.hid (hw b h1)
    have z0 := lt_of_cell r0
    unfold maxLen at hl2
    clear hR hcell hw
    have i0 : (0 : Int) ≤ (b : Int) := by omega
    have i1 : (b : Int) < (R.length : Int) := by omega
    by_cases h2 : c < (er R b).length
    · have hd2 : decide ((er R b).length ≤ c) = false := by simp; omega
      obtain ⟨B', o', rfl, hvc⟩ := hV (by intro h; rw [h] at h2; simp at h2)
      obtain ⟨x0, x1, x2⟩ := hvc c h2
      have z1 := lt_of_cell x0
      have hs := (HWF.out c h2).2.2
      clear hV hvc
      have j0 : (0 : Int) ≤ (c : Int) := by omega
      have j1 : (c : Int) < ((er R b).length : Int) := by omega
      go_enter Try.func52, Try.ntmps52
      go_wp2_with fail
      obtain ⟨W, hW⟩ : ∃ W, W = (w.alloc (.cells #[.int .i64 0, .string ⟨#[]⟩, .int .i64 0, .int .i64 0, .string ⟨#[]⟩, .int .i64 (b : Int), .int .i64 (c : Int), .slice none 0 0] 79)).alloc (.cells #[.int .i64 0, .int .i64 0, .string ⟨#[]⟩] 33) := ⟨_, rfl⟩
      have hBW : Below w.heap.size w W := by rw [hW]; go_grown
      have HO : Own W (w.heap.size + 1) zV := by rw [hW]; simpa [zV] using Own.new (w.alloc (.cells #[.int .i64 0, .string ⟨#[]⟩, .int .i64 0, .int .i64 0, .string ⟨#[]⟩, .int .i64 (b : Int), .int .i64 (c : Int), .slice none 0 0] 79)) zV
      have HS : (fun U : World => Hid (Below w.heap.size w U) ∧ U.cell? ⟨w.heap.size, 5, none⟩ = some (.int .i64 (b : Int)) ∧ U.cell? ⟨w.heap.size, 6, none⟩ = some (.int .i64 (c : Int)) ∧ U.cell? ⟨g, 0, none⟩ = some (.slice (some ⟨b', o, none⟩) R.length cR) ∧ U.cell? ⟨b', o + b, none⟩ = some (.slice (some ⟨B', o', none⟩) (er R b).length c') ∧ U.cell? ⟨B', o' + c * 3, none⟩ = some (.int .i64 (el (er R b) c).k) ∧ U.cell? ⟨B', o' + c * 3 + 1, none⟩ = some (.int .i64 (el (er R b) c).n) ∧ U.cell? ⟨B', o' + c * 3 + 2, none⟩ = some (.string (el (er R b) c).s)) W :=
        ⟨hBW, by rw [hW]; go_simp, by rw [hW]; go_simp, cellBelow hg hBW, cellBelow r0 hBW, cellBelow x0 hBW, cellBelow x1 hBW, cellBelow x2 hBW⟩
      have HO1 := Lib.hid HO
      rw [← hW]
      clear hW hBW HO hg r0 x0 x1 x2 zg z0 z1
      go_region_held3 (fun U => Hid (Below w.heap.size w U) ∧ U.cell? ⟨w.heap.size, 5, none⟩ = some (.int .i64 (b : Int)) ∧ U.cell? ⟨w.heap.size, 6, none⟩ = some (.int .i64 (c : Int)) ∧ U.cell? ⟨g, 0, none⟩ = some (.slice (some ⟨b', o, none⟩) R.length cR) ∧ U.cell? ⟨b', o + b, none⟩ = some (.slice (some ⟨B', o', none⟩) (er R b).length c') ∧ U.cell? ⟨B', o' + c * 3, none⟩ = some (.int .i64 (el (er R b) c).k) ∧ U.cell? ⟨B', o' + c * 3 + 1, none⟩ = some (.int .i64 (el (er R b) c).n) ∧ U.cell? ⟨B', o' + c * 3 + 2, none⟩ = some (.string (el (er R b) c).s))
        (first | exact keep7 HS ((Below.refl _ _).drew) | exact keep7 (by assumption) (by assumption))
        (first | (go_at_call 20; refine (formed20 (el (er R b) c) _ hs).mono ?_; rintro e w' ⟨rfl, hb⟩; have HO2 := Lib.hid (HO1.out.drewB.below hb)))
      clear HS HO1
      have HS := (‹Hid (Below w.heap.size w _) ∧ _ ∧ _ ∧ _ ∧ _ ∧ _ ∧ _ ∧ _›)
      obtain ⟨s0, s1, s2⟩ := HO2.out.box
      have f0 := HO2.out.free 0
      have f1 := HO2.out.free 1
      have f2 := HO2.out.free 2
      have zw := HO2.out.lt
      cases hf : fmd (el (er R b) c) with
      | false =>
        have HN := Lib.hid (colO_no (R := R) (b := b) (c := c) (by rw [hf]; simp))
        go_wp2
        refine bodyPost_ret (v := .tuple #[V.val zV, .int .i64 1]) (by simp [results, Try.results52, go_sem, zV, s0, s1, s2]) rfl ⟨by rw [HN.out], ?_⟩
        exact below3 HS.1.out (by omega) _ _ _
      | true =>
        have HN := Lib.hid (colO_yes (R := R) (b := b) (c := c) ⟨h1, h2, hf⟩)
        obtain ⟨HB, g0, g1, g2, g3, g4, g5, g6⟩ := HS
        go_wp2_with fail
        refine wp_region_still_tail 12 (by kernel_rfl) (by kernel_rfl) ?_
        simp only [List.take_succ_cons, List.take_zero, List.drop_succ_cons, List.drop_zero]
        change wpStill _ _ (World.drew _) _ _ _
        repeat still_step
        refine wpStill_nil ?_
        go_wp2
        refine bodyPost_ret (v := .tuple #[V.val (el (er R b) c), .int .i64 0]) (by simp [results, Try.results52, go_sem, s0, s1, s2]) rfl ⟨by rw [HN.out], ?_⟩
        exact below3 HB.out.drew (by omega) _ _ _
    · have hd2 : decide ((er R b).length ≤ c) = true := by simp; omega
      have HN := Lib.hid (colO_no (R := R) (b := b) (c := c) (by omega))
      clear hV
      go_enter Try.func52, Try.ntmps52
      go_wp2_with fail
      go_quiet (fail)
      go_wp2
      refine bodyPost_ret (v := .tuple #[V.val zV, .int .i64 1]) (by simp [results, Try.results52, go_sem, zV]) rfl ⟨by rw [HN.out], ?_⟩
      exact below3 (below_drewN (by go_grown) _) (by omega) _ _ _
  · have hd : decide (R.length ≤ b) = true := by simp; omega
    have HN := Lib.hid (colO_no (R := R) (b := b) (c := c) (by omega))
    clear hR hw
    go_enter Try.func52, Try.ntmps52
    go_wp2_with fail
    go_quiet (fail)
    go_wp2
    refine bodyPost_ret (v := .tuple #[V.val zV, .int .i64 1]) (by simp [results, Try.results52, go_sem, zV]) rfl ⟨by rw [HN.out], ?_⟩
    exact below3 (below_drewN (by go_grown) _) (by omega) _ _ _
end Go.Proofs.Ytbibchinimhamaa
