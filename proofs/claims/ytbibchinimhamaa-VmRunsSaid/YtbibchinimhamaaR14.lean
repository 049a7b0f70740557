/- The reference's Run, whole. -/
import Derived.Test.YtbibchinimhamaaR13
import Derived.Test.YtbibchinimhamaaQ
namespace Go.Proofs.Ytbibchinimhamaa
set_option linter.unusedVariables false
set_option linter.unusedSimpArgs false
open Go.RowKit

set_option maxRecDepth 1000000 in
set_option maxHeartbeats 2000000 in
theorem ref33_not (A : Option Addr) (len cR : Nat) (X : Option Addr) (xs : List I) (c : Nat) (regs : Int) (w : World) (hx : HasI w X xs) (hl : xs.length ≤ maxLen) (hs : ∀ i, i < xs.length → (ei xs i).v.s.size ≤ maxLen) (hf : formedO regs xs = false) :
    Calls Try.prog 33 #[.agg #[.slice X xs.length c, .int .i64 regs], .slice A len cR] w (post32 w (zV, 0, 1)) := by
  have HX := Lib.hid hx
  have HSZ := Lib.hid hs
  clear hx hs
  go_enter Try.func33, Try.ntmps33
  go_wp2_with fail
  refine (formed13 X xs c regs _ (HX.out.below (by go_grown)) hl HSZ.out).mono ?_
  rw [hf]
  rintro e w1 ⟨rfl, hb1⟩
  have HO := Lib.hid ((Own.new (w.alloc (.cells #[.slice X xs.length c, .int .i64 regs] 24)) zV).below hb1)
  simp only [World.size_alloc] at HO
  have HB := Lib.hid (Below.trans (by go_grown : Below w.heap.size w _) (hb1.mono (by simp; omega)))
  clear hb1
  obtain ⟨s0, s1, s2⟩ := HO.out.box
  have f0 := HO.out.free 0
  have f1 := HO.out.free 1
  have f2 := HO.out.free 2
  go_wp2
  refine bodyPost_ret (v := .tuple #[V.val zV, .int .i64 0, .int .i64 1]) (by simp [results, Try.results33, go_sem, zV, s0, s1, s2]) rfl ⟨rfl, ?_⟩
  exact below3 HB.out (by omega) _ _ _

set_option maxRecDepth 1000000 in
set_option maxHeartbeats 4000000 in
theorem ref33_formed (A : Option Addr) (R : List (List V)) (cR : Nat) (X : Option Addr) (xs : List I) (c : Nat) (n : Nat) (w : World) (hx : HasI w X xs) (hl : xs.length ≤ maxLen) (hs : ∀ i, i < xs.length → (ei xs i).v.wf) (hf : formedO n xs = true)
    (hR : HasR w A R) (hRl : R.length ≤ maxLen) (hw : wfR R) :
    Calls Try.prog 33 #[.agg #[.slice X xs.length c, .int .i64 n], .slice A R.length cR] w (post32 w (resO R xs)) := by
  have hn := (sound_of hf).1
  have HX := Lib.hid hx
  have HSZ := Lib.hid hs
  have HL := Lib.hid hl
  have HROUND := Lib.hid (fun gv gt K0 hK a wr => round33 (res := resO R xs) (cR := cR) (gv := gv) (gt := gt) (c := c) (K0 := K0) hx hf hs hR hRl hw hK (a := a) (wr := wr))
  clear hx hs hl hR hRl hw
  have hmk := fun W => Try.make38 n (by omega) W
  have hmk2 := fun W => Try.make71 n (by omega) W
  go_enter Try.func33, Try.ntmps33
  go_wp2_with fail
  refine (formed13 X xs c n _ (HX.out.below (by go_grown)) HL.out (fun i hi => (HSZ.out i hi).2.2)).mono ?_
  rw [hf]
  rintro e w1 ⟨rfl, hb1⟩
  have HO := Lib.hid ((Own.new (w.alloc (.cells #[.slice X xs.length c, .int .i64 n] 24)) zV).below hb1)
  simp only [World.size_alloc] at HO
  have HP := Lib.hid ((PBox.new w (.slice X xs.length c) n 24).below (by go_grown : Below _ _ (((w.alloc (.cells #[.slice X xs.length c, .int .i64 n] 24)).alloc (.cells #[.int .i64 0, .int .i64 0, .string ⟨#[]⟩] 33)))) |>.below hb1)
  have HB := Lib.hid (Below.trans (by go_grown : Below w.heap.size w _) (hb1.mono (by simp; omega)))
  have hz : w.heap.size + 2 ≤ w1.heap.size := by have := hb1.size; simpa using this
  clear hb1
  obtain ⟨p0, p1⟩ := HP.out
  have z0 : w.heap.size < w1.heap.size := by omega
  go_wp2_with fail
  go_region
  · have HM0 := Lib.hid (show M33 w X xs c n w1.heap.size (w1.heap.size + 1) (fun _ => zV) (fun _ => 0) (((w1.alloc (.cells (madeCells #[.int .i64 0, .int .i64 0, .string ⟨#[]⟩] (n * 3)) 33)).alloc (.cells (madeCells #[.int .i64 0] n) 3)).drew) from
      M33.mk (HP.out.below (by go_grown)) (HO.out.below (by go_grown)) ((RegV.made w1 n).below (by go_grown)) (RegT.below (w := (w1.alloc (.cells (madeCells #[.int .i64 0, .int .i64 0, .string ⟨#[]⟩] (n * 3)) 33)).alloc (.cells (madeCells #[.int .i64 0] n) 3)) (by simpa using RegT.made (w1.alloc (.cells (madeCells #[.int .i64 0, .int .i64 0, .string ⟨#[]⟩] (n * 3)) 33)) n) (Below.refl _ _).drew) (by omega) (by omega) (by omega) (HB.out.trans (by go_grown)))
    generalize (((w1.alloc (.cells (madeCells #[.int .i64 0, .int .i64 0, .string ⟨#[]⟩] (n * 3)) 33)).alloc (.cells (madeCells #[.int .i64 0] n) 3)).drew) = W at HM0 ⊢
    clear HO HP HB p0 p1 hmk hmk2
    generalize hgg : w1.heap.size + 1 = g1 at HM0 ⊢
    generalize hgh : w1.heap.size = g0 at HM0 ⊢
    clear hgg hgh hz z0
    go_wp2_with fail
    go_loopw [26] (fun i wr => ∃ k : Nat, k ≤ n ∧ i = .int .i64 k ∧ Hid (M33 w X xs c n g0 g1 (fun _ => zV) (fun j => if j < k then 2 else 0) wr)) (fun i _ => n - (intOf i).toNat)
    case atStart => exact ⟨0, Nat.zero_le _, rfl, HM0⟩
    case round =>
      obtain ⟨k, hk, rfl, HM⟩ := hrel
      by_cases hkn : k < n
      · have r3 := HM.out.ht.cells (i := k) hkn
        have hfz := HM.out.ht.free
        have i0 : (0 : Int) ≤ (k : Int) := by omega
        have i1 : (k : Int) < (n : Int) := by omega
        go_wp2
        go_roundw
        case rel => exact ⟨k + 1, by omega, by go_num, Lib.hid ((HM.out.setT k 2).congr (fun i _ => upd_two k i))⟩
        case measure => simp [intOf]; omega
      · obtain rfl : k = n := by omega
        have HM1 := Lib.hid (HM.out.congr (ft' := fun _ => 2) (fun i hi => if_pos hi))
        clear HM
        go_wp2_with fail
        refine wp_loop (J33 w A R cR X xs c _ _ _ (resO R xs)) (fun a _ => xs.length - at33 a) ⟨0, fun _ => zV, fun _ => 2, ⟨rfl, rfl, rfl, rfl, rfl, rfl, rfl, rfl⟩, HM1.out, Nat.zero_le _, fun _ _ => zV_wf, rfl⟩ (fun a wr hJ => HROUND.out _ _ _ ?_ a wr hJ)
        rintro a' w' ⟨fv, ft, hF, hM, hres⟩
        apply_assumption
        rw [hres]
        clear hres hJ HROUND HM1 HM0
        have HM := Lib.hid hM
        clear hM
        obtain ⟨v0, v1, v2⟩ := HM.out.hv.cells (i := 0) (by omega)
        have t0 := HM.out.ht.cells (i := 0) (by omega)
        simp only [Nat.zero_mul, Nat.zero_add] at v0 v1 v2
        obtain ⟨s0, s1, s2⟩ := HM.out.ho.box
        have f0 := HM.out.ho.free 0
        have f1 := HM.out.ho.free 1
        have f2 := HM.out.ho.free 2
        have zo := HM.out.ho.lt
        have gv1 := HM.out.hgv
        have gt1 := HM.out.hgt
        have m1 : g0 ≠ w.heap.size + 1 := by omega
        have m2 : g1 ≠ w.heap.size + 1 := by omega
        have m3 := m1.symm
        have m4 := m2.symm
        have i2 : 0 < k := by omega
        obtain ⟨u, rfl⟩ := hF.lit
        clear hF
        go_wp2_with fail
        go_region
        all_goals go_wp2
        all_goals refine bodyPost_ret (v := .tuple #[V.val (fv 0), .int .i64 (ft 0), .int .i64 0]) (by simp [results, Try.results33, go_sem, s0, s1, s2]) rfl ⟨rfl, ?_⟩
        all_goals exact below3 HM.out.hb.drew (by omega) _ _ _
  · have HM0 := Lib.hid (show M33 w X xs c n (w1.heap.size + 1) w1.heap.size (fun _ => zV) (fun _ => 0) (((w1.alloc (.cells (madeCells #[.int .i64 0] n) 3)).alloc (.cells (madeCells #[.int .i64 0, .int .i64 0, .string ⟨#[]⟩] (n * 3)) 33)).drew) from
      M33.mk (HP.out.below (by go_grown)) (HO.out.below (by go_grown)) (RegV.below (w := (w1.alloc (.cells (madeCells #[.int .i64 0] n) 3)).alloc (.cells (madeCells #[.int .i64 0, .int .i64 0, .string ⟨#[]⟩] (n * 3)) 33)) (by simpa using RegV.made (w1.alloc (.cells (madeCells #[.int .i64 0] n) 3)) n) (Below.refl _ _).drew) ((RegT.made w1 n).below (by go_grown)) (by omega) (by omega) (by omega) (HB.out.trans (by go_grown)))
    generalize (((w1.alloc (.cells (madeCells #[.int .i64 0] n) 3)).alloc (.cells (madeCells #[.int .i64 0, .int .i64 0, .string ⟨#[]⟩] (n * 3)) 33)).drew) = W at HM0 ⊢
    clear HO HP HB p0 p1 hmk hmk2
    generalize hgg : w1.heap.size + 1 = g1 at HM0 ⊢
    generalize hgh : w1.heap.size = g0 at HM0 ⊢
    clear hgg hgh hz z0
    go_wp2_with fail
    go_loopw [26] (fun i wr => ∃ k : Nat, k ≤ n ∧ i = .int .i64 k ∧ Hid (M33 w X xs c n g1 g0 (fun _ => zV) (fun j => if j < k then 2 else 0) wr)) (fun i _ => n - (intOf i).toNat)
    case atStart => exact ⟨0, Nat.zero_le _, rfl, HM0⟩
    case round =>
      obtain ⟨k, hk, rfl, HM⟩ := hrel
      by_cases hkn : k < n
      · have r3 := HM.out.ht.cells (i := k) hkn
        have hfz := HM.out.ht.free
        have i0 : (0 : Int) ≤ (k : Int) := by omega
        have i1 : (k : Int) < (n : Int) := by omega
        go_wp2
        go_roundw
        case rel => exact ⟨k + 1, by omega, by go_num, Lib.hid ((HM.out.setT k 2).congr (fun i _ => upd_two k i))⟩
        case measure => simp [intOf]; omega
      · obtain rfl : k = n := by omega
        have HM1 := Lib.hid (HM.out.congr (ft' := fun _ => 2) (fun i hi => if_pos hi))
        clear HM
        go_wp2_with fail
        refine wp_loop (J33 w A R cR X xs c _ _ _ (resO R xs)) (fun a _ => xs.length - at33 a) ⟨0, fun _ => zV, fun _ => 2, ⟨rfl, rfl, rfl, rfl, rfl, rfl, rfl, rfl⟩, HM1.out, Nat.zero_le _, fun _ _ => zV_wf, rfl⟩ (fun a wr hJ => HROUND.out _ _ _ ?_ a wr hJ)
        rintro a' w' ⟨fv, ft, hF, hM, hres⟩
        apply_assumption
        rw [hres]
        clear hres hJ HROUND HM1 HM0
        have HM := Lib.hid hM
        clear hM
        obtain ⟨v0, v1, v2⟩ := HM.out.hv.cells (i := 0) (by omega)
        have t0 := HM.out.ht.cells (i := 0) (by omega)
        simp only [Nat.zero_mul, Nat.zero_add] at v0 v1 v2
        obtain ⟨s0, s1, s2⟩ := HM.out.ho.box
        have f0 := HM.out.ho.free 0
        have f1 := HM.out.ho.free 1
        have f2 := HM.out.ho.free 2
        have zo := HM.out.ho.lt
        have gv1 := HM.out.hgv
        have gt1 := HM.out.hgt
        have m1 : g0 ≠ w.heap.size + 1 := by omega
        have m2 : g1 ≠ w.heap.size + 1 := by omega
        have m3 := m1.symm
        have m4 := m2.symm
        have i2 : 0 < k := by omega
        obtain ⟨u, rfl⟩ := hF.lit
        clear hF
        go_wp2_with fail
        go_region
        all_goals go_wp2
        all_goals refine bodyPost_ret (v := .tuple #[V.val (fv 0), .int .i64 (ft 0), .int .i64 0]) (by simp [results, Try.results33, go_sem, s0, s1, s2]) rfl ⟨rfl, ?_⟩
        all_goals exact below3 HM.out.hb.drew (by omega) _ _ _
end Go.Proofs.Ytbibchinimhamaa
