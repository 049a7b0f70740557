/- slices.CompareFunc over values; value.Rows. -/
import Derived.Test.YtbibchinimhamaaDoorOC
namespace Go.Proofs.YtbibchinimhamaaDoor
open Go.RowKit
set_option linter.unusedVariables false
set_option linter.unusedSimpArgs false

set_option maxHeartbeats 400000 in
theorem cf42 (A B : Option Addr) (x y : List V) (cx cy : Nat) (w : World) (hx : HasV w A x) (hy : HasV w B y) (hlx : x.length ≤ maxLen) (hly : y.length ≤ maxLen) :
    Calls Tryd.prog 23 #[.slice A x.length cx, .slice B y.length cy, .func (.func 24) #[] #[]] w fun e w' => e = .returned (.int .i64 (rowsO x y)) ∧ Below w.heap.size w w' := by
  unfold maxLen at hlx hly
  go_enter Tryd.func23, Tryd.ntmps23
  go_wp2
  go_loopw [13] (fun i wr => ∃ k : Nat, k ≤ x.length ∧ i = .int .i64 k ∧ Hid (rowsO (x.drop k) (y.drop k) = rowsO x y) ∧ Hid (Below w.heap.size w wr)) (fun i _ => x.length - (intOf i).toNat)
  case atStart => exact ⟨0, Nat.zero_le _, rfl, rfl, Below.refl _ _⟩
  case round =>
    obtain ⟨k, hk, rfl, HR, HB⟩ := hrel
    by_cases hkx : k < x.length
    · obtain ⟨bx, ox, rfl, hcx⟩ := hx (by intro h; subst h; simp at hkx)
      obtain ⟨x0, x1, x2⟩ := (hcx k hkx).below HB.out
      by_cases hky : k < y.length
      · obtain ⟨yb, oy, rfl, hcy⟩ := hy (by intro h; subst h; simp at hky)
        have HY := (hcy k hky).below HB.out
        have y0 := fun o => (HY.alloc o).1
        have y1 := fun o => (HY.alloc o).2.1
        have y2 := fun o => (HY.alloc o).2.2
        clear hcx hcy hx hy HY
        go_wp2_with fail
        refine (order17 (el x k) (el y k) _).mono ?_
        rintro e w1 ⟨rfl, hb1⟩
        have HB1 := Lib.hid (Below.trans (HB.out.alloc HB.out.size _ |>.alloc (by simp; have := HB.out.size; omega) _) (hb1.mono (by simp; have := HB.out.size; omega)))
        clear hb1 x0 x1 x2 y0 y1 y2 HB
        by_cases h0 : ord (el x k) (el y k) = 0
        · have H2 := Lib.hid (((rowsO_drop hkx hky).trans (if_pos h0)).symm.trans HR.out)
          have h0' : (ord (el x k) (el y k) != 0) = false := by simp [h0]
          clear h0 HR
          go_wp2
          go_roundw
          case rel => exact ⟨k + 1, by omega, by go_num, H2, HB1⟩
          case measure => simp [intOf]; omega
        · have H2 := Lib.hid (((rowsO_drop hkx hky).trans (if_neg h0)).symm.trans HR.out)
          have h0' : (ord (el x k) (el y k) != 0) = true := by simp [h0]
          clear h0 HR
          go_wp2
          go_ret
          exact ⟨ret_int H2.out, HB1.out⟩
      · clear hcx hx hy
        go_wp2
        go_ret
        exact ⟨ret_int ((rowsO_y hkx (by omega)).symm.trans HR.out), HB.out.alloc HB.out.size _⟩
    · go_wp2
      all_goals go_ret
      · exact ⟨ret_int ((rowsO_x (by omega) (by omega)).symm.trans HR.out), HB.out⟩
      · exact ⟨ret_int ((rowsO_e (by omega) (by omega)).symm.trans HR.out), HB.out⟩


set_option maxHeartbeats 400000 in
theorem rows18 (A B : Option Addr) (x y : List V) (cx cy : Nat) (w : World) (hx : HasV w A x) (hy : HasV w B y) (hlx : x.length ≤ maxLen) (hly : y.length ≤ maxLen) :
    Calls Tryd.prog 15 #[.slice A x.length cx, .slice B y.length cy] w fun e w' => e = .returned (.int .i64 (rowsO x y)) ∧ Below w.heap.size w w' := by
  have HX := Lib.hid hx
  have HY := Lib.hid hy
  clear hx hy
  go_enter Tryd.func15, Tryd.ntmps15
  go_wp2_with (go_at_call 23; refine (cf42 _ _ _ _ _ _ _ HX.out HY.out hlx hly).mono ?_; rintro e w' ⟨rfl, hb⟩)
  go_ret
  exact ⟨rfl, by assumption⟩

end Go.Proofs.YtbibchinimhamaaDoor
