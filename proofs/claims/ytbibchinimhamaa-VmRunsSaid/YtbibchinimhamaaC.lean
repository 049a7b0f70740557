/- Rows: slices of values in memory; both orders of rows. -/
import Derived.Test.YtbibchinimhamaaB
namespace Go.Proofs.Ytbibchinimhamaa
open Go.RowKit

instance : Inhabited V := ⟨⟨0, 0, ByteArray.empty⟩⟩
def el (xs : List V) (i : Nat) : V := xs.getD i default
def VAt (w : World) (b o : Nat) (v : V) : Prop :=
  w.cell? ⟨b, o, none⟩ = some (.int .i64 v.k) ∧ w.cell? ⟨b, o + 1, none⟩ = some (.int .i64 v.n) ∧ w.cell? ⟨b, o + 2, none⟩ = some (.string v.s)
/-- The slice at A holds the values xs. -/
def HasV (w : World) (A : Option Addr) (xs : List V) : Prop :=
  xs ≠ [] → ∃ b o, A = some ⟨b, o, none⟩ ∧ ∀ i, i < xs.length → VAt w b (o + i * 3) (el xs i)

theorem lt_of_cell {w : World} {b o : Nat} {v : Value} (h : w.cell? ⟨b, o, none⟩ = some v) : b < w.heap.size := World.block_lt_of_cell? w _ h
theorem VAt.below {w w' : World} {b o : Nat} {v : V} (h : VAt w b o v) (hb : Below w.heap.size w w') : VAt w' b o v := by
  have hlt := lt_of_cell h.1
  exact ⟨(hb.cell (p := ⟨b, _, none⟩) hlt).trans h.1, (hb.cell (p := ⟨b, _, none⟩) hlt).trans h.2.1, (hb.cell (p := ⟨b, _, none⟩) hlt).trans h.2.2⟩
theorem VAt.alloc {w : World} {b o : Nat} {v : V} (h : VAt w b o v) (ob : Obj) : VAt (w.alloc ob) b o v := h.below (by go_grown)
theorem HasV.below {w w' : World} {A : Option Addr} {xs : List V} (h : HasV w A xs) (hb : Below w.heap.size w w') : HasV w' A xs := fun hn => by
  obtain ⟨b, o, e, hc⟩ := h hn
  exact ⟨b, o, e, fun i hi => (hc i hi).below hb⟩

def rowsO : List V → List V → Int
  | [], [] => 0
  | [], _ :: _ => -1
  | _ :: _, [] => 1
  | a :: x, b :: y => if ord a b = 0 then rowsO x y else ord a b

theorem rowsO_drop {x y : List V} {k : Nat} (hx : k < x.length) (hy : k < y.length) :
    rowsO (x.drop k) (y.drop k) = if ord (el x k) (el y k) = 0 then rowsO (x.drop (k + 1)) (y.drop (k + 1)) else ord (el x k) (el y k) := by
  rw [List.drop_eq_getElem_cons hx, List.drop_eq_getElem_cons hy, rowsO]
  simp [el, hx, hy]
theorem rowsO_x {x y : List V} {k : Nat} (hx : x.length ≤ k) (hy : k < y.length) : rowsO (x.drop k) (y.drop k) = -1 := by
  rw [List.drop_eq_nil_of_le hx, List.drop_eq_getElem_cons hy, rowsO]
theorem rowsO_y {x y : List V} {k : Nat} (hx : k < x.length) (hy : y.length ≤ k) : rowsO (x.drop k) (y.drop k) = 1 := by
  rw [List.drop_eq_nil_of_le hy, List.drop_eq_getElem_cons hx, rowsO]
theorem rowsO_e {x y : List V} {k : Nat} (hx : x.length ≤ k) (hy : y.length ≤ k) : rowsO (x.drop k) (y.drop k) = 0 := by
  rw [List.drop_eq_nil_of_le hx, List.drop_eq_nil_of_le hy, rowsO]

set_option maxHeartbeats 400000 in
theorem rows22 (A B : Option Addr) (x y : List V) (cx cy : Nat) (w : World) (hx : HasV w A x) (hy : HasV w B y) (hlx : x.length ≤ maxLen) (hly : y.length ≤ maxLen) :
    Calls Try.prog 22 #[.slice A x.length cx, .slice B y.length cy] w fun e w' => e = .returned (.int .i64 (rowsO x y)) ∧ Below w.heap.size w w' := by
  unfold maxLen at hlx hly
  go_enter Try.func22, Try.ntmps22
  go_wp2
  go_loopw [9] (fun i wr => ∃ k : Nat, k ≤ x.length ∧ i = .int .i64 k ∧ Hid (rowsO (x.drop k) (y.drop k) = rowsO x y) ∧ Hid (Below w.heap.size w wr)) (fun i _ => x.length - (intOf i).toNat)
  case atStart => exact ⟨0, Nat.zero_le _, rfl, rfl, Below.refl _ _⟩
  case round =>
    obtain ⟨k, hk, rfl, HR, HB⟩ := hrel
    by_cases hkx : k < x.length
    · by_cases hky : k < y.length
      · obtain ⟨bx, ox, rfl, hcx⟩ := hx (by intro h; subst h; simp at hkx)
        obtain ⟨yb, oy, rfl, hcy⟩ := hy (by intro h; subst h; simp at hky)
        obtain ⟨x0, x1, x2⟩ := (hcx k hkx).below HB.out
        obtain ⟨y0, y1, y2⟩ := (hcy k hky).below HB.out
        clear hcx hcy hx hy
        go_wp2_with fail
        refine wp_region_still_tail 8 (by kernel_rfl) (by kernel_rfl) ?_
        simp only [List.take_succ_cons, List.take_zero, List.drop_succ_cons, List.drop_zero]
        change wpStill _ _ wr.drew _ _ _
        repeat still_step
        refine wpStill_nil ?_
        go_wp2_with fail
        refine (order21 (el x k) (el y k) _).mono ?_
        rintro e w1 ⟨rfl, hb1⟩
        have HB1 := Lib.hid (Below.trans HB.out.drew (hb1.mono HB.out.drew.size))
        clear hb1 x0 x1 x2 y0 y1 y2 HB
        by_cases h0 : ord (el x k) (el y k) = 0
        · have H2 := Lib.hid (((rowsO_drop hkx hky).trans (if_pos h0)).symm.trans HR.out)
          have h0' : (ord (el x k) (el y k) != 0) = false := by simp [h0]
          clear h0 HR
          go_wp2
          go_roundw
          case rel => exact ⟨k + 1, by omega, by go_num, H2, HB1⟩
          case measure => simp [intOf]; omega
        · have H2 := Lib.hid (((rowsO_drop hkx hky).trans (if_neg h0)).symm.trans HR.out)
          have h0' : (ord (el x k) (el y k) != 0) = true := by simp [h0]
          clear h0 HR
          go_wp2
          go_ret
          exact ⟨ret_int H2.out, HB1.out⟩
      · go_wp2
        go_ret
        exact ⟨ret_int ((rowsO_y hkx (by omega)).symm.trans HR.out), HB.out⟩
    · go_wp2
      all_goals go_ret
      · exact ⟨ret_int ((rowsO_x (by omega) (by omega)).symm.trans HR.out), HB.out⟩
      · exact ⟨ret_int ((rowsO_e (by omega) (by omega)).symm.trans HR.out), HB.out⟩

def V.wf (v : V) : Prop := (Lit.int .i64 v.k).wf = true ∧ (Lit.int .i64 v.n).wf = true ∧ v.s.size ≤ maxLen
end Go.Proofs.Ytbibchinimhamaa
