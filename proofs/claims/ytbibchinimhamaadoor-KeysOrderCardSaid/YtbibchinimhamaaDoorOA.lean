/- The comparing functions of the library and of package value, and their contracts. -/
import Derived.Test.YtbibchinimhamaaDoorProg
import Derived.WalkKit
import Derived.Test.YtbibchinimhamaaDoorBL
import Derived.WalkSpells
import Derived.WalkLawsBesides
import Derived.KernelRfl
import Derived.StillTailTactics
import Derived.Deep.QuietTactic
import Derived.BigQuiet
import Derived.Handy
import Derived.Lib.Hide
namespace Go.Proofs.YtbibchinimhamaaDoor
open Go.RowKit
set_option linter.unusedVariables false
set_option linter.unusedSimpArgs false

theorem ret_int {k : IntKind} {a b : Int} (h : a = b) : Ending.returned (.int k a) = .returned (.int k b) := by rw [h]
theorem ret_bool {a b : Bool} (h : a = b) : Ending.returned (.bool a) = .returned (.bool b) := by rw [h]

theorem Calls_sym {P : Program} {f : FuncId} {args : Array Value} {w : World} {v : Value} (h : Calls P f args w fun e w' => e = .returned v ∧ w = w') :
    Calls P f args w fun e w' => e = .returned v ∧ w' = w := h.mono fun _ _ h => ⟨h.1, h.2.symm⟩

def cmpI (a b : Int) : Int := if a < b then -1 else if b < a then 1 else 0
def cmpS (a b : ByteArray) : Int := if Op.bytesLess a.toList b.toList = true then -1 else if Op.bytesLess b.toList a.toList = true then 1 else 0

set_option maxHeartbeats 400000 in
theorem nan57 (a : Int) (w : World) : Calls Tryd.prog 38 #[.int .i64 a] w fun e w' => e = .returned (.bool false) ∧ w = w' := by
  go_enter Tryd.func38, Tryd.ntmps38
  go_wp2
  go_ret
  exact ⟨by simp, rfl⟩

set_option maxHeartbeats 400000 in
theorem nan58 (a : Int) (w : World) : Calls Tryd.prog 39 #[.int .i64 a] w fun e w' => e = .returned (.bool false) ∧ w = w' := by
  go_enter Tryd.func39, Tryd.ntmps39
  go_wp2
  go_ret
  exact ⟨by simp, rfl⟩

set_option maxHeartbeats 400000 in
theorem nan59 (a : ByteArray) (w : World) : Calls Tryd.prog 40 #[.string a] w fun e w' => e = .returned (.bool false) ∧ w = w' := by
  go_enter Tryd.func40, Tryd.ntmps40
  go_wp2
  go_ret
  exact ⟨by simp, rfl⟩

theorem cmpI_lt {a b : Int} (h : a < b) : cmpI a b = -1 := by simp [cmpI, h]
theorem cmpI_gt {a b : Int} (h : b < a) : cmpI a b = 1 := by unfold cmpI; rw [if_neg (by omega), if_pos h]
theorem cmpI_eq (a : Int) : cmpI a a = 0 := by unfold cmpI; rw [if_neg (by omega), if_neg (by omega)]

set_option maxHeartbeats 400000 in
theorem compare39 (a b : Int) (w : World) : Calls Tryd.prog 30 #[.int .i64 a, .int .i64 b] w fun e w' => e = .returned (.int .i64 (cmpI a b)) ∧ w = w' := by
  go_enter Tryd.func30, Tryd.ntmps30
  go_wp2_with (go_at_call 38; (refine (nan57 _ _).mono ?_); rintro e w' ⟨rfl, rfl⟩)
  all_goals go_ret
  · exact ⟨ret_int (cmpI_lt ‹_›).symm, rfl⟩
  · exact ⟨ret_int (cmpI_gt ‹_›).symm, rfl⟩
  · obtain rfl : a = b := by omega
    exact ⟨ret_int (cmpI_eq a).symm, rfl⟩

set_option maxHeartbeats 400000 in
theorem compare40 (a b : Int) (w : World) : Calls Tryd.prog 31 #[.int .i64 a, .int .i64 b] w fun e w' => e = .returned (.int .i64 (cmpI a b)) ∧ w = w' := by
  go_enter Tryd.func31, Tryd.ntmps31
  go_wp2_with (go_at_call 39; (refine (nan58 _ _).mono ?_); rintro e w' ⟨rfl, rfl⟩)
  all_goals go_ret
  · exact ⟨ret_int (cmpI_lt ‹_›).symm, rfl⟩
  · exact ⟨ret_int (cmpI_gt ‹_›).symm, rfl⟩
  · obtain rfl : a = b := by omega
    exact ⟨ret_int (cmpI_eq a).symm, rfl⟩

set_option maxHeartbeats 400000 in
theorem compare41 (a b : ByteArray) (w : World) : Calls Tryd.prog 32 #[.string a, .string b] w fun e w' => e = .returned (.int .i64 (cmpS a b)) ∧ w = w' := by
  go_enter Tryd.func32, Tryd.ntmps32
  go_wp2_with (go_at_call 40; (refine (nan59 _ _).mono ?_); rintro e w' ⟨rfl, rfl⟩)
  all_goals go_ret
  · exact ⟨ret_int (by have h : Op.bytesLess a.toList b.toList = true := by assumption
                       unfold cmpS; rw [if_pos h]), rfl⟩
  · exact ⟨ret_int (by have h : Op.bytesLess a.toList b.toList = false := by assumption
                       have h2 : (!a.toList == b.toList) = true := by assumption
                       have h3 : Op.bytesLess b.toList a.toList = true := by
                         rcases bytesLess_or a.toList b.toList with h4 | h4 | h4
                         · rw [h] at h4; cases h4
                         · rw [h4] at h2; simp at h2
                         · exact h4
                       unfold cmpS; rw [if_neg (by rw [h]; simp), if_pos h3]), rfl⟩
  · exact ⟨ret_int (by have h : Op.bytesLess a.toList b.toList = false := by assumption
                       have h2 : (!a.toList == b.toList) = false := by assumption
                       have h3 : a.toList = b.toList := by simpa using h2
                       unfold cmpS; rw [← h3, bytesLess_irrefl]; simp), rfl⟩

def or3 (a b c : Int) : Int := if a = 0 then (if b = 0 then c else b) else a
theorem or3_a {a : Int} (b c : Int) (h : ¬ a = 0) : or3 a b c = a := by unfold or3; rw [if_neg h]
theorem or3_b {b : Int} (c : Int) (h : ¬ b = 0) : or3 0 b c = b := by unfold or3; rw [if_pos rfl, if_neg h]
theorem or3_c (c : Int) : or3 0 0 c = c := rfl

set_option maxHeartbeats 400000 in
theorem or38 (g : Nat) (a b c : Int) (w : World) (h0 : w.cell? ⟨g, 0, none⟩ = some (.int .i64 a)) (h1 : w.cell? ⟨g, 1, none⟩ = some (.int .i64 b)) (h2 : w.cell? ⟨g, 2, none⟩ = some (.int .i64 c)) :
    Calls Tryd.prog 29 #[.slice (some ⟨g, 0, none⟩) 3 3] w fun e w' => e = .returned (.int .i64 (or3 a b c)) ∧ w = w' := by
  go_enter Tryd.func29, Tryd.ntmps29
  go_wp2
  go_rounds 4
  all_goals go_ret
  · exact ⟨ret_int (or3_a b c (by simpa using (‹(a != 0) = true›))).symm, rfl⟩
  · obtain rfl : a = 0 := by simpa using (‹(a != 0) = false›)
    exact ⟨ret_int (or3_b c (by simpa using (‹(b != 0) = true›))).symm, rfl⟩
  · obtain rfl : a = 0 := by simpa using (‹(a != 0) = false›)
    obtain rfl : b = 0 := by simpa using (‹(b != 0) = false›)
    exact ⟨ret_int (or3_c c).symm, rfl⟩
  · obtain rfl : a = 0 := by simpa using (‹(a != 0) = false›)
    obtain rfl : b = 0 := by simpa using (‹(b != 0) = false›)
    obtain rfl : c = 0 := by simpa using (‹(c != 0) = false›)
    exact ⟨ret_int rfl, rfl⟩

/-- A value: its kind, number, text. -/
structure V where
  k : Int
  n : Int
  s : ByteArray
abbrev V.val (v : V) : Value := .agg #[.int .i64 v.k, .int .i64 v.n, .string v.s]
def ord (a b : V) : Int := or3 (cmpI a.k b.k) (cmpI a.n b.n) (cmpS a.s b.s)

set_option maxHeartbeats 400000 in
theorem order17 (a b : V) (w : World) : Calls Tryd.prog 24 #[a.val, b.val] w fun e w' => e = .returned (.int .i64 (ord a b)) ∧ Below w.heap.size w w' := by
  obtain ⟨ak, an, ax⟩ := a
  obtain ⟨bk, bn, bx⟩ := b
  go_enter Tryd.func24, Tryd.ntmps24
  go_wp2_with fail
  obtain ⟨W, hW⟩ : ∃ W, W = (w.alloc (.cells #[.int .i64 ak, .int .i64 an, .string ax] 38)).alloc (.cells #[.int .i64 bk, .int .i64 bn, .string bx] 38) := ⟨_, rfl⟩
  have hB : Below w.heap.size w W := by rw [hW]; go_grown
  have c0 : W.cell? ⟨w.heap.size, 0, none⟩ = some (.int .i64 ak) := by rw [hW]; go_simp
  have c1 : W.cell? ⟨w.heap.size, 1, none⟩ = some (.int .i64 an) := by rw [hW]; go_simp
  have c2 : W.cell? ⟨w.heap.size, 2, none⟩ = some (.string ax) := by rw [hW]; go_simp
  have c3 : W.cell? ⟨w.heap.size + 1, 0, none⟩ = some (.int .i64 bk) := by rw [hW]; go_simp
  have c4 : W.cell? ⟨w.heap.size + 1, 1, none⟩ = some (.int .i64 bn) := by rw [hW]; go_simp
  have c5 : W.cell? ⟨w.heap.size + 1, 2, none⟩ = some (.string bx) := by rw [hW]; go_simp
  rw [← hW]
  have HB := Lib.hid hB
  clear hW hB
  refine wp_region_still_tail 15 (by kernel_rfl) (by kernel_rfl) ?_
  simp only [List.take_succ_cons, List.take_zero, List.drop_succ_cons, List.drop_zero]
  change wpStill _ _ W.drew _ _ _
  repeat still_step
  still_call (Calls_sym (compare39 _ _ _))
  repeat still_step
  still_call (Calls_sym (compare40 _ _ _))
  repeat still_step
  still_call (Calls_sym (compare41 _ _ _))
  repeat still_step
  refine wpStill_nil ?_
  go_wp2_with fail
  refine (or38 W.heap.size (cmpI ak bk) (cmpI an bn) (cmpS ax bx) _ ?_ ?_ ?_).mono ?_
  · go_simp
  · go_simp
  · go_simp
  rintro e w' ⟨rfl, rfl⟩
  go_wp2
  go_ret
  exact ⟨rfl, (HB.out.alloc HB.out.size _).drew⟩

end Go.Proofs.YtbibchinimhamaaDoor
