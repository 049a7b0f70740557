/- Laid by a program of this session: what functions that the law reaches answer, and the walk of each. -/
import Derived.Test.YtbibchinimhamaaDoorSR0
namespace Go.Proofs.YtbibchinimhamaaDoor.SR
open Go.RowKit Go.Proofs.YtbibchinimhamaaDoorW.PrintWords Go.Proofs.YtbibchinimhamaaDoorW.PrintLast Go.Proofs.YtbibchinimhamaaDoorW.PrintMore
attribute [local go_sem] max2_int min2_int max_two min_two max_three min_three max_four min_four   -- for this text's walks alone
set_option linter.unusedVariables false
set_option linter.unusedSimpArgs false

/-! ### wainscotref01_one: function 22 -/
mutual
def wainscotref01_one.j0 : Nat → List Int → Bool → Int → Int → ByteArray → Option (Int × Int × ByteArray × Int × Bool)
  | 0, _, _, _, _, _ => none
  | k + 1, x0, x19, x169000, x169001, x169002 => if x19 = true then (wainscotref01_one.l0 k x0 0 0) else (if 0 < (x0.length : Int) then (if (rd x0 0) = 32 then (wainscotref01_one.l1 k x0 (⟨#[]⟩ : ByteArray) 1 x169000 x169001 x169002) else (some (x169000, x169001, x169002, 0, false))) else (none))
def wainscotref01_one.l0 : Nat → List Int → Int → Int → Option (Int × Int × ByteArray × Int × Bool)
  | 0, _, _, _ => none
  | k + 1, x0, x6, x29 => if x29 < 8 then (if 0 ≤ (wrap64 (1 + x29)) then (if (wrap64 (1 + x29)) < (x0.length : Int) then (wainscotref01_one.l0 k x0 (Go.bits .or .u64 (IntKind.u64.wrap (x6 * 256)) (IntKind.u64.wrap (rd x0 (wrap64 (1 + x29))))) (wrap64 (x29 + 1))) else (none)) else (none)) else (if 9 ≤ (x0.length : Int) then (some (1, wrap64 (IntKind.u64.wrap (x6 - 9223372036854775808)), (⟨#[]⟩ : ByteArray), 9, true)) else (none))
def wainscotref01_one.l1 : Nat → List Int → ByteArray → Int → Int → Int → ByteArray → Option (Int × Int × ByteArray × Int × Bool)
  | 0, _, _, _, _, _, _ => none
  | k + 1, x0, x8, x9, x169000, x169001, x169002 => if x9 < (x0.length : Int) then (if 0 ≤ x9 then (if (rd x0 x9) = 0 then (if (wrap64 (x9 + 1)) ≥ (x0.length : Int) then (some (x169000, x169001, x169002, 0, false)) else (if 0 ≤ (wrap64 (x9 + 1)) then (if (wrap64 (x9 + 1)) < (x0.length : Int) then (if (rd x0 (wrap64 (x9 + 1))) = 0 then (if 0 ≤ (wrap64 (x9 + 2)) then (if (wrap64 (x9 + 2)) ≤ (x0.length : Int) then (some (2, 0, x8, wrap64 (x9 + 2), decide ((x8.size : Int) ≤ 100))) else (none)) else (none)) else (if (rd x0 (wrap64 (x9 + 1))) = 255 then (if x8.size + 1 ≤ 9223372036854775807 then (wainscotref01_one.l1 k x0 (x8 ++ (⟨#[0]⟩ : ByteArray)) (wrap64 ((wrap64 (x9 + 1)) + 1)) x169000 x169001 x169002) else (none)) else (some (x169000, x169001, x169002, 0, false)))) else (none)) else (none))) else (if x9 ≤ (wrap64 (x9 + 1)) then (if (wrap64 (x9 + 1)) ≤ (x0.length : Int) then (if x8.size + (strOfNums ((x0.take ((wrap64 (x9 + 1)) : Int).toNat).drop (x9 : Int).toNat)).size ≤ 9223372036854775807 then (wainscotref01_one.l1 k x0 (x8 ++ (strOfNums ((x0.take ((wrap64 (x9 + 1)) : Int).toNat).drop (x9 : Int).toNat))) (wrap64 (x9 + 1)) x169000 x169001 x169002) else (none)) else (none)) else (none))) else (none)) else (some (x169000, x169001, x169002, 0, false))
end
def wainscotref01_one.f (k : Nat) (l0 : List Int) : Option (Int × Int × ByteArray × Int × Bool) := if 0 < (l0.length : Int) then (if (rd l0 0) = 5 then (if 1 ≤ (l0.length : Int) then (some (0, 0, (⟨#[]⟩ : ByteArray), 1, true)) else (none)) else (if (rd l0 0) = 16 then (wainscotref01_one.j0 k l0 (decide ((l0.length : Int) ≥ 9)) 0 0 (⟨#[]⟩ : ByteArray)) else (wainscotref01_one.j0 k l0 false 0 0 (⟨#[]⟩ : ByteArray)))) else (none)
theorem wainscotref01_one.mono_l : ∀ k, (∀ y0 y1 y2 y3 y4, LeO (wainscotref01_one.j0 k y0 y1 y2 y3 y4) (wainscotref01_one.j0 (k + 1) y0 y1 y2 y3 y4)) ∧ (∀ y0 y1 y2, LeO (wainscotref01_one.l0 k y0 y1 y2) (wainscotref01_one.l0 (k + 1) y0 y1 y2)) ∧ (∀ y0 y1 y2 y3 y4 y5, LeO (wainscotref01_one.l1 k y0 y1 y2 y3 y4 y5) (wainscotref01_one.l1 (k + 1) y0 y1 y2 y3 y4 y5))
  | 0 => ⟨fun _ _ _ _ _ r h => by simp [wainscotref01_one.j0] at h, fun _ _ _ r h => by simp [wainscotref01_one.l0] at h, fun _ _ _ _ _ _ r h => by simp [wainscotref01_one.l1] at h⟩
  | k + 1 => by
    obtain ⟨ih0, ih1, ih2⟩ := wainscotref01_one.mono_l k
    refine ⟨?_, ?_, ?_⟩
    · intro y0 y1 y2 y3 y4
      unfold wainscotref01_one.j0
      repeat' first
      | (with_reducible exact ih0 _ _ _ _ _)
      | (with_reducible exact ih1 _ _ _)
      | (with_reducible exact ih2 _ _ _ _ _ _)
      | (with_reducible exact LeO.refl _)
      | (with_reducible exact LeO.none _)
      | (with_reducible refine LeO.ite ?_ ?_)
      | (with_reducible refine LeO.bind ?_ (fun _ => ?_))
      | exact ih0 _ _ _ _ _
      | exact ih1 _ _ _
      | exact ih2 _ _ _ _ _ _
      | exact LeO.none _
      | refine LeO.ite ?_ ?_
      | refine LeO.bind ?_ (fun _ => ?_)
    · intro y0 y1 y2
      unfold wainscotref01_one.l0
      repeat' first
      | (with_reducible exact ih0 _ _ _ _ _)
      | (with_reducible exact ih1 _ _ _)
      | (with_reducible exact ih2 _ _ _ _ _ _)
      | (with_reducible exact LeO.refl _)
      | (with_reducible exact LeO.none _)
      | (with_reducible refine LeO.ite ?_ ?_)
      | (with_reducible refine LeO.bind ?_ (fun _ => ?_))
      | exact ih0 _ _ _ _ _
      | exact ih1 _ _ _
      | exact ih2 _ _ _ _ _ _
      | exact LeO.none _
      | refine LeO.ite ?_ ?_
      | refine LeO.bind ?_ (fun _ => ?_)
    · intro y0 y1 y2 y3 y4 y5
      unfold wainscotref01_one.l1
      repeat' first
      | (with_reducible exact ih0 _ _ _ _ _)
      | (with_reducible exact ih1 _ _ _)
      | (with_reducible exact ih2 _ _ _ _ _ _)
      | (with_reducible exact LeO.refl _)
      | (with_reducible exact LeO.none _)
      | (with_reducible refine LeO.ite ?_ ?_)
      | (with_reducible refine LeO.bind ?_ (fun _ => ?_))
      | exact ih0 _ _ _ _ _
      | exact ih1 _ _ _
      | exact ih2 _ _ _ _ _ _
      | exact LeO.none _
      | refine LeO.ite ?_ ?_
      | refine LeO.bind ?_ (fun _ => ?_)
theorem wainscotref01_one.mono : ∀ a0 k, LeO (wainscotref01_one.f k a0) (wainscotref01_one.f (k + 1) a0) := by
  intro a0 k
  obtain ⟨ih0, ih1, ih2⟩ := wainscotref01_one.mono_l k
  unfold wainscotref01_one.f
  repeat' first
      | (with_reducible exact ih0 _ _ _ _ _)
      | (with_reducible exact ih1 _ _ _)
      | (with_reducible exact ih2 _ _ _ _ _ _)
      | (with_reducible exact LeO.refl _)
      | (with_reducible exact LeO.none _)
      | (with_reducible refine LeO.ite ?_ ?_)
      | (with_reducible refine LeO.bind ?_ (fun _ => ?_))
      | exact ih0 _ _ _ _ _
      | exact ih1 _ _ _
      | exact ih2 _ _ _ _ _ _
      | exact LeO.none _
      | refine LeO.ite ?_ ?_
      | refine LeO.bind ?_ (fun _ => ?_)
def wainscotref01_one.T11 : Bool × List (List Nat × List Nat) := (true, [([], []), ([0], [0]), ([1], [1]), ([2], [2]), ([], []), ([4], [4]), ([3, 0, 1, 2, 3], [3]), ([5, 6, 0, 1, 2, 3, 4, 5, 6], [5]), ([7, 0, 1, 2, 3, 4, 5, 6, 7], [])])
def wainscotref01_one.B11 : List Nat := [0, 1, 3, 7, 0, 16, 15, 127, 255]
theorem wainscotref01_one.tab11 : rtab .any (opsOf Tryd.f22 11) = wainscotref01_one.T11 := by kernel_rfl
theorem wainscotref01_one.bits11 : waitsOk wainscotref01_one.T11.2 wainscotref01_one.B11 = true := by kernel_rfl
def wainscotref01_one.T21 : Bool × List (List Nat × List Nat) := (true, [([], []), ([0], [0]), ([], []), ([], []), ([3], [3]), ([2, 4], [2, 4]), ([], []), ([6], [6]), ([7], [7]), ([1, 0, 1], [1]), ([5, 9, 0, 1, 2, 3, 4, 5, 9], [5]), ([8, 10, 0, 1, 2, 3, 4, 5, 6, 7, 8, 9, 10], [8])])
def wainscotref01_one.B21 : List Nat := [0, 1, 0, 0, 8, 28, 0, 64, 192, 3, 575, 2047]
theorem wainscotref01_one.tab21 : rtab .any (opsOf Tryd.f22 21) = wainscotref01_one.T21 := by kernel_rfl
theorem wainscotref01_one.bits21 : waitsOk wainscotref01_one.T21.2 wainscotref01_one.B21 = true := by kernel_rfl
/-- What is handed back behind the value: nothing, or the key from place k on. -/
def RestIs (A0 : Option Addr) (v : Value) (l : List Int) (k : Int) (ok : Bool) : Prop :=
  (k = 0 ∧ ok = false) ∨ ∃ A c, v = .slice A (l.drop k.toNat).length c ∧ (∀ W, Kd.C (Kd.int .u8) W A0 l.length l → Kd.C (Kd.int .u8) W A (l.drop k.toNat).length (l.drop k.toNat)) ∧ (l.drop k.toNat).length ≤ c
set_option maxHeartbeats 8000000 in
set_option maxRecDepth 100000 in
theorem wainscotref01_one.calls (k : Nat) (A0 : Option Addr) (c0 : Nat) (l0 : List Int) (r1 : Int) (r2 : Int) (r3 : ByteArray) (r4 : Int) (r5 : Bool) (w : World) (hr0 : Kd.C (Kd.int .u8) w A0 l0.length l0) (hc0 : l0.length ≤ c0) (h : wainscotref01_one.f k l0 = some (r1, r2, r3, r4, r5)) :
    Calls Tryd.prog 22 #[.slice A0 l0.length c0] w fun e w' => ∃ v_, e = .returned (.tuple #[.agg #[.int .i64 r1, .int .i64 r2, .string r3], v_, .bool r5]) ∧ RestIs A0 v_ l0 r4 r5 ∧ Below w.heap.size w w' := by
  have hu38 := Tryd.underlying38
  have HR0 := Aside0.mk hr0
  have HC0 := Aside0.mk hc0
  clear hr0 hc0
  have HB := Aside0.mk (Below.refl w.heap.size w)
  have H : (if 0 < (l0.length : Int) then (if (rd l0 0) = 5 then (if 1 ≤ (l0.length : Int) then (some (0, 0, (⟨#[]⟩ : ByteArray), 1, true)) else (none)) else (if (rd l0 0) = 16 then (wainscotref01_one.j0 k l0 (decide ((l0.length : Int) ≥ 9)) 0 0 (⟨#[]⟩ : ByteArray)) else (wainscotref01_one.j0 k l0 false 0 0 (⟨#[]⟩ : ByteArray)))) else (none)) = some (r1, r2, r3, r4, r5) := h
  clear h
  by_cases c2 : 0 < (l0.length : Int)
  · rw [if_pos c2] at H
    have c2b0 : decide (0 < (l0.length : Int)) = true := decide_eq_true c2
    have c2b1 : decide (0 < l0.length) = true := decide_eq_true (by omega)
    clear c2
    by_cases c3 : (rd l0 0) = 5
    · rw [if_pos c3] at H
      have c3b0 : ((rd l0 0) == 5) = true := beq_iff_eq.mpr c3
      have c3b1 : ((rd l0 0) != 5) = false := bne_eq_false_iff_eq.mpr c3
      clear c3
      by_cases c4 : 1 ≤ (l0.length : Int)
      · rw [if_pos c4] at H
        have c4b0 := eq_true c4
        have c4b1 : decide (1 ≤ (l0.length : Int)) = true := decide_eq_true c4
        clear c4
        simp only [Option.some.injEq, Prod.mk.injEq] at H
        obtain ⟨rfl, rfl, rfl, rfl, rfl⟩ := H
        go_enter Tryd.func22, Tryd.ntmps22
        try go_wp2_with (first | ((with_reducible refine gate_dst (N := 2) rfl ?_); (try (refine gate_guard (by rfl) ?_; dsimp only)); refine box_event ?hg (N := 2) ?hd (cs := #[.int .i64 0, .int .i64 0, .string (⟨#[]⟩ : ByteArray)]) (t := 38) ?hr ?_; (case hd => rfl); (case hg => rfl); (case hr => first | (go_simp; done) | (go_simp; rfl)); intro gb167 hg w5 hbox hb; have n0_ := Aside0.mk (below_step (by repeat (first | (with_reducible first | exact HB.out | apply below_alloc | apply pw_below_drewN | apply below_drew1) | exact HB.out)) hb); have n1_ := Aside0.mk (hbox); have n2_ := Aside0.mk ((by rw [hg]; exact (below_size (by repeat (first | (with_reducible first | exact HB.out | apply below_alloc | apply pw_below_drewN | apply below_drew1) | exact HB.out))) : w.heap.size ≤ gb167)); have n3_ := Aside0.mk ((by rw [hg]; exact (below_size (by repeat (first | (with_reducible first | exact HB.out | apply below_alloc | apply pw_below_drewN | apply below_drew1) | exact HB.out))) : w.heap.size ≤ gb167)); clear HB; have HB := n0_; have BK167 := n1_; have GW167 := n2_; have GE167 := n3_; clear n0_ n1_ n2_ n3_; clear hb hbox hg) | ((with_reducible refine gate_dst (N := 5) rfl ?_); (try (refine gate_guard (by rfl) ?_; dsimp only)); refine box_event ?hg (N := 5) ?hd (cs := #[.int .i64 0, .int .i64 0, .string (⟨#[]⟩ : ByteArray)]) (t := 38) ?hr ?_; (case hd => rfl); (case hg => rfl); (case hr => first | (go_simp; done) | (go_simp; rfl)); intro gb168 hg w6 hbox hb; have n0_ := Aside0.mk (blk_below (g := gb167) (o := .cells #[.int .i64 0, .int .i64 0, .string (⟨#[]⟩ : ByteArray)] 38 (0, 0)) (by (with_reducible repeat (first | refine blk_drewN ?_ _ | refine blk_drew ?_ | refine blk_alloc ?_ _)); exact BK167.out) hb); have n1_ := Aside0.mk (below_step (by repeat (first | (with_reducible first | exact HB.out | apply below_alloc | apply pw_below_drewN | apply below_drew1 | refine below_set ?_ GE167.out) | exact HB.out)) hb); have n2_ := Aside0.mk (hbox); have n3_ := Aside0.mk ((by rw [hg]; exact (below_size (by repeat (first | (with_reducible first | exact HB.out | apply below_alloc | apply pw_below_drewN | apply below_drew1 | refine below_set ?_ GE167.out) | exact HB.out))) : w.heap.size ≤ gb168)); have n4_ := Aside0.mk ((by rw [hg]; exact (below_size (by repeat (first | (with_reducible first | exact HB.out | apply below_alloc | apply pw_below_drewN | apply below_drew1 | refine below_set ?_ GE167.out) | exact HB.out))) : w.heap.size ≤ gb168)); have n5_ := Aside0.mk ((by rw [hg]; exact Nat.ne_of_lt (blk_lt (g := gb167) (o := .cells #[.int .i64 0, .int .i64 0, .string (⟨#[]⟩ : ByteArray)] 38 (0, 0)) (by (with_reducible repeat (first | refine blk_drewN ?_ _ | refine blk_drew ?_ | refine blk_alloc ?_ _)); exact BK167.out)) : gb167 ≠ gb168)); have n6_ := Aside0.mk ((by rw [hg]; exact Nat.ne_of_gt (blk_lt (g := gb167) (o := .cells #[.int .i64 0, .int .i64 0, .string (⟨#[]⟩ : ByteArray)] 38 (0, 0)) (by (with_reducible repeat (first | refine blk_drewN ?_ _ | refine blk_drew ?_ | refine blk_alloc ?_ _)); exact BK167.out)) : gb168 ≠ gb167)); clear BK167; clear HB; have BK167 := n0_; have HB := n1_; have BK168 := n2_; have GW168 := n3_; have GE168 := n4_; have NB167_168 := n5_; have NB168_167 := n6_; clear n0_ n1_ n2_ n3_ n4_ n5_ n6_; clear hb hbox hg; have hnb7 := NB168_167.out; have hnc7 := NB167_168.out; have hcz8_0 : w6.cell? ⟨gb168, 0, none⟩ = some (.int .i64 0) := (blk_cell BK168.out 0).trans rfl; have hcz8_1 : w6.cell? ⟨gb168, 1, none⟩ = some (.int .i64 0) := (blk_cell BK168.out 1).trans rfl; have hcz8_2 : w6.cell? ⟨gb168, 2, none⟩ = some (.string (⟨#[]⟩ : ByteArray)) := (blk_cell BK168.out 2).trans rfl; have hfz8_0 := blk_frozen BK168.out 0; have hfz8_1 := blk_frozen BK168.out 1; have hfz8_2 := blk_frozen BK168.out 2; have p169 : 0 ≤ (0 : Int) := (by omega); have q169 : 0 < (l0.length : Int) := of_decide_eq_true (by first | (with_reducible assumption) | assumption); obtain ⟨ad169, e169, hx169_0⟩ := Kd.at_int HR0.out 0 p169 q169; cases e169; have qi169 : (0 < l0.length) = True := eq_true (by omega); (try rw [show ((0 : Int)).toNat = 0 from rfl] at hx169_0); (try rw [Addr.add_zero'] at hx169_0); have hn169_0 : ad169.block ≠ gb168 := Nat.ne_of_lt (Nat.lt_of_lt_of_le (by have := World.block_lt_of_cell? _ _ hx169_0; first | rwa [add_block] at this | exact this) GW168.out); have hn169_1 : ad169.block ≠ gb168 := Nat.ne_of_lt (Nat.lt_of_lt_of_le (by have := World.block_lt_of_cell? _ _ hx169_0; first | rwa [add_block] at this | exact this) GW168.out); have hn169_2 : ad169.block ≠ gb168 := Nat.ne_of_lt (Nat.lt_of_lt_of_le (by have := World.block_lt_of_cell? _ _ hx169_0; first | rwa [add_block] at this | exact this) GW168.out); replace hx169_0 := (HB.out.cell (World.block_lt_of_cell? w _ hx169_0)).trans hx169_0; replace hx169_0 := (cell_far (p := ⟨gb168, 0, none⟩) (by first | (rw [add_block]; exact hn169_0) | (show (Addr.add _ _).block ≠ _; rw [add_block]; exact hn169_0) | exact hn169_0) (.int .i64 0)).trans hx169_0; replace hx169_0 := (cell_far (p := ⟨gb168, 1, none⟩) (by first | (rw [add_block]; exact hn169_1) | (show (Addr.add _ _).block ≠ _; rw [add_block]; exact hn169_1) | exact hn169_1) (.int .i64 0)).trans hx169_0; replace hx169_0 := (cell_far (p := ⟨gb168, 2, none⟩) (by first | (rw [add_block]; exact hn169_2) | (show (Addr.add _ _).block ≠ _; rw [add_block]; exact hn169_2) | exact hn169_2) (.string (⟨#[]⟩ : ByteArray))).trans hx169_0; clear hn169_0; clear hn169_1; clear hn169_2; replace p169 := eq_true p169; replace q169 := eq_true q169))
        have n0_ : Aside0 ((((w6.setCell ⟨gb168, 0, none⟩ (.int .i64 0)).setCell ⟨gb168, 1, none⟩ (.int .i64 0)).setCell ⟨gb168, 2, none⟩ (.string (⟨#[]⟩ : ByteArray))).heap[gb167]? = some (.cells #[.int .i64 0, .int .i64 0, .string (⟨#[]⟩ : ByteArray)] 38 (0, 0))) := ⟨by (with_reducible repeat (first | refine blk_drewN ?_ _ | refine blk_drew ?_ | refine blk_alloc ?_ _)); refine blk_far ?_ NB167_168.out _; (with_reducible repeat (first | refine blk_drewN ?_ _ | refine blk_drew ?_ | refine blk_alloc ?_ _)); refine blk_far ?_ NB167_168.out _; (with_reducible repeat (first | refine blk_drewN ?_ _ | refine blk_drew ?_ | refine blk_alloc ?_ _)); refine blk_far ?_ NB167_168.out _; (with_reducible repeat (first | refine blk_drewN ?_ _ | refine blk_drew ?_ | refine blk_alloc ?_ _)); exact BK167.out⟩
        have n1_ : Aside0 ((((w6.setCell ⟨gb168, 0, none⟩ (.int .i64 0)).setCell ⟨gb168, 1, none⟩ (.int .i64 0)).setCell ⟨gb168, 2, none⟩ (.string (⟨#[]⟩ : ByteArray))).heap[gb168]? = some (.cells #[.int .i64 0, .int .i64 0, .string (⟨#[]⟩ : ByteArray)] 38 (0, 0))) := ⟨by (with_reducible repeat (first | refine blk_drewN ?_ _ | refine blk_drew ?_ | refine blk_alloc ?_ _)); refine blk_put (cs := #[.int .i64 0, .int .i64 0, .string (⟨#[]⟩ : ByteArray)]) ?_ 2 _ rfl; (with_reducible repeat (first | refine blk_drewN ?_ _ | refine blk_drew ?_ | refine blk_alloc ?_ _)); refine blk_put (cs := #[.int .i64 0, .int .i64 0, .string (⟨#[]⟩ : ByteArray)]) ?_ 1 _ rfl; (with_reducible repeat (first | refine blk_drewN ?_ _ | refine blk_drew ?_ | refine blk_alloc ?_ _)); refine blk_put (cs := #[.int .i64 0, .int .i64 0, .string (⟨#[]⟩ : ByteArray)]) ?_ 0 _ rfl; (with_reducible repeat (first | refine blk_drewN ?_ _ | refine blk_drew ?_ | refine blk_alloc ?_ _)); exact BK168.out⟩
        have n2_ : Aside0 (Below w.heap.size w (((w6.setCell ⟨gb168, 0, none⟩ (.int .i64 0)).setCell ⟨gb168, 1, none⟩ (.int .i64 0)).setCell ⟨gb168, 2, none⟩ (.string (⟨#[]⟩ : ByteArray)))) := ⟨by repeat (first | (with_reducible first | exact HB.out | apply below_alloc | apply pw_below_drewN | apply below_drew1 | refine below_set ?_ GE167.out | refine below_set ?_ GE168.out) | exact HB.out)⟩
        (try clear BK167)
        (try clear BK168)
        (try clear HB)
        generalize (((w6.setCell ⟨gb168, 0, none⟩ (.int .i64 0)).setCell ⟨gb168, 1, none⟩ (.int .i64 0)).setCell ⟨gb168, 2, none⟩ (.string (⟨#[]⟩ : ByteArray))) = w9 at n0_ n1_ n2_ ⊢
        have BK167 := n0_
        have BK168 := n1_
        have HB := n2_
        clear n0_ n1_ n2_
        have n0_ := Aside0.mk (blk_drew BK167.out)
        have n1_ := Aside0.mk (blk_drew BK168.out)
        have n2_ := Aside0.mk (below_drew1 HB.out)
        clear BK167
        clear BK168
        clear HB
        have BK167 := n0_
        have BK168 := n1_
        have HB := n2_
        clear n0_ n1_ n2_
        obtain ⟨i011, hi011, _, hsz11, _⟩ := info_parts info5
        obtain ⟨A11, hcut11, hA11, hC11⟩ := print_drop_of (P := Tryd.prog) (Value.int .u8) 0 22 5 .i64 Tryd.underlying22 hi011 hsz11 (some ad169) c0 l0 1 (by omega) (of_decide_eq_true (by first | (with_reducible assumption) | assumption)) HC0.out
        have HR170 := Aside0.mk (fun (W : World) (hW_ : Kd.C (Kd.int .u8) W _ l0.length l0) => Kd.C_of_reads (h1 := fun _ => rfl) (hA11 W (Kd.reads_of_C hW_)))
        have HC170 := Aside0.mk hC11
        clear hA11 hC11 hi011 hsz11
        refine start_ (n := 6) (S := fun w' => w'.cell? ⟨gb168, 0, none⟩ = some (.int .i64 0) ∧ w'.cell? ⟨gb168, 1, none⟩ = some (.int .i64 0) ∧ w'.cell? ⟨gb168, 2, none⟩ = some (.string (⟨#[]⟩ : ByteArray))) (ds := []) #[false, false, false, false, false, false] (by kernel_rfl) rfl rfl ⟨(blk_cell BK168.out 0).trans rfl, (blk_cell BK168.out 1).trans rfl, (blk_cell BK168.out 2).trans rfl⟩ (fun hHeld => ?_)
        generalize w9.drew = w10 at BK167 BK168 HB HR170 hHeld ⊢
        refine pure_ (i := 1) (N := some 17) (v := ?_) (a' := ?_) #[false, true, false, false, false, false] rfl rfl (by kernel_rfl) (fun _ _ _ h => h) (Or.inl ⟨by rfl, ?_⟩) ?_ ?_
        rotate_left
        · intro w'
          go_simp
          with_reducible rfl
        rotate_left
        · simp only [Act.put, List.setIfInBounds_toArray, List.set_cons_zero, List.set_cons_succ, i64_w, i32_w]
          rfl
        refine pure_ (i := 2) (N := some 18) (v := ?_) (a' := ?_) #[false, true, true, false, false, false] rfl rfl (by kernel_rfl) (fun _ _ _ h => h) (Or.inl ⟨by rfl, ?_⟩) ?_ ?_
        rotate_left
        · intro w'
          go_simp
          with_reducible rfl
        rotate_left
        · simp only [Act.put, List.setIfInBounds_toArray, List.set_cons_zero, List.set_cons_succ, i64_w, i32_w]
          rfl
        refine take_ (i := 0) (N := some 16) (v := ?_) (a' := ?_) #[true, true, true, false, false, false] rfl rfl (by kernel_rfl) (fun _ _ _ h => h) (Or.inl ⟨by rfl, ?_⟩) hHeld ?_ ?_
        rotate_left
        · rintro w' ⟨s0, s1, s2⟩
          go_simp
          with_reducible rfl
        rotate_left
        · simp only [Act.put, List.setIfInBounds_toArray, List.set_cons_zero, List.set_cons_succ, i64_w, i32_w]
          rfl
        refine one_ (i := 3) (N := none) #[true, true, true, true, false, false] rfl rfl (by kernel_rfl) (by decide) (fun K hK => ?_)
        have hs12 : w10.cell? ⟨gb167, 0, none⟩ = some (.int .i64 0) := (blk_cell BK167.out 0).trans rfl
        have hfs12 := blk_frozen BK167.out 0
        have hns12_1 := NB168_167.out
        have hms12_1 := NB167_168.out
        have hs13 : w10.cell? ⟨gb167, 1, none⟩ = some (.int .i64 0) := (blk_cell BK167.out 1).trans rfl
        have hfs13 := blk_frozen BK167.out 1
        have hns13_1 := NB168_167.out
        have hms13_1 := NB167_168.out
        have hs14 : w10.cell? ⟨gb167, 2, none⟩ = some (.string (⟨#[]⟩ : ByteArray)) := (blk_cell BK167.out 2).trans rfl
        have hfs14 := blk_frozen BK167.out 2
        have hns14_1 := NB168_167.out
        have hms14_1 := NB167_168.out
        refine skip_ (w1 := ?_) (by rfl) rfl ?_ ?_
        rotate_left
        · go_simp
          rfl
        refine hK.out _ _ ⟨((cell_far (p := ⟨gb167, _, none⟩) NB168_167.out _).trans (((cell_far (p := ⟨gb167, _, none⟩) NB168_167.out _).trans (((cell_far (p := ⟨gb167, _, none⟩) NB168_167.out _).trans (hHeld.1)))))), ((cell_far (p := ⟨gb167, _, none⟩) NB168_167.out _).trans (((cell_far (p := ⟨gb167, _, none⟩) NB168_167.out _).trans (((cell_far (p := ⟨gb167, _, none⟩) NB168_167.out _).trans (hHeld.2.1)))))), ((cell_far (p := ⟨gb167, _, none⟩) NB168_167.out _).trans (((cell_far (p := ⟨gb167, _, none⟩) NB168_167.out _).trans (((cell_far (p := ⟨gb167, _, none⟩) NB168_167.out _).trans (hHeld.2.2))))))⟩ (fun hHeld => ?_)
        clear hK K
        refine pure_ (i := 4) (N := some 3) (v := ?_) (a' := ?_) #[true, true, true, true, true, false] rfl rfl (by kernel_rfl) (fun _ _ _ h => h) (Or.inl ⟨by rfl, ?_⟩) ?_ ?_
        rotate_left
        · intro w'
          go_simp
          with_reducible rfl
        rotate_left
        · simp only [Act.put, List.setIfInBounds_toArray, List.set_cons_zero, List.set_cons_succ, i64_w, i32_w]
          rfl
        refine pure_ (i := 5) (N := some 4) (v := ?_) (a' := ?_) #[true, true, true, true, true, true] rfl rfl (by kernel_rfl) (fun _ _ _ h => h) (Or.inl ⟨by rfl, ?_⟩) ?_ ?_
        rotate_left
        · intro w'
          go_simp
          with_reducible rfl
        rotate_left
        · simp only [Act.put, List.setIfInBounds_toArray, List.set_cons_zero, List.set_cons_succ, i64_w, i32_w]
          rfl
        refine done_ (by kernel_rfl) ?_
        try go_wp2
        refine bodyPost_ret (results_ctt rfl _ _ gb167 38 #[.int .i64 0, .int .i64 0, .string (⟨#[]⟩ : ByteArray)] (0, 0) _ rfl (by (with_reducible repeat (first | refine blk_drewN ?_ _ | refine blk_drew ?_ | refine blk_alloc ?_ _)); refine blk_put (cs := #[.int .i64 0, .int .i64 0, .string (⟨#[]⟩ : ByteArray)]) ?_ 2 _ rfl; (with_reducible repeat (first | refine blk_drewN ?_ _ | refine blk_drew ?_ | refine blk_alloc ?_ _)); refine blk_put (cs := #[.int .i64 0, .int .i64 0, .string (⟨#[]⟩ : ByteArray)]) ?_ 1 _ rfl; (with_reducible repeat (first | refine blk_drewN ?_ _ | refine blk_drew ?_ | refine blk_alloc ?_ _)); refine blk_put (cs := #[.int .i64 0, .int .i64 0, .string (⟨#[]⟩ : ByteArray)]) ?_ 0 _ rfl; (with_reducible repeat (first | refine blk_drewN ?_ _ | refine blk_drew ?_ | refine blk_alloc ?_ _)); exact BK167.out) Tryd.underlying38 rfl (by kernel_rfl)) rfl ?_
        exact ⟨_, rfl, .inr ⟨_, _, by first | rfl | simp, HR170.out, HC170.out⟩, by repeat (first | (with_reducible first | exact HB.out | apply below_alloc | apply pw_below_drewN | apply below_drew1 | refine below_set ?_ GE167.out | refine below_set ?_ GE168.out) | exact HB.out)⟩
      · rw [if_neg c4] at H
        exact absurd H (by simp)
    · rw [if_neg c3] at H
      have c3b0 : ((rd l0 0) == 5) = false := beq_eq_false_iff_ne.mpr c3
      have c3b1 : ((rd l0 0) != 5) = true := bne_iff_ne.mpr c3
      have HC15 := Aside0.mk H
      clear H
      go_enter Tryd.func22, Tryd.ntmps22
      go_upto_region 4 with (first | ((with_reducible refine gate_dst (N := 2) rfl ?_); (try (refine gate_guard (by rfl) ?_; dsimp only)); refine box_event ?hg (N := 2) ?hd (cs := #[.int .i64 0, .int .i64 0, .string (⟨#[]⟩ : ByteArray)]) (t := 38) ?hr ?_; (case hd => rfl); (case hg => rfl); (case hr => first | (go_simp; done) | (go_simp; rfl)); intro gb167 hg w16 hbox hb; have n0_ := Aside0.mk (below_step (by repeat (first | (with_reducible first | exact HB.out | apply below_alloc | apply pw_below_drewN | apply below_drew1) | exact HB.out)) hb); have n1_ := Aside0.mk (hbox); have n2_ := Aside0.mk ((by rw [hg]; exact (below_size (by repeat (first | (with_reducible first | exact HB.out | apply below_alloc | apply pw_below_drewN | apply below_drew1) | exact HB.out))) : w.heap.size ≤ gb167)); have n3_ := Aside0.mk ((by rw [hg]; exact (below_size (by repeat (first | (with_reducible first | exact HB.out | apply below_alloc | apply pw_below_drewN | apply below_drew1) | exact HB.out))) : w.heap.size ≤ gb167)); clear HB; have HB := n0_; have BK167 := n1_; have GW167 := n2_; have GE167 := n3_; clear n0_ n1_ n2_ n3_; clear hb hbox hg) | ((with_reducible refine gate_dst (N := 5) rfl ?_); (try (refine gate_guard (by rfl) ?_; dsimp only)); refine box_event ?hg (N := 5) ?hd (cs := #[.int .i64 0, .int .i64 0, .string (⟨#[]⟩ : ByteArray)]) (t := 38) ?hr ?_; (case hd => rfl); (case hg => rfl); (case hr => first | (go_simp; done) | (go_simp; rfl)); intro gb168 hg w17 hbox hb; have n0_ := Aside0.mk (blk_below (g := gb167) (o := .cells #[.int .i64 0, .int .i64 0, .string (⟨#[]⟩ : ByteArray)] 38 (0, 0)) (by (with_reducible repeat (first | refine blk_drewN ?_ _ | refine blk_drew ?_ | refine blk_alloc ?_ _)); exact BK167.out) hb); have n1_ := Aside0.mk (below_step (by repeat (first | (with_reducible first | exact HB.out | apply below_alloc | apply pw_below_drewN | apply below_drew1 | refine below_set ?_ GE167.out) | exact HB.out)) hb); have n2_ := Aside0.mk (hbox); have n3_ := Aside0.mk ((by rw [hg]; exact (below_size (by repeat (first | (with_reducible first | exact HB.out | apply below_alloc | apply pw_below_drewN | apply below_drew1 | refine below_set ?_ GE167.out) | exact HB.out))) : w.heap.size ≤ gb168)); have n4_ := Aside0.mk ((by rw [hg]; exact (below_size (by repeat (first | (with_reducible first | exact HB.out | apply below_alloc | apply pw_below_drewN | apply below_drew1 | refine below_set ?_ GE167.out) | exact HB.out))) : w.heap.size ≤ gb168)); have n5_ := Aside0.mk ((by rw [hg]; exact Nat.ne_of_lt (blk_lt (g := gb167) (o := .cells #[.int .i64 0, .int .i64 0, .string (⟨#[]⟩ : ByteArray)] 38 (0, 0)) (by (with_reducible repeat (first | refine blk_drewN ?_ _ | refine blk_drew ?_ | refine blk_alloc ?_ _)); exact BK167.out)) : gb167 ≠ gb168)); have n6_ := Aside0.mk ((by rw [hg]; exact Nat.ne_of_gt (blk_lt (g := gb167) (o := .cells #[.int .i64 0, .int .i64 0, .string (⟨#[]⟩ : ByteArray)] 38 (0, 0)) (by (with_reducible repeat (first | refine blk_drewN ?_ _ | refine blk_drew ?_ | refine blk_alloc ?_ _)); exact BK167.out)) : gb168 ≠ gb167)); clear BK167; clear HB; have BK167 := n0_; have HB := n1_; have BK168 := n2_; have GW168 := n3_; have GE168 := n4_; have NB167_168 := n5_; have NB168_167 := n6_; clear n0_ n1_ n2_ n3_ n4_ n5_ n6_; clear hb hbox hg; have hnb18 := NB168_167.out; have hnc18 := NB167_168.out; have hcz19_0 : w17.cell? ⟨gb168, 0, none⟩ = some (.int .i64 0) := (blk_cell BK168.out 0).trans rfl; have hcz19_1 : w17.cell? ⟨gb168, 1, none⟩ = some (.int .i64 0) := (blk_cell BK168.out 1).trans rfl; have hcz19_2 : w17.cell? ⟨gb168, 2, none⟩ = some (.string (⟨#[]⟩ : ByteArray)) := (blk_cell BK168.out 2).trans rfl; have hfz19_0 := blk_frozen BK168.out 0; have hfz19_1 := blk_frozen BK168.out 1; have hfz19_2 := blk_frozen BK168.out 2; have p169 : 0 ≤ (0 : Int) := (by omega); have q169 : 0 < (l0.length : Int) := of_decide_eq_true (by first | (with_reducible assumption) | assumption); obtain ⟨ad169, e169, hx169_0⟩ := Kd.at_int HR0.out 0 p169 q169; cases e169; have qi169 : (0 < l0.length) = True := eq_true (by omega); (try rw [show ((0 : Int)).toNat = 0 from rfl] at hx169_0); (try rw [Addr.add_zero'] at hx169_0); have hn169_0 : ad169.block ≠ gb168 := Nat.ne_of_lt (Nat.lt_of_lt_of_le (by have := World.block_lt_of_cell? _ _ hx169_0; first | rwa [add_block] at this | exact this) GW168.out); have hn169_1 : ad169.block ≠ gb168 := Nat.ne_of_lt (Nat.lt_of_lt_of_le (by have := World.block_lt_of_cell? _ _ hx169_0; first | rwa [add_block] at this | exact this) GW168.out); have hn169_2 : ad169.block ≠ gb168 := Nat.ne_of_lt (Nat.lt_of_lt_of_le (by have := World.block_lt_of_cell? _ _ hx169_0; first | rwa [add_block] at this | exact this) GW168.out); replace hx169_0 := (HB.out.cell (World.block_lt_of_cell? w _ hx169_0)).trans hx169_0; replace hx169_0 := (cell_far (p := ⟨gb168, 0, none⟩) (by first | (rw [add_block]; exact hn169_0) | (show (Addr.add _ _).block ≠ _; rw [add_block]; exact hn169_0) | exact hn169_0) (.int .i64 0)).trans hx169_0; replace hx169_0 := (cell_far (p := ⟨gb168, 1, none⟩) (by first | (rw [add_block]; exact hn169_1) | (show (Addr.add _ _).block ≠ _; rw [add_block]; exact hn169_1) | exact hn169_1) (.int .i64 0)).trans hx169_0; replace hx169_0 := (cell_far (p := ⟨gb168, 2, none⟩) (by first | (rw [add_block]; exact hn169_2) | (show (Addr.add _ _).block ≠ _; rw [add_block]; exact hn169_2) | exact hn169_2) (.string (⟨#[]⟩ : ByteArray))).trans hx169_0; clear hn169_0; clear hn169_1; clear hn169_2; replace p169 := eq_true p169; replace q169 := eq_true q169))
      (try simp only [Act.put, List.setIfInBounds_toArray, List.set_cons_zero, List.set_cons_succ])
      go_cut [19] (fun v19 wc => ∃ (kq : Nat) (x19_14 : Bool), v19 = .bool x19_14 ∧ Aside0 (wainscotref01_one.j0 kq l0 x19_14 0 0 (⟨#[]⟩ : ByteArray) = some (r1, r2, r3, r4, r5)) ∧ Aside0 (kq ≤ k) ∧ Aside0 (wc.heap[gb167]? = some (.cells #[.int .i64 0, .int .i64 0, .string (⟨#[]⟩ : ByteArray)] 38 (0, 0))) ∧ Aside0 (wc.heap[gb168]? = some (.cells #[.int .i64 0, .int .i64 0, .string (⟨#[]⟩ : ByteArray)] 38 (0, 0))) ∧ Aside0 (Below w.heap.size w wc))
      case first =>
        have H := HC15.out
        clear HC15
        by_cases c20 : (rd l0 0) = 16
        · rw [if_pos c20] at H
          have c20b0 : ((rd l0 0) == 16) = true := beq_iff_eq.mpr c20
          have c20b1 : ((rd l0 0) != 16) = false := bne_eq_false_iff_eq.mpr c20
          clear c20
          (first | rw [c20b0] | (simp only [i64_w, i32_w]; rw [c20b0]) | skip)
          have H' := Aside0.mk H
          clear H
          have p171 : 0 ≤ (0 : Int) := (by omega)
          have q171 : 0 < (l0.length : Int) := of_decide_eq_true (by first | (with_reducible assumption) | assumption)
          obtain ⟨ad171, e171, hx171_0⟩ := Kd.at_int HR0.out 0 p171 q171
          obtain rfl : ad169 = ad171 := (by injection e171)
          have qi171 : (0 < l0.length) = True := eq_true (by omega)
          (try rw [show ((0 : Int)).toNat = 0 from rfl] at hx171_0)
          (try rw [Addr.add_zero'] at hx171_0)
          have hn171_0 : ad169.block ≠ gb168 := Nat.ne_of_lt (Nat.lt_of_lt_of_le (by have := World.block_lt_of_cell? _ _ hx171_0; first | rwa [add_block] at this | exact this) GW168.out)
          have hn171_1 : ad169.block ≠ gb168 := Nat.ne_of_lt (Nat.lt_of_lt_of_le (by have := World.block_lt_of_cell? _ _ hx171_0; first | rwa [add_block] at this | exact this) GW168.out)
          have hn171_2 : ad169.block ≠ gb168 := Nat.ne_of_lt (Nat.lt_of_lt_of_le (by have := World.block_lt_of_cell? _ _ hx171_0; first | rwa [add_block] at this | exact this) GW168.out)
          replace hx171_0 := (HB.out.cell (World.block_lt_of_cell? w _ hx171_0)).trans hx171_0
          replace hx171_0 := (cell_far (p := ⟨gb168, 0, none⟩) (by first | (rw [add_block]; exact hn171_0) | (show (Addr.add _ _).block ≠ _; rw [add_block]; exact hn171_0) | exact hn171_0) (.int .i64 0)).trans hx171_0
          replace hx171_0 := (cell_far (p := ⟨gb168, 1, none⟩) (by first | (rw [add_block]; exact hn171_1) | (show (Addr.add _ _).block ≠ _; rw [add_block]; exact hn171_1) | exact hn171_1) (.int .i64 0)).trans hx171_0
          replace hx171_0 := (cell_far (p := ⟨gb168, 2, none⟩) (by first | (rw [add_block]; exact hn171_2) | (show (Addr.add _ _).block ≠ _; rw [add_block]; exact hn171_2) | exact hn171_2) (.string (⟨#[]⟩ : ByteArray))).trans hx171_0
          clear hn171_0
          clear hn171_1
          clear hn171_2
          replace p171 := eq_true p171
          replace q171 := eq_true q171
          go_wp2
          go_meet
          case rel => exact ⟨_, (decide ((l0.length : Int) ≥ 9)), (by first | rfl | (simp; done) | (simp [*]; done)), H', ⟨by first | omega | exact Nat.le_refl _⟩, ⟨by (with_reducible repeat (first | refine blk_drewN ?_ _ | refine blk_drew ?_ | refine blk_alloc ?_ _)); refine blk_far ?_ NB167_168.out _; (with_reducible repeat (first | refine blk_drewN ?_ _ | refine blk_drew ?_ | refine blk_alloc ?_ _)); refine blk_far ?_ NB167_168.out _; (with_reducible repeat (first | refine blk_drewN ?_ _ | refine blk_drew ?_ | refine blk_alloc ?_ _)); refine blk_far ?_ NB167_168.out _; (with_reducible repeat (first | refine blk_drewN ?_ _ | refine blk_drew ?_ | refine blk_alloc ?_ _)); exact BK167.out⟩, ⟨by (with_reducible repeat (first | refine blk_drewN ?_ _ | refine blk_drew ?_ | refine blk_alloc ?_ _)); refine blk_put (cs := #[.int .i64 0, .int .i64 0, .string (⟨#[]⟩ : ByteArray)]) ?_ 2 _ rfl; (with_reducible repeat (first | refine blk_drewN ?_ _ | refine blk_drew ?_ | refine blk_alloc ?_ _)); refine blk_put (cs := #[.int .i64 0, .int .i64 0, .string (⟨#[]⟩ : ByteArray)]) ?_ 1 _ rfl; (with_reducible repeat (first | refine blk_drewN ?_ _ | refine blk_drew ?_ | refine blk_alloc ?_ _)); refine blk_put (cs := #[.int .i64 0, .int .i64 0, .string (⟨#[]⟩ : ByteArray)]) ?_ 0 _ rfl; (with_reducible repeat (first | refine blk_drewN ?_ _ | refine blk_drew ?_ | refine blk_alloc ?_ _)); exact BK168.out⟩, ⟨by repeat (first | (with_reducible first | exact HB.out | apply below_alloc | apply pw_below_drewN | apply below_drew1 | refine below_set ?_ GE167.out | refine below_set ?_ GE168.out) | exact HB.out)⟩⟩
        · rw [if_neg c20] at H
          have c20b0 : ((rd l0 0) == 16) = false := beq_eq_false_iff_ne.mpr c20
          have c20b1 : ((rd l0 0) != 16) = true := bne_iff_ne.mpr c20
          (first | rw [c20b0] | (simp only [i64_w, i32_w]; rw [c20b0]) | skip)
          have H' := Aside0.mk H
          clear H
          have p171 : 0 ≤ (0 : Int) := (by omega)
          have q171 : 0 < (l0.length : Int) := of_decide_eq_true (by first | (with_reducible assumption) | assumption)
          obtain ⟨ad171, e171, hx171_0⟩ := Kd.at_int HR0.out 0 p171 q171
          obtain rfl : ad169 = ad171 := (by injection e171)
          have qi171 : (0 < l0.length) = True := eq_true (by omega)
          (try rw [show ((0 : Int)).toNat = 0 from rfl] at hx171_0)
          (try rw [Addr.add_zero'] at hx171_0)
          have hn171_0 : ad169.block ≠ gb168 := Nat.ne_of_lt (Nat.lt_of_lt_of_le (by have := World.block_lt_of_cell? _ _ hx171_0; first | rwa [add_block] at this | exact this) GW168.out)
          have hn171_1 : ad169.block ≠ gb168 := Nat.ne_of_lt (Nat.lt_of_lt_of_le (by have := World.block_lt_of_cell? _ _ hx171_0; first | rwa [add_block] at this | exact this) GW168.out)
          have hn171_2 : ad169.block ≠ gb168 := Nat.ne_of_lt (Nat.lt_of_lt_of_le (by have := World.block_lt_of_cell? _ _ hx171_0; first | rwa [add_block] at this | exact this) GW168.out)
          replace hx171_0 := (HB.out.cell (World.block_lt_of_cell? w _ hx171_0)).trans hx171_0
          replace hx171_0 := (cell_far (p := ⟨gb168, 0, none⟩) (by first | (rw [add_block]; exact hn171_0) | (show (Addr.add _ _).block ≠ _; rw [add_block]; exact hn171_0) | exact hn171_0) (.int .i64 0)).trans hx171_0
          replace hx171_0 := (cell_far (p := ⟨gb168, 1, none⟩) (by first | (rw [add_block]; exact hn171_1) | (show (Addr.add _ _).block ≠ _; rw [add_block]; exact hn171_1) | exact hn171_1) (.int .i64 0)).trans hx171_0
          replace hx171_0 := (cell_far (p := ⟨gb168, 2, none⟩) (by first | (rw [add_block]; exact hn171_2) | (show (Addr.add _ _).block ≠ _; rw [add_block]; exact hn171_2) | exact hn171_2) (.string (⟨#[]⟩ : ByteArray))).trans hx171_0
          clear hn171_0
          clear hn171_1
          clear hn171_2
          replace p171 := eq_true p171
          replace q171 := eq_true q171
          go_wp2
          go_meet
          case rel => exact ⟨_, (false), (by first | rfl | (simp; done) | (simp [*]; done)), H', ⟨by first | omega | exact Nat.le_refl _⟩, ⟨by (with_reducible repeat (first | refine blk_drewN ?_ _ | refine blk_drew ?_ | refine blk_alloc ?_ _)); refine blk_far ?_ NB167_168.out _; (with_reducible repeat (first | refine blk_drewN ?_ _ | refine blk_drew ?_ | refine blk_alloc ?_ _)); refine blk_far ?_ NB167_168.out _; (with_reducible repeat (first | refine blk_drewN ?_ _ | refine blk_drew ?_ | refine blk_alloc ?_ _)); refine blk_far ?_ NB167_168.out _; (with_reducible repeat (first | refine blk_drewN ?_ _ | refine blk_drew ?_ | refine blk_alloc ?_ _)); exact BK167.out⟩, ⟨by (with_reducible repeat (first | refine blk_drewN ?_ _ | refine blk_drew ?_ | refine blk_alloc ?_ _)); refine blk_put (cs := #[.int .i64 0, .int .i64 0, .string (⟨#[]⟩ : ByteArray)]) ?_ 2 _ rfl; (with_reducible repeat (first | refine blk_drewN ?_ _ | refine blk_drew ?_ | refine blk_alloc ?_ _)); refine blk_put (cs := #[.int .i64 0, .int .i64 0, .string (⟨#[]⟩ : ByteArray)]) ?_ 1 _ rfl; (with_reducible repeat (first | refine blk_drewN ?_ _ | refine blk_drew ?_ | refine blk_alloc ?_ _)); refine blk_put (cs := #[.int .i64 0, .int .i64 0, .string (⟨#[]⟩ : ByteArray)]) ?_ 0 _ rfl; (with_reducible repeat (first | refine blk_drewN ?_ _ | refine blk_drew ?_ | refine blk_alloc ?_ _)); exact BK168.out⟩, ⟨by repeat (first | (with_reducible first | exact HB.out | apply below_alloc | apply pw_below_drewN | apply below_drew1 | refine below_set ?_ GE167.out | refine below_set ?_ GE168.out) | exact HB.out)⟩⟩
      case rest =>
        clear HC15
        try clear c1
        try clear p1
        try clear q1
        try clear hx1
        try clear qi1
        try clear c2
        try clear c2b0
        try clear c2b1
        try clear p2
        try clear c3
        try clear c3b0
        try clear c3b1
        try clear c4
        try clear c4b0
        try clear c4b1
        try clear c7
        try clear p16
        try clear q16
        try clear hx16
        try clear qi16
        try clear p17
        try clear q17
        try clear hx17
        try clear qi17
        try clear c18
        try clear c20
        try clear c20b0
        try clear c20b1
        try clear hcz19_0
        try clear hcz19_1
        try clear hcz19_2
        try clear hcz8_0
        try clear hcz8_1
        try clear hcz8_2
        try clear hfz19_0
        try clear hfz19_1
        try clear hfz19_2
        try clear hfz8_0
        try clear hfz8_1
        try clear hfz8_2
        try clear hx169_0
        try clear hx171_0
        try clear p169
        try clear p171
        try clear q169
        try clear q171
        obtain ⟨kq, x19_14, rfl, HA, HJ14, BK167, BK168, HB⟩ := hcut
        cases kq with
        | zero => exact absurd HA.out (by simp [wainscotref01_one.j0])
        | succ kj14 =>
          have H := HA.out
          clear HA
          simp only [wainscotref01_one.j0] at H
          by_cases c21 : x19_14 = true
          · subst c21
            have H1 : (wainscotref01_one.l0 kj14 l0 0 0) = some (r1, r2, r3, r4, r5) := by rw [if_pos rfl] at H; exact H
            clear H
            have H := H1
            clear H1
            have H' := Aside0.mk H
            clear H
            go_wp2
            go_loopg [6, 29] kj14 (fun kq v6 v29 w' => ∃ (x6_2 : Int) (x29_2 : Int), v6 = .int .u64 x6_2 ∧ v29 = .int .i64 x29_2 ∧ Aside0 (wainscotref01_one.l0 kq l0 x6_2 x29_2 = some (r1, r2, r3, r4, r5)) ∧ Aside0 (kq ≤ kj14) ∧ Aside0 (w'.heap[gb167]? = some (.cells #[.int .i64 0, .int .i64 0, .string (⟨#[]⟩ : ByteArray)] 38 (0, 0))) ∧ Aside0 (w'.heap[gb168]? = some (.cells #[.int .i64 0, .int .i64 0, .string (⟨#[]⟩ : ByteArray)] 38 (0, 0))) ∧ Aside0 (Below w.heap.size w w'))
            case atStart => exact ⟨(0), (0), (by first | rfl | (simp; done) | (simp [*]; done)), (by first | rfl | (simp; done) | (simp [*]; done)), H', ⟨Nat.le_refl _⟩, ⟨by (with_reducible repeat (first | refine blk_drewN ?_ _ | refine blk_drew ?_ | refine blk_alloc ?_ _)); exact BK167.out⟩, ⟨by (with_reducible repeat (first | refine blk_drewN ?_ _ | refine blk_drew ?_ | refine blk_alloc ?_ _)); exact BK168.out⟩, ⟨by repeat (first | (with_reducible first | exact HB.out | apply below_alloc | apply pw_below_drewN | apply below_drew1 | refine below_set ?_ GE167.out | refine below_set ?_ GE168.out) | exact HB.out)⟩⟩
            case round =>
              clear H'
              try clear c1
              try clear p1
              try clear q1
              try clear hx1
              try clear qi1
              try clear c2
              try clear c2b0
              try clear c2b1
              try clear p2
              try clear c3
              try clear c3b0
              try clear c3b1
              try clear c4
              try clear c4b0
              try clear c4b1
              try clear c7
              try clear p16
              try clear q16
              try clear hx16
              try clear qi16
              try clear p17
              try clear q17
              try clear hx17
              try clear qi17
              try clear c18
              try clear c20
              try clear c20b0
              try clear c20b1
              try clear c21
              try clear hcz19_0
              try clear hcz19_1
              try clear hcz19_2
              try clear hcz8_0
              try clear hcz8_1
              try clear hcz8_2
              try clear hfz19_0
              try clear hfz19_1
              try clear hfz19_2
              try clear hfz8_0
              try clear hfz8_1
              try clear hfz8_2
              try clear hx169_0
              try clear hx171_0
              try clear p1
              try clear p16
              try clear p169
              try clear p17
              try clear p171
              try clear p2
              try clear q1
              try clear q16
              try clear q169
              try clear q17
              try clear q171
              obtain ⟨x6_2, x29_2, rfl, rfl, HA, HK2, BK167, BK168, HB⟩ := hrel
              cases gk with
              | zero => exact absurd HA.out (by simp [wainscotref01_one.l0])
              | succ k2 =>
                have H := HA.out
                clear HA
                simp only [wainscotref01_one.l0] at H
                by_cases c22 : x29_2 < 8
                · rw [if_pos c22] at H
                  have c22b0 : decide (x29_2 < 8) = true := decide_eq_true c22
                  clear c22
                  obtain ⟨ji23, hji23⟩ : ∃ j_ : Int, (wrap64 (1 + x29_2)) = j_ := ⟨_, rfl⟩
                  replace H : (if 0 ≤ (ji23) then (if (ji23) < (l0.length : Int) then (wainscotref01_one.l0 k2 l0 (Go.bits .or .u64 (IntKind.u64.wrap (x6_2 * 256)) (IntKind.u64.wrap (rd l0 (ji23)))) (wrap64 (x29_2 + 1))) else (none)) else (none)) = some (r1, r2, r3, r4, r5) := by first | (rw [hji23] at H; exact H) | (simp only [hji23] at H ⊢; exact H)
                  have hji23w : (IntKind.i64.wrap (1 + x29_2)) = ji23 := (i64_w _).trans hji23
                  by_cases c24 : 0 ≤ (ji23)
                  · rw [if_pos c24] at H
                    have c24b0 : decide (0 ≤ (ji23)) = true := decide_eq_true c24
                    clear c24
                    by_cases c25 : (ji23) < (l0.length : Int)
                    · rw [if_pos c25] at H
                      have c25b0 : decide ((ji23) < (l0.length : Int)) = true := decide_eq_true c25
                      clear c25
                      have H' := Aside0.mk H
                      clear H
                      have p172 : 0 ≤ ((ji23) : Int) := of_decide_eq_true (by first | (with_reducible assumption) | assumption)
                      have q172 : (ji23) < (l0.length : Int) := of_decide_eq_true (by first | (with_reducible assumption) | assumption)
                      obtain ⟨ad172, e172, hx172_0⟩ := Kd.at_int HR0.out (ji23) p172 q172
                      obtain rfl : ad169 = ad172 := (by injection e172)
                      replace hx172_0 := (HB.out.cell (World.block_lt_of_cell? w _ hx172_0)).trans hx172_0
                      replace p172 := eq_true p172
                      replace q172 := eq_true q172
                      go_wp2
                      go_roundg k2
                      case measure => have := HJ14.out; have := HK2.out; omega
                      case rel => exact ⟨(Go.bits .or .u64 (IntKind.u64.wrap (x6_2 * 256)) (IntKind.u64.wrap (rd l0 (ji23)))), (wrap64 (x29_2 + 1)), (by first | rfl | (simp; done) | (simp only [← hji23] <;> (first | rfl | simp)) | (simp [*]; done)), (by first | rfl | (simp; done) | (simp [*]; done)), H', ⟨by have := HJ14.out; have := HK2.out; omega⟩, ⟨by (with_reducible repeat (first | refine blk_drewN ?_ _ | refine blk_drew ?_ | refine blk_alloc ?_ _)); exact BK167.out⟩, ⟨by (with_reducible repeat (first | refine blk_drewN ?_ _ | refine blk_drew ?_ | refine blk_alloc ?_ _)); exact BK168.out⟩, ⟨by repeat (first | (with_reducible first | exact HB.out | apply below_alloc | apply pw_below_drewN | apply below_drew1 | refine below_set ?_ GE167.out | refine below_set ?_ GE168.out) | exact HB.out)⟩⟩
                    · rw [if_neg c25] at H
                      exact absurd H (by simp)
                  · rw [if_neg c24] at H
                    exact absurd H (by simp)
                · rw [if_neg c22] at H
                  have c22b0 : decide (x29_2 < 8) = false := decide_eq_false c22
                  clear c22
                  by_cases c26 : 9 ≤ (l0.length : Int)
                  · rw [if_pos c26] at H
                    have c26b0 := eq_true c26
                    have c26b1 : decide (9 ≤ (l0.length : Int)) = true := decide_eq_true c26
                    clear c26
                    simp only [Option.some.injEq, Prod.mk.injEq] at H
                    obtain ⟨rfl, rfl, rfl, rfl, rfl⟩ := H
                    try go_wp2
                    have n0_ := Aside0.mk (blk_drew BK167.out)
                    have n1_ := Aside0.mk (blk_drew BK168.out)
                    have n2_ := Aside0.mk (below_drew1 HB.out)
                    clear BK167
                    clear BK168
                    clear HB
                    have BK167 := n0_
                    have BK168 := n1_
                    have HB := n2_
                    clear n0_ n1_ n2_
                    obtain ⟨i028, hi028, _, hsz28, _⟩ := info_parts info5
                    obtain ⟨A28, hcut28, hA28, hC28⟩ := print_drop_of (P := Tryd.prog) (Value.int .u8) 0 22 5 .i64 Tryd.underlying22 hi028 hsz28 (some ad169) c0 l0 9 (by omega) (of_decide_eq_true (by first | (with_reducible assumption) | assumption)) HC0.out
                    have HR173 := Aside0.mk (fun (W : World) (hW_ : Kd.C (Kd.int .u8) W _ l0.length l0) => Kd.C_of_reads (h1 := fun _ => rfl) (hA28 W (Kd.reads_of_C hW_)))
                    have HC173 := Aside0.mk hC28
                    clear hA28 hC28 hi028 hsz28
                    refine start_ (n := 9) (S := fun w' => True) (ds := []) #[false, false, false, false, false, false, false, false, false] (by kernel_rfl) rfl rfl trivial (fun hHeld => ?_); refine with_tabW wainscotref01_one.tab11 wainscotref01_one.bits11 (fun HT_ HW_ => ?_)
                    generalize wr.drew = w27 at BK167 BK168 HB HR173 hHeld ⊢
                    refine pure_ (i := 0) (N := some 42) (v := ?_) (a' := ?_) #[true, false, false, false, false, false, false, false, false] rfl rfl (any_of HT_.out (by kernel_rfl)) (fun _ _ _ h => h) (Or.inl ⟨by rfl, ?_⟩) ?_ ?_
                    rotate_left
                    · intro w'
                      go_simp
                      with_reducible rfl
                    rotate_left
                    · simp only [Act.put, List.setIfInBounds_toArray, List.set_cons_zero, List.set_cons_succ, i64_w, i32_w]
                      rfl
                    refine pure_ (i := 1) (N := some 43) (v := ?_) (a' := ?_) #[true, true, false, false, false, false, false, false, false] rfl rfl (any_of HT_.out (by kernel_rfl)) (fun _ _ _ h => h) (Or.inl ⟨by rfl, ?_⟩) ?_ ?_
                    rotate_left
                    · intro w'
                      go_simp
                      with_reducible rfl
                    rotate_left
                    · simp only [Act.put, List.setIfInBounds_toArray, List.set_cons_zero, List.set_cons_succ, i64_w, i32_w]
                      rfl
                    refine pure_ (i := 2) (N := some 44) (v := ?_) (a' := ?_) #[true, true, true, false, false, false, false, false, false] rfl rfl (any_of HT_.out (by kernel_rfl)) (fun _ _ _ h => h) (Or.inl ⟨by rfl, ?_⟩) ?_ ?_
                    rotate_left
                    · intro w'
                      go_simp
                      with_reducible rfl
                    rotate_left
                    · simp only [Act.put, List.setIfInBounds_toArray, List.set_cons_zero, List.set_cons_succ, i64_w, i32_w]
                      rfl
                    refine pure_ (i := 3) (N := some 45) (v := ?_) (a' := ?_) #[true, true, true, true, false, false, false, false, false] rfl rfl (any_of HT_.out (by kernel_rfl)) (fun _ _ _ h => h) (Or.inl ⟨by rfl, ?_⟩) ?_ ?_
                    rotate_left
                    · intro w'
                      go_simp
                      with_reducible rfl
                    rotate_left
                    · simp only [Act.put, List.setIfInBounds_toArray, List.set_cons_zero, List.set_cons_succ, i64_w, i32_w]
                      rfl
                    refine pure_ (i := 4) (N := some 46) (v := ?_) (a' := ?_) #[true, true, true, true, true, false, false, false, false] rfl rfl (any_of HT_.out (by kernel_rfl)) (fun _ _ _ h => h) (Or.inl ⟨by rfl, ?_⟩) ?_ ?_
                    rotate_left
                    · intro w'
                      go_simp
                      with_reducible rfl
                    rotate_left
                    · simp only [Act.put, List.setIfInBounds_toArray, List.set_cons_zero, List.set_cons_succ, i64_w, i32_w]
                      rfl
                    refine pure_ (i := 5) (N := some 47) (v := ?_) (a' := ?_) #[true, true, true, true, true, true, false, false, false] rfl rfl (any_of HT_.out (by kernel_rfl)) (fun _ _ _ h => h) (Or.inl ⟨by rfl, ?_⟩) ?_ ?_
                    rotate_left
                    · intro w'
                      go_simp
                      with_reducible rfl
                    rotate_left
                    · simp only [Act.put, List.setIfInBounds_toArray, List.set_cons_zero, List.set_cons_succ, i64_w, i32_w]
                      rfl
                    refine one_ (i := 6) (N := none) #[true, true, true, true, true, true, true, false, false] rfl rfl (one_of HT_.out (by kernel_rfl)) (by decide) (fun K hK => ?_)
                    have hs29 : w27.cell? ⟨gb167, 0, none⟩ = some (.int .i64 0) := (blk_cell BK167.out 0).trans rfl
                    have hfs29 := blk_frozen BK167.out 0
                    have hns29_1 := NB168_167.out
                    have hms29_1 := NB167_168.out
                    have hs30 : w27.cell? ⟨gb167, 1, none⟩ = some (.int .i64 0) := (blk_cell BK167.out 1).trans rfl
                    have hfs30 := blk_frozen BK167.out 1
                    have hns30_1 := NB168_167.out
                    have hms30_1 := NB167_168.out
                    have hs31 : w27.cell? ⟨gb167, 2, none⟩ = some (.string (⟨#[]⟩ : ByteArray)) := (blk_cell BK167.out 2).trans rfl
                    have hfs31 := blk_frozen BK167.out 2
                    have hns31_1 := NB168_167.out
                    have hms31_1 := NB167_168.out
                    refine skip_ (w1 := ?_) (by rfl) rfl ?_ ?_
                    rotate_left
                    · go_simp
                      rfl
                    refine hK.out _ _ trivial (fun hHeld => ?_)
                    clear hK K
                    refine pure_ (i := 7) (N := some 3) (v := ?_) (a' := ?_) #[true, true, true, true, true, true, true, true, false] rfl rfl (any_of HT_.out (by kernel_rfl)) (fun _ _ _ h => h) (Or.inl ⟨by rfl, ?_⟩) ?_ ?_
                    rotate_left
                    · intro w'
                      go_simp
                      with_reducible rfl
                    rotate_left
                    · simp only [Act.put, List.setIfInBounds_toArray, List.set_cons_zero, List.set_cons_succ, i64_w, i32_w]
                      rfl
                    refine pure_ (i := 8) (N := some 4) (v := ?_) (a' := ?_) #[true, true, true, true, true, true, true, true, true] rfl rfl (any_of HT_.out (by kernel_rfl)) (fun _ _ _ h => h) (Or.inl ⟨by rfl, ?_⟩) ?_ ?_
                    rotate_left
                    · intro w'
                      go_simp
                      with_reducible rfl
                    rotate_left
                    · simp only [Act.put, List.setIfInBounds_toArray, List.set_cons_zero, List.set_cons_succ, i64_w, i32_w]
                      rfl
                    refine done_ (done_of HT_.out (by kernel_rfl)) ?_
                    try go_wp2
                    refine bodyPost_ret (results_ctt rfl _ _ gb167 38 #[.int .i64 1, .int .i64 (wrap64 (IntKind.u64.wrap (x6_2 - 9223372036854775808))), .string (⟨#[]⟩ : ByteArray)] (0, 0) _ rfl (by (with_reducible repeat (first | refine blk_drewN ?_ _ | refine blk_drew ?_ | refine blk_alloc ?_ _)); refine blk_put (cs := #[.int .i64 1, .int .i64 (wrap64 (IntKind.u64.wrap (x6_2 - 9223372036854775808))), .string (⟨#[]⟩ : ByteArray)]) ?_ 2 _ rfl; (with_reducible repeat (first | refine blk_drewN ?_ _ | refine blk_drew ?_ | refine blk_alloc ?_ _)); refine blk_put (cs := #[.int .i64 1, .int .i64 0, .string (⟨#[]⟩ : ByteArray)]) ?_ 1 _ rfl; (with_reducible repeat (first | refine blk_drewN ?_ _ | refine blk_drew ?_ | refine blk_alloc ?_ _)); refine blk_put (cs := #[.int .i64 0, .int .i64 0, .string (⟨#[]⟩ : ByteArray)]) ?_ 0 _ rfl; (with_reducible repeat (first | refine blk_drewN ?_ _ | refine blk_drew ?_ | refine blk_alloc ?_ _)); exact BK167.out) Tryd.underlying38 rfl (by kernel_rfl)) rfl ?_
                    exact ⟨_, rfl, .inr ⟨_, _, by first | rfl | simp, HR173.out, HC173.out⟩, by repeat (first | (with_reducible first | exact HB.out | apply below_alloc | apply pw_below_drewN | apply below_drew1 | refine below_set ?_ GE167.out | refine below_set ?_ GE168.out) | exact HB.out)⟩
                  · rw [if_neg c26] at H
                    exact absurd H (by simp)
          · replace c21 := Bool.eq_false_iff.mpr c21
            subst c21
            have H1 : (if 0 < (l0.length : Int) then (if (rd l0 0) = 32 then (wainscotref01_one.l1 kj14 l0 (⟨#[]⟩ : ByteArray) 1 0 0 (⟨#[]⟩ : ByteArray)) else (some (0, 0, (⟨#[]⟩ : ByteArray), 0, false))) else (none)) = some (r1, r2, r3, r4, r5) := by rw [if_neg (show ¬ (false = true) by decide)] at H; exact H
            clear H
            have H := H1
            clear H1
            by_cases c32 : 0 < (l0.length : Int)
            · rw [if_pos c32] at H
              have c32b0 : decide (0 < (l0.length : Int)) = true := decide_eq_true c32
              have c32b1 : decide (0 < l0.length) = true := decide_eq_true (by omega)
              clear c32
              by_cases c33 : (rd l0 0) = 32
              · rw [if_pos c33] at H
                have c33b0 : ((rd l0 0) == 32) = true := beq_iff_eq.mpr c33
                have c33b1 : ((rd l0 0) != 32) = false := bne_eq_false_iff_eq.mpr c33
                clear c33
                have H' := Aside0.mk H
                clear H
                have p174 : 0 ≤ (0 : Int) := (by omega)
                have q174 : 0 < (l0.length : Int) := of_decide_eq_true (by first | (with_reducible assumption) | assumption)
                obtain ⟨ad174, e174, hx174_0⟩ := Kd.at_int HR0.out 0 p174 q174
                obtain rfl : ad169 = ad174 := (by injection e174)
                have qi174 : (0 < l0.length) = True := eq_true (by omega)
                (try rw [show ((0 : Int)).toNat = 0 from rfl] at hx174_0)
                (try rw [Addr.add_zero'] at hx174_0)
                replace hx174_0 := (HB.out.cell (World.block_lt_of_cell? w _ hx174_0)).trans hx174_0
                replace p174 := eq_true p174
                replace q174 := eq_true q174
                go_wp2
                go_loopg [8, 9] kj14 (fun kq v8 v9 w' => ∃ (x8_2 : ByteArray) (x9_2 : Int) (x168000_2 : Int) (x168001_2 : Int) (x168002_2 : ByteArray), v8 = .string x8_2 ∧ v9 = .int .i64 x9_2 ∧ Aside0 (wainscotref01_one.l1 kq l0 x8_2 x9_2 0 0 (⟨#[]⟩ : ByteArray) = some (r1, r2, r3, r4, r5)) ∧ Aside0 (kq ≤ kj14) ∧ Aside0 (w'.heap[gb167]? = some (.cells #[.int .i64 x168000_2, .int .i64 x168001_2, .string x168002_2] 38 (0, 0))) ∧ Aside0 (w'.heap[gb168]? = some (.cells #[.int .i64 0, .int .i64 0, .string (⟨#[]⟩ : ByteArray)] 38 (0, 0))) ∧ Aside0 (Below w.heap.size w w'))
                case atStart => exact ⟨((⟨#[]⟩ : ByteArray)), (1), (0), (0), ((⟨#[]⟩ : ByteArray)), (by first | rfl | (simp; done) | (simp [*]; done)), (by first | rfl | (simp; done) | (simp [*]; done)), H', ⟨Nat.le_refl _⟩, ⟨by (with_reducible repeat (first | refine blk_drewN ?_ _ | refine blk_drew ?_ | refine blk_alloc ?_ _)); exact BK167.out⟩, ⟨by (with_reducible repeat (first | refine blk_drewN ?_ _ | refine blk_drew ?_ | refine blk_alloc ?_ _)); exact BK168.out⟩, ⟨by repeat (first | (with_reducible first | exact HB.out | apply below_alloc | apply pw_below_drewN | apply below_drew1 | refine below_set ?_ GE167.out | refine below_set ?_ GE168.out) | exact HB.out)⟩⟩
                case round =>
                  clear H'
                  try clear c1
                  try clear p1
                  try clear q1
                  try clear hx1
                  try clear qi1
                  try clear c2
                  try clear c2b0
                  try clear c2b1
                  try clear p2
                  try clear c3
                  try clear c3b0
                  try clear c3b1
                  try clear c4
                  try clear c4b0
                  try clear c4b1
                  try clear p6
                  try clear c7
                  try clear p16
                  try clear q16
                  try clear hx16
                  try clear qi16
                  try clear p17
                  try clear q17
                  try clear hx17
                  try clear qi17
                  try clear c18
                  try clear c20
                  try clear c20b0
                  try clear c20b1
                  try clear c21
                  try clear c22
                  try clear c22b0
                  try clear c24
                  try clear c24b0
                  try clear c25
                  try clear c25b0
                  try clear c26
                  try clear c26b0
                  try clear c26b1
                  try clear c32
                  try clear c32b0
                  try clear c32b1
                  try clear c33
                  try clear c33b0
                  try clear c33b1
                  try clear hcz19_0
                  try clear hcz19_1
                  try clear hcz19_2
                  try clear hcz8_0
                  try clear hcz8_1
                  try clear hcz8_2
                  try clear hfz19_0
                  try clear hfz19_1
                  try clear hfz19_2
                  try clear hfz8_0
                  try clear hfz8_1
                  try clear hfz8_2
                  try clear hx169_0
                  try clear hx171_0
                  try clear hx172_0
                  try clear hx174_0
                  try clear p1
                  try clear p16
                  try clear p169
                  try clear p17
                  try clear p171
                  try clear p172
                  try clear p174
                  try clear p2
                  try clear q1
                  try clear q16
                  try clear q169
                  try clear q17
                  try clear q171
                  try clear q172
                  try clear q174
                  obtain ⟨x8_2, x9_2, x168000_2, x168001_2, x168002_2, rfl, rfl, HA, HK2, BK167, BK168, HB⟩ := hrel
                  cases gk with
                  | zero => exact absurd HA.out (by simp [wainscotref01_one.l1])
                  | succ k2 =>
                    have H := HA.out
                    clear HA
                    simp only [wainscotref01_one.l1] at H
                    by_cases c34 : x9_2 < (l0.length : Int)
                    · rw [if_pos c34] at H
                      have c34b0 : decide (x9_2 < (l0.length : Int)) = true := decide_eq_true c34
                      clear c34
                      by_cases c35 : 0 ≤ x9_2
                      · rw [if_pos c35] at H
                        have c35b0 : decide (0 ≤ x9_2) = true := decide_eq_true c35
                        clear c35
                        by_cases c36 : (rd l0 x9_2) = 0
                        · rw [if_pos c36] at H
                          have c36b0 : ((rd l0 x9_2) == 0) = true := beq_iff_eq.mpr c36
                          have c36b1 : ((rd l0 x9_2) != 0) = false := bne_eq_false_iff_eq.mpr c36
                          clear c36
                          by_cases c37 : (wrap64 (x9_2 + 1)) ≥ (l0.length : Int)
                          · rw [if_pos c37] at H
                            have c37b0 : decide ((l0.length : Int) ≤ (wrap64 (x9_2 + 1))) = true := decide_eq_true c37
                            clear c37
                            simp only [Option.some.injEq, Prod.mk.injEq] at H
                            obtain ⟨rfl, rfl, rfl, rfl, rfl⟩ := H
                            have p175 : 0 ≤ (x9_2 : Int) := of_decide_eq_true (by first | (with_reducible assumption) | assumption)
                            have q175 : x9_2 < (l0.length : Int) := of_decide_eq_true (by first | (with_reducible assumption) | assumption)
                            obtain ⟨ad175, e175, hx175_0⟩ := Kd.at_int HR0.out x9_2 p175 q175
                            obtain rfl : ad169 = ad175 := (by injection e175)
                            replace hx175_0 := (HB.out.cell (World.block_lt_of_cell? w _ hx175_0)).trans hx175_0
                            replace p175 := eq_true p175
                            replace q175 := eq_true q175
                            have hnb38 := NB168_167.out
                            have hnc38 := NB167_168.out
                            have hcz39_0 : wr.cell? ⟨gb168, 0, none⟩ = some (.int .i64 0) := (blk_cell BK168.out 0).trans rfl
                            have hcz39_1 : wr.cell? ⟨gb168, 1, none⟩ = some (.int .i64 0) := (blk_cell BK168.out 1).trans rfl
                            have hcz39_2 : wr.cell? ⟨gb168, 2, none⟩ = some (.string (⟨#[]⟩ : ByteArray)) := (blk_cell BK168.out 2).trans rfl
                            have hfz39_0 := blk_frozen BK168.out 0
                            have hfz39_1 := blk_frozen BK168.out 1
                            have hfz39_2 := blk_frozen BK168.out 2
                            have hcz40_0 : wr.cell? ⟨gb167, 0, none⟩ = some (.int .i64 x168000_2) := (blk_cell BK167.out 0).trans rfl
                            have hcz40_1 : wr.cell? ⟨gb167, 1, none⟩ = some (.int .i64 x168001_2) := (blk_cell BK167.out 1).trans rfl
                            have hcz40_2 : wr.cell? ⟨gb167, 2, none⟩ = some (.string x168002_2) := (blk_cell BK167.out 2).trans rfl
                            have hfz40_0 := blk_frozen BK167.out 0
                            have hfz40_1 := blk_frozen BK167.out 1
                            have hfz40_2 := blk_frozen BK167.out 2
                            go_wp2
                            refine bodyPost_ret (results_ctt rfl _ _ gb167 38 #[.int .i64 0, .int .i64 0, .string (⟨#[]⟩ : ByteArray)] (0, 0) _ rfl (by (with_reducible repeat (first | refine blk_drewN ?_ _ | refine blk_drew ?_ | refine blk_alloc ?_ _)); refine blk_put (cs := #[.int .i64 0, .int .i64 0, .string x168002_2]) ?_ 2 _ rfl; (with_reducible repeat (first | refine blk_drewN ?_ _ | refine blk_drew ?_ | refine blk_alloc ?_ _)); refine blk_put (cs := #[.int .i64 0, .int .i64 x168001_2, .string x168002_2]) ?_ 1 _ rfl; (with_reducible repeat (first | refine blk_drewN ?_ _ | refine blk_drew ?_ | refine blk_alloc ?_ _)); refine blk_put (cs := #[.int .i64 x168000_2, .int .i64 x168001_2, .string x168002_2]) ?_ 0 _ rfl; (with_reducible repeat (first | refine blk_drewN ?_ _ | refine blk_drew ?_ | refine blk_alloc ?_ _)); exact BK167.out) Tryd.underlying38 rfl (by kernel_rfl)) rfl ?_
                            exact ⟨_, rfl, .inl ⟨rfl, rfl⟩, by repeat (first | (with_reducible first | exact HB.out | apply below_alloc | apply pw_below_drewN | apply below_drew1 | refine below_set ?_ GE167.out | refine below_set ?_ GE168.out) | exact HB.out)⟩
                          · rw [if_neg c37] at H
                            have c37b0 : decide ((l0.length : Int) ≤ (wrap64 (x9_2 + 1))) = false := decide_eq_false c37
                            clear c37
                            obtain ⟨ji41, hji41⟩ : ∃ j_ : Int, (wrap64 (x9_2 + 1)) = j_ := ⟨_, rfl⟩
                            replace H : (if 0 ≤ (ji41) then (if (ji41) < (l0.length : Int) then (if (rd l0 (ji41)) = 0 then (if 0 ≤ (wrap64 (x9_2 + 2)) then (if (wrap64 (x9_2 + 2)) ≤ (l0.length : Int) then (some (2, 0, x8_2, wrap64 (x9_2 + 2), decide ((x8_2.size : Int) ≤ 100))) else (none)) else (none)) else (if (rd l0 (ji41)) = 255 then (if x8_2.size + 1 ≤ 9223372036854775807 then (wainscotref01_one.l1 k2 l0 (x8_2 ++ (⟨#[0]⟩ : ByteArray)) (wrap64 ((ji41) + 1)) 0 0 (⟨#[]⟩ : ByteArray)) else (none)) else (some (0, 0, (⟨#[]⟩ : ByteArray), 0, false)))) else (none)) else (none)) = some (r1, r2, r3, r4, r5) := by first | (rw [hji41] at H; exact H) | (simp only [hji41] at H ⊢; exact H)
                            (try rw [hji41] at c37b0)
                            have hji41w : (IntKind.i64.wrap (x9_2 + 1)) = ji41 := (i64_w _).trans hji41
                            by_cases c42 : 0 ≤ (ji41)
                            · rw [if_pos c42] at H
                              have c42b0 : decide (0 ≤ (ji41)) = true := decide_eq_true c42
                              clear c42
                              by_cases c43 : (ji41) < (l0.length : Int)
                              · rw [if_pos c43] at H
                                have c43b0 : decide ((ji41) < (l0.length : Int)) = true := decide_eq_true c43
                                clear c43
                                by_cases c44 : (rd l0 (ji41)) = 0
                                · rw [if_pos c44] at H
                                  have c44b0 : ((rd l0 (ji41)) == 0) = true := beq_iff_eq.mpr c44
                                  have c44b1 : ((rd l0 (ji41)) != 0) = false := bne_eq_false_iff_eq.mpr c44
                                  clear c44
                                  obtain ⟨ji45, hji45⟩ : ∃ j_ : Int, (wrap64 (x9_2 + 2)) = j_ := ⟨_, rfl⟩
                                  replace H : (if 0 ≤ (ji45) then (if (ji45) ≤ (l0.length : Int) then (some (2, 0, x8_2, ji45, decide ((x8_2.size : Int) ≤ 100))) else (none)) else (none)) = some (r1, r2, r3, r4, r5) := by first | (rw [hji45] at H; exact H) | (simp only [hji45] at H ⊢; exact H)
                                  have hji45w : (IntKind.i64.wrap (x9_2 + 2)) = ji45 := (i64_w _).trans hji45
                                  by_cases c46 : 0 ≤ (ji45)
                                  · rw [if_pos c46] at H
                                    have c46b0 := eq_true c46
                                    have c46b1 : decide (0 ≤ (ji45)) = true := decide_eq_true c46
                                    clear c46
                                    by_cases c47 : (ji45) ≤ (l0.length : Int)
                                    · rw [if_pos c47] at H
                                      have c47b0 := eq_true c47
                                      have c47b1 : decide ((ji45) ≤ (l0.length : Int)) = true := decide_eq_true c47
                                      clear c47
                                      simp only [Option.some.injEq, Prod.mk.injEq] at H
                                      obtain ⟨rfl, rfl, rfl, rfl, rfl⟩ := H
                                      have p175 : 0 ≤ (x9_2 : Int) := of_decide_eq_true (by first | (with_reducible assumption) | assumption)
                                      have q175 : x9_2 < (l0.length : Int) := of_decide_eq_true (by first | (with_reducible assumption) | assumption)
                                      obtain ⟨ad175, e175, hx175_0⟩ := Kd.at_int HR0.out x9_2 p175 q175
                                      obtain rfl : ad169 = ad175 := (by injection e175)
                                      replace hx175_0 := (HB.out.cell (World.block_lt_of_cell? w _ hx175_0)).trans hx175_0
                                      replace p175 := eq_true p175
                                      replace q175 := eq_true q175
                                      have p177 : 0 ≤ ((ji41) : Int) := of_decide_eq_true (by first | (with_reducible assumption) | assumption)
                                      have q177 : (ji41) < (l0.length : Int) := of_decide_eq_true (by first | (with_reducible assumption) | assumption)
                                      obtain ⟨ad177, e177, hx177_0⟩ := Kd.at_int HR0.out (ji41) p177 q177
                                      obtain rfl : ad169 = ad177 := (by injection e177)
                                      replace hx177_0 := (HB.out.cell (World.block_lt_of_cell? w _ hx177_0)).trans hx177_0
                                      replace p177 := eq_true p177
                                      replace q177 := eq_true q177
                                      try go_wp2
                                      have n0_ := Aside0.mk (blk_drew BK167.out)
                                      have n1_ := Aside0.mk (blk_drew BK168.out)
                                      have n2_ := Aside0.mk (below_drew1 HB.out)
                                      clear BK167
                                      clear BK168
                                      clear HB
                                      have BK167 := n0_
                                      have BK168 := n1_
                                      have HB := n2_
                                      clear n0_ n1_ n2_
                                      obtain ⟨i049, hi049, _, hsz49, _⟩ := info_parts info5
                                      obtain ⟨A49, hcut49, hA49, hC49⟩ := print_drop_of (P := Tryd.prog) (Value.int .u8) 0 22 5 .i64 Tryd.underlying22 hi049 hsz49 (some ad169) c0 l0 (ji45) (of_decide_eq_true (by first | (with_reducible assumption) | assumption)) (of_decide_eq_true (by first | (with_reducible assumption) | assumption)) HC0.out
                                      have HR178 := Aside0.mk (fun (W : World) (hW_ : Kd.C (Kd.int .u8) W _ l0.length l0) => Kd.C_of_reads (h1 := fun _ => rfl) (hA49 W (Kd.reads_of_C hW_)))
                                      have HC178 := Aside0.mk hC49
                                      clear hA49 hC49 hi049 hsz49
                                      refine start_ (n := 12) (S := fun w' => True) (ds := []) #[false, false, false, false, false, false, false, false, false, false, false, false] (by kernel_rfl) rfl rfl trivial (fun hHeld => ?_); refine with_tabW wainscotref01_one.tab21 wainscotref01_one.bits21 (fun HT_ HW_ => ?_)
                                      generalize wr.drew = w48 at BK167 BK168 HB HR178 hHeld ⊢
                                      refine pure_ (i := 0) (N := some 83) (v := ?_) (a' := ?_) #[true, false, false, false, false, false, false, false, false, false, false, false] rfl rfl (any_of HT_.out (by kernel_rfl)) (fun _ _ _ h => h) (Or.inl ⟨by rfl, ?_⟩) ?_ ?_
                                      rotate_left
                                      · intro w'
                                        go_simp
                                        with_reducible rfl
                                      rotate_left
                                      · simp only [Act.put, List.setIfInBounds_toArray, List.set_cons_zero, List.set_cons_succ, i64_w, i32_w]
                                        rfl
                                      refine pure_ (i := 1) (N := some 84) (v := ?_) (a' := ?_) #[true, true, false, false, false, false, false, false, false, false, false, false] rfl rfl (any_of HT_.out (by kernel_rfl)) (fun _ _ _ h => h) (Or.inl ⟨by rfl, ?_⟩) ?_ ?_
                                      rotate_left
                                      · intro w'
                                        go_simp
                                        with_reducible rfl
                                      rotate_left
                                      · simp only [Act.put, List.setIfInBounds_toArray, List.set_cons_zero, List.set_cons_succ, i64_w, i32_w]
                                        rfl
                                      refine pure_ (i := 2) (N := some 85) (v := ?_) (a' := ?_) #[true, true, true, false, false, false, false, false, false, false, false, false] rfl rfl (any_of HT_.out (by kernel_rfl)) (fun _ _ _ h => h) (Or.inl ⟨by rfl, ?_⟩) ?_ ?_
                                      rotate_left
                                      · intro w'
                                        go_simp
                                        with_reducible rfl
                                      rotate_left
                                      · simp only [Act.put, List.setIfInBounds_toArray, List.set_cons_zero, List.set_cons_succ, i64_w, i32_w]
                                        rfl
                                      refine pure_ (i := 3) (N := some 86) (v := ?_) (a' := ?_) #[true, true, true, true, false, false, false, false, false, false, false, false] rfl rfl (any_of HT_.out (by kernel_rfl)) (fun _ _ _ h => h) (Or.inl ⟨by rfl, ?_⟩) ?_ ?_
                                      rotate_left
                                      · intro w'
                                        go_simp
                                        with_reducible rfl
                                      rotate_left
                                      · simp only [Act.put, List.setIfInBounds_toArray, List.set_cons_zero, List.set_cons_succ, i64_w, i32_w]
                                        rfl
                                      refine pure_ (i := 4) (N := some 87) (v := ?_) (a' := ?_) #[true, true, true, true, true, false, false, false, false, false, false, false] rfl rfl (any_of HT_.out (by kernel_rfl)) (fun _ _ _ h => h) (Or.inl ⟨by rfl, ?_⟩) ?_ ?_
                                      rotate_left
                                      · intro w'
                                        go_simp
                                        with_reducible rfl
                                      rotate_left
                                      · simp only [Act.put, List.setIfInBounds_toArray, List.set_cons_zero, List.set_cons_succ, i64_w, i32_w]
                                        rfl
                                      refine pure_ (i := 5) (N := some 88) (v := ?_) (a' := ?_) #[true, true, true, true, true, true, false, false, false, false, false, false] rfl rfl (any_of HT_.out (by kernel_rfl)) (fun _ _ _ h => h) (Or.inl ⟨by rfl, ?_⟩) ?_ ?_
                                      rotate_left
                                      · intro w'
                                        go_simp
                                        with_reducible rfl
                                      rotate_left
                                      · simp only [Act.put, List.setIfInBounds_toArray, List.set_cons_zero, List.set_cons_succ, i64_w, i32_w]
                                        rfl
                                      refine pure_ (i := 6) (N := some 89) (v := ?_) (a' := ?_) #[true, true, true, true, true, true, true, false, false, false, false, false] rfl rfl (any_of HT_.out (by kernel_rfl)) (fun _ _ _ h => h) (Or.inl ⟨by rfl, ?_⟩) ?_ ?_
                                      rotate_left
                                      · intro w'
                                        go_simp
                                        with_reducible rfl
                                      rotate_left
                                      · simp only [Act.put, List.setIfInBounds_toArray, List.set_cons_zero, List.set_cons_succ, i64_w, i32_w]
                                        rfl
                                      refine pure_ (i := 7) (N := some 90) (v := ?_) (a' := ?_) #[true, true, true, true, true, true, true, true, false, false, false, false] rfl rfl (any_of HT_.out (by kernel_rfl)) (fun _ _ _ h => h) (Or.inl ⟨by rfl, ?_⟩) ?_ ?_
                                      rotate_left
                                      · intro w'
                                        go_simp
                                        with_reducible rfl
                                      rotate_left
                                      · simp only [Act.put, List.setIfInBounds_toArray, List.set_cons_zero, List.set_cons_succ, i64_w, i32_w]
                                        rfl
                                      refine pure_ (i := 8) (N := some 91) (v := ?_) (a' := ?_) #[true, true, true, true, true, true, true, true, true, false, false, false] rfl rfl (any_of HT_.out (by kernel_rfl)) (fun _ _ _ h => h) (Or.inl ⟨by rfl, ?_⟩) ?_ ?_
                                      rotate_left
                                      · intro w'
                                        go_simp
                                        with_reducible rfl
                                      rotate_left
                                      · simp only [Act.put, List.setIfInBounds_toArray, List.set_cons_zero, List.set_cons_succ, i64_w, i32_w]
                                        rfl
                                      refine one_ (i := 9) (N := none) #[true, true, true, true, true, true, true, true, true, true, false, false] rfl rfl (one_of HT_.out (by kernel_rfl)) (by decide) (fun K hK => ?_)
                                      have hs50 : w48.cell? ⟨gb167, 0, none⟩ = some (.int .i64 x168000_2) := (blk_cell BK167.out 0).trans rfl
                                      have hfs50 := blk_frozen BK167.out 0
                                      have hns50_1 := NB168_167.out
                                      have hms50_1 := NB167_168.out
                                      have hs51 : w48.cell? ⟨gb167, 1, none⟩ = some (.int .i64 x168001_2) := (blk_cell BK167.out 1).trans rfl
                                      have hfs51 := blk_frozen BK167.out 1
                                      have hns51_1 := NB168_167.out
                                      have hms51_1 := NB167_168.out
                                      have hs52 : w48.cell? ⟨gb167, 2, none⟩ = some (.string x168002_2) := (blk_cell BK167.out 2).trans rfl
                                      have hfs52 := blk_frozen BK167.out 2
                                      have hns52_1 := NB168_167.out
                                      have hms52_1 := NB167_168.out
                                      refine skip_ (w1 := ?_) (by rfl) rfl ?_ ?_
                                      rotate_left
                                      · go_simp
                                        rfl
                                      refine hK.out _ _ trivial (fun hHeld => ?_)
                                      clear hK K
                                      refine pure_ (i := 10) (N := some 3) (v := ?_) (a' := ?_) #[true, true, true, true, true, true, true, true, true, true, true, false] rfl rfl (any_of HT_.out (by kernel_rfl)) (fun _ _ _ h => h) (Or.inl ⟨by rfl, ?_⟩) ?_ ?_
                                      rotate_left
                                      · intro w'
                                        go_simp
                                        with_reducible rfl
                                      rotate_left
                                      · simp only [Act.put, List.setIfInBounds_toArray, List.set_cons_zero, List.set_cons_succ, i64_w, i32_w]
                                        rfl
                                      refine pure_ (i := 11) (N := some 4) (v := ?_) (a' := ?_) #[true, true, true, true, true, true, true, true, true, true, true, true] rfl rfl (any_of HT_.out (by kernel_rfl)) (fun _ _ _ h => h) (Or.inl ⟨by rfl, ?_⟩) ?_ ?_
                                      rotate_left
                                      · intro w'
                                        go_simp
                                        with_reducible rfl
                                      rotate_left
                                      · simp only [Act.put, List.setIfInBounds_toArray, List.set_cons_zero, List.set_cons_succ, i64_w, i32_w]
                                        rfl
                                      refine done_ (done_of HT_.out (by kernel_rfl)) ?_
                                      try go_wp2
                                      refine bodyPost_ret (results_ctt rfl _ _ gb167 38 #[.int .i64 2, .int .i64 0, .string x8_2] (0, 0) _ rfl (by (with_reducible repeat (first | refine blk_drewN ?_ _ | refine blk_drew ?_ | refine blk_alloc ?_ _)); refine blk_put (cs := #[.int .i64 2, .int .i64 0, .string x168002_2]) ?_ 2 _ rfl; (with_reducible repeat (first | refine blk_drewN ?_ _ | refine blk_drew ?_ | refine blk_alloc ?_ _)); refine blk_put (cs := #[.int .i64 2, .int .i64 x168001_2, .string x168002_2]) ?_ 1 _ rfl; (with_reducible repeat (first | refine blk_drewN ?_ _ | refine blk_drew ?_ | refine blk_alloc ?_ _)); refine blk_put (cs := #[.int .i64 x168000_2, .int .i64 x168001_2, .string x168002_2]) ?_ 0 _ rfl; (with_reducible repeat (first | refine blk_drewN ?_ _ | refine blk_drew ?_ | refine blk_alloc ?_ _)); exact BK167.out) Tryd.underlying38 rfl (by kernel_rfl)) rfl ?_
                                      exact ⟨_, rfl, .inr ⟨_, _, by first | rfl | simp, HR178.out, HC178.out⟩, by repeat (first | (with_reducible first | exact HB.out | apply below_alloc | apply pw_below_drewN | apply below_drew1 | refine below_set ?_ GE167.out | refine below_set ?_ GE168.out) | exact HB.out)⟩
                                    · rw [if_neg c47] at H
                                      exact absurd H (by simp)
                                  · rw [if_neg c46] at H
                                    exact absurd H (by simp)
                                · rw [if_neg c44] at H
                                  have c44b0 : ((rd l0 (ji41)) == 0) = false := beq_eq_false_iff_ne.mpr c44
                                  have c44b1 : ((rd l0 (ji41)) != 0) = true := bne_iff_ne.mpr c44
                                  by_cases c53 : (rd l0 (ji41)) = 255
                                  · rw [if_pos c53] at H
                                    have c53b0 : ((rd l0 (ji41)) == 255) = true := beq_iff_eq.mpr c53
                                    have c53b1 : ((rd l0 (ji41)) != 255) = false := bne_eq_false_iff_eq.mpr c53
                                    clear c53
                                    by_cases c54 : x8_2.size + 1 ≤ 9223372036854775807
                                    · rw [if_pos c54] at H
                                      have c54b0 := eq_true c54
                                      have c54b1 : decide (x8_2.size + 1 ≤ 9223372036854775807) = true := decide_eq_true c54
                                      try have c54b2 : (9223372036854775807 < x8_2.size + 1) = False := eq_false (Nat.not_lt.2 c54)
                                      have H' := Aside0.mk H
                                      clear H
                                      have p175 : 0 ≤ (x9_2 : Int) := of_decide_eq_true (by first | (with_reducible assumption) | assumption)
                                      have q175 : x9_2 < (l0.length : Int) := of_decide_eq_true (by first | (with_reducible assumption) | assumption)
                                      obtain ⟨ad175, e175, hx175_0⟩ := Kd.at_int HR0.out x9_2 p175 q175
                                      obtain rfl : ad169 = ad175 := (by injection e175)
                                      replace hx175_0 := (HB.out.cell (World.block_lt_of_cell? w _ hx175_0)).trans hx175_0
                                      replace p175 := eq_true p175
                                      replace q175 := eq_true q175
                                      have p177 : 0 ≤ ((ji41) : Int) := of_decide_eq_true (by first | (with_reducible assumption) | assumption)
                                      have q177 : (ji41) < (l0.length : Int) := of_decide_eq_true (by first | (with_reducible assumption) | assumption)
                                      obtain ⟨ad177, e177, hx177_0⟩ := Kd.at_int HR0.out (ji41) p177 q177
                                      obtain rfl : ad169 = ad177 := (by injection e177)
                                      replace hx177_0 := (HB.out.cell (World.block_lt_of_cell? w _ hx177_0)).trans hx177_0
                                      replace p177 := eq_true p177
                                      replace q177 := eq_true q177
                                      have p179 : 0 ≤ ((ji41) : Int) := of_decide_eq_true (by first | (with_reducible assumption) | assumption)
                                      have q179 : (ji41) < (l0.length : Int) := of_decide_eq_true (by first | (with_reducible assumption) | assumption)
                                      obtain ⟨ad179, e179, hx179_0⟩ := Kd.at_int HR0.out (ji41) p179 q179
                                      obtain rfl : ad169 = ad179 := (by injection e179)
                                      replace hx179_0 := (HB.out.cell (World.block_lt_of_cell? w _ hx179_0)).trans hx179_0
                                      replace p179 := eq_true p179
                                      replace q179 := eq_true q179
                                      go_wp2
                                      go_roundg k2
                                      case measure => have := HJ14.out; have := HK2.out; omega
                                      case rel => exact ⟨(x8_2 ++ (⟨#[0]⟩ : ByteArray)), (wrap64 ((ji41) + 1)), (x168000_2), (x168001_2), (x168002_2), (by first | rfl | (simp; done) | (simp [*]; done)), (by first | rfl | (simp; done) | (simp only [← hji41] <;> (first | rfl | simp)) | (simp [*]; done)), H', ⟨by have := HJ14.out; have := HK2.out; omega⟩, ⟨by (with_reducible repeat (first | refine blk_drewN ?_ _ | refine blk_drew ?_ | refine blk_alloc ?_ _)); exact BK167.out⟩, ⟨by (with_reducible repeat (first | refine blk_drewN ?_ _ | refine blk_drew ?_ | refine blk_alloc ?_ _)); exact BK168.out⟩, ⟨by repeat (first | (with_reducible first | exact HB.out | apply below_alloc | apply pw_below_drewN | apply below_drew1 | refine below_set ?_ GE167.out | refine below_set ?_ GE168.out) | exact HB.out)⟩⟩
                                    · rw [if_neg c54] at H
                                      exact absurd H (by simp)
                                  · rw [if_neg c53] at H
                                    have c53b0 : ((rd l0 (ji41)) == 255) = false := beq_eq_false_iff_ne.mpr c53
                                    have c53b1 : ((rd l0 (ji41)) != 255) = true := bne_iff_ne.mpr c53
                                    simp only [Option.some.injEq, Prod.mk.injEq] at H
                                    obtain ⟨rfl, rfl, rfl, rfl, rfl⟩ := H
                                    have p175 : 0 ≤ (x9_2 : Int) := of_decide_eq_true (by first | (with_reducible assumption) | assumption)
                                    have q175 : x9_2 < (l0.length : Int) := of_decide_eq_true (by first | (with_reducible assumption) | assumption)
                                    obtain ⟨ad175, e175, hx175_0⟩ := Kd.at_int HR0.out x9_2 p175 q175
                                    obtain rfl : ad169 = ad175 := (by injection e175)
                                    replace hx175_0 := (HB.out.cell (World.block_lt_of_cell? w _ hx175_0)).trans hx175_0
                                    replace p175 := eq_true p175
                                    replace q175 := eq_true q175
                                    have p177 : 0 ≤ ((ji41) : Int) := of_decide_eq_true (by first | (with_reducible assumption) | assumption)
                                    have q177 : (ji41) < (l0.length : Int) := of_decide_eq_true (by first | (with_reducible assumption) | assumption)
                                    obtain ⟨ad177, e177, hx177_0⟩ := Kd.at_int HR0.out (ji41) p177 q177
                                    obtain rfl : ad169 = ad177 := (by injection e177)
                                    replace hx177_0 := (HB.out.cell (World.block_lt_of_cell? w _ hx177_0)).trans hx177_0
                                    replace p177 := eq_true p177
                                    replace q177 := eq_true q177
                                    have p179 : 0 ≤ ((ji41) : Int) := of_decide_eq_true (by first | (with_reducible assumption) | assumption)
                                    have q179 : (ji41) < (l0.length : Int) := of_decide_eq_true (by first | (with_reducible assumption) | assumption)
                                    obtain ⟨ad179, e179, hx179_0⟩ := Kd.at_int HR0.out (ji41) p179 q179
                                    obtain rfl : ad169 = ad179 := (by injection e179)
                                    replace hx179_0 := (HB.out.cell (World.block_lt_of_cell? w _ hx179_0)).trans hx179_0
                                    replace p179 := eq_true p179
                                    replace q179 := eq_true q179
                                    have hnb55 := NB168_167.out
                                    have hnc55 := NB167_168.out
                                    have hcz56_0 : wr.cell? ⟨gb168, 0, none⟩ = some (.int .i64 0) := (blk_cell BK168.out 0).trans rfl
                                    have hcz56_1 : wr.cell? ⟨gb168, 1, none⟩ = some (.int .i64 0) := (blk_cell BK168.out 1).trans rfl
                                    have hcz56_2 : wr.cell? ⟨gb168, 2, none⟩ = some (.string (⟨#[]⟩ : ByteArray)) := (blk_cell BK168.out 2).trans rfl
                                    have hfz56_0 := blk_frozen BK168.out 0
                                    have hfz56_1 := blk_frozen BK168.out 1
                                    have hfz56_2 := blk_frozen BK168.out 2
                                    have hcz57_0 : wr.cell? ⟨gb167, 0, none⟩ = some (.int .i64 x168000_2) := (blk_cell BK167.out 0).trans rfl
                                    have hcz57_1 : wr.cell? ⟨gb167, 1, none⟩ = some (.int .i64 x168001_2) := (blk_cell BK167.out 1).trans rfl
                                    have hcz57_2 : wr.cell? ⟨gb167, 2, none⟩ = some (.string x168002_2) := (blk_cell BK167.out 2).trans rfl
                                    have hfz57_0 := blk_frozen BK167.out 0
                                    have hfz57_1 := blk_frozen BK167.out 1
                                    have hfz57_2 := blk_frozen BK167.out 2
                                    go_wp2
                                    refine bodyPost_ret (results_ctt rfl _ _ gb167 38 #[.int .i64 0, .int .i64 0, .string (⟨#[]⟩ : ByteArray)] (0, 0) _ rfl (by (with_reducible repeat (first | refine blk_drewN ?_ _ | refine blk_drew ?_ | refine blk_alloc ?_ _)); refine blk_put (cs := #[.int .i64 0, .int .i64 0, .string x168002_2]) ?_ 2 _ rfl; (with_reducible repeat (first | refine blk_drewN ?_ _ | refine blk_drew ?_ | refine blk_alloc ?_ _)); refine blk_put (cs := #[.int .i64 0, .int .i64 x168001_2, .string x168002_2]) ?_ 1 _ rfl; (with_reducible repeat (first | refine blk_drewN ?_ _ | refine blk_drew ?_ | refine blk_alloc ?_ _)); refine blk_put (cs := #[.int .i64 x168000_2, .int .i64 x168001_2, .string x168002_2]) ?_ 0 _ rfl; (with_reducible repeat (first | refine blk_drewN ?_ _ | refine blk_drew ?_ | refine blk_alloc ?_ _)); exact BK167.out) Tryd.underlying38 rfl (by kernel_rfl)) rfl ?_
                                    exact ⟨_, rfl, .inl ⟨rfl, rfl⟩, by repeat (first | (with_reducible first | exact HB.out | apply below_alloc | apply pw_below_drewN | apply below_drew1 | refine below_set ?_ GE167.out | refine below_set ?_ GE168.out) | exact HB.out)⟩
                              · rw [if_neg c43] at H
                                exact absurd H (by simp)
                            · rw [if_neg c42] at H
                              exact absurd H (by simp)
                        · rw [if_neg c36] at H
                          have c36b0 : ((rd l0 x9_2) == 0) = false := beq_eq_false_iff_ne.mpr c36
                          have c36b1 : ((rd l0 x9_2) != 0) = true := bne_iff_ne.mpr c36
                          have c58b0 := eq_true (of_decide_eq_true (by first | (with_reducible assumption) | assumption) : 0 ≤ x9_2)
                          by_cases c59 : x9_2 ≤ (wrap64 (x9_2 + 1))
                          · rw [if_pos c59] at H
                            have c59b0 := eq_true c59
                            have c59b1 : decide (x9_2 ≤ (wrap64 (x9_2 + 1))) = true := decide_eq_true c59
                            by_cases c60 : (wrap64 (x9_2 + 1)) ≤ (l0.length : Int)
                            · rw [if_pos c60] at H
                              have c60b0 := eq_true c60
                              have c60b1 : decide ((wrap64 (x9_2 + 1)) ≤ (l0.length : Int)) = true := decide_eq_true c60
                              by_cases c61 : x8_2.size + (strOfNums ((l0.take ((wrap64 (x9_2 + 1)) : Int).toNat).drop (x9_2 : Int).toNat)).size ≤ 9223372036854775807
                              · rw [if_pos c61] at H
                                have c61b0 := eq_true c61
                                have c61b1 : decide (x8_2.size + (strOfNums ((l0.take ((wrap64 (x9_2 + 1)) : Int).toNat).drop (x9_2 : Int).toNat)).size ≤ 9223372036854775807) = true := decide_eq_true c61
                                try have c61b2 : (9223372036854775807 < x8_2.size + (strOfNums ((l0.take ((wrap64 (x9_2 + 1)) : Int).toNat).drop (x9_2 : Int).toNat)).size) = False := eq_false (Nat.not_lt.2 c61)
                                have H' := Aside0.mk H
                                clear H
                                have p175 : 0 ≤ (x9_2 : Int) := of_decide_eq_true (by first | (with_reducible assumption) | assumption)
                                have q175 : x9_2 < (l0.length : Int) := of_decide_eq_true (by first | (with_reducible assumption) | assumption)
                                obtain ⟨ad175, e175, hx175_0⟩ := Kd.at_int HR0.out x9_2 p175 q175
                                obtain rfl : ad169 = ad175 := (by injection e175)
                                replace hx175_0 := (HB.out.cell (World.block_lt_of_cell? w _ hx175_0)).trans hx175_0
                                replace p175 := eq_true p175
                                replace q175 := eq_true q175
                                obtain ⟨i062, hi062, _, hsz62, _⟩ := info_parts info5
                                obtain ⟨A62, hcut62, hA62, hC62⟩ := print_mid_of (P := Tryd.prog) (Value.int .u8) 0 22 5 .i64 .i64 Tryd.underlying22 hi062 hsz62 (some ad169) c0 l0 x9_2 (wrap64 (x9_2 + 1)) (of_decide_eq_true (by first | (with_reducible assumption) | assumption)) (by first | omega | exact of_decide_eq_true (by first | (with_reducible assumption) | assumption)) (of_decide_eq_true (by first | (with_reducible assumption) | assumption)) HC0.out
                                have HR176 := Aside0.mk (Kd.C_of_reads (h1 := fun _ => rfl) (hA62 _ (Kd.reads_of_C HR0.out)))
                                have HC176 := Aside0.mk hC62
                                clear hA62 hC62 hi062 hsz62
                                have hcv63 := Kd.C_string (P := Tryd.prog) (A := A62) (c := (c0 - x9_2.toNat)) Tryd.underlying22 Tryd.underlying5 Tryd.underlying9 (Kd.C_below HR176.out HB.out)
                                have hlm : ((l0.take ((wrap64 (x9_2 + 1)) : Int).toNat).drop (x9_2 : Int).toNat).length = (wrap64 (x9_2 + 1)).toNat - x9_2.toNat := by have h_ : wrap64 (x9_2 + 1) ≤ (l0.length : Int) := of_decide_eq_true (by first | (with_reducible assumption) | assumption); rw [List.length_drop, List.length_take, Nat.min_eq_left (by omega)]
                                rw [hlm] at hcv63
                                clear hlm
                                go_wp2
                                go_roundg k2
                                case measure => have := HJ14.out; have := HK2.out; omega
                                case rel => exact ⟨(x8_2 ++ (strOfNums ((l0.take ((wrap64 (x9_2 + 1)) : Int).toNat).drop (x9_2 : Int).toNat))), (wrap64 (x9_2 + 1)), (x168000_2), (x168001_2), (x168002_2), (by first | rfl | (simp; done) | (simp [*]; done)), (by first | rfl | (simp; done) | (simp [*]; done)), H', ⟨by have := HJ14.out; have := HK2.out; omega⟩, ⟨by (with_reducible repeat (first | refine blk_drewN ?_ _ | refine blk_drew ?_ | refine blk_alloc ?_ _)); exact BK167.out⟩, ⟨by (with_reducible repeat (first | refine blk_drewN ?_ _ | refine blk_drew ?_ | refine blk_alloc ?_ _)); exact BK168.out⟩, ⟨by repeat (first | (with_reducible first | exact HB.out | apply below_alloc | apply pw_below_drewN | apply below_drew1 | refine below_set ?_ GE167.out | refine below_set ?_ GE168.out) | exact HB.out)⟩⟩
                              · rw [if_neg c61] at H
                                exact absurd H (by simp)
                            · rw [if_neg c60] at H
                              exact absurd H (by simp)
                          · rw [if_neg c59] at H
                            exact absurd H (by simp)
                      · rw [if_neg c35] at H
                        exact absurd H (by simp)
                    · rw [if_neg c34] at H
                      have c34b0 : decide (x9_2 < (l0.length : Int)) = false := decide_eq_false c34
                      clear c34
                      simp only [Option.some.injEq, Prod.mk.injEq] at H
                      obtain ⟨rfl, rfl, rfl, rfl, rfl⟩ := H
                      have hnb64 := NB168_167.out
                      have hnc64 := NB167_168.out
                      have hcz65_0 : wr.cell? ⟨gb168, 0, none⟩ = some (.int .i64 0) := (blk_cell BK168.out 0).trans rfl
                      have hcz65_1 : wr.cell? ⟨gb168, 1, none⟩ = some (.int .i64 0) := (blk_cell BK168.out 1).trans rfl
                      have hcz65_2 : wr.cell? ⟨gb168, 2, none⟩ = some (.string (⟨#[]⟩ : ByteArray)) := (blk_cell BK168.out 2).trans rfl
                      have hfz65_0 := blk_frozen BK168.out 0
                      have hfz65_1 := blk_frozen BK168.out 1
                      have hfz65_2 := blk_frozen BK168.out 2
                      have hcz66_0 : wr.cell? ⟨gb167, 0, none⟩ = some (.int .i64 x168000_2) := (blk_cell BK167.out 0).trans rfl
                      have hcz66_1 : wr.cell? ⟨gb167, 1, none⟩ = some (.int .i64 x168001_2) := (blk_cell BK167.out 1).trans rfl
                      have hcz66_2 : wr.cell? ⟨gb167, 2, none⟩ = some (.string x168002_2) := (blk_cell BK167.out 2).trans rfl
                      have hfz66_0 := blk_frozen BK167.out 0
                      have hfz66_1 := blk_frozen BK167.out 1
                      have hfz66_2 := blk_frozen BK167.out 2
                      go_wp2
                      refine bodyPost_ret (results_ctt rfl _ _ gb167 38 #[.int .i64 0, .int .i64 0, .string (⟨#[]⟩ : ByteArray)] (0, 0) _ rfl (by (with_reducible repeat (first | refine blk_drewN ?_ _ | refine blk_drew ?_ | refine blk_alloc ?_ _)); refine blk_put (cs := #[.int .i64 0, .int .i64 0, .string x168002_2]) ?_ 2 _ rfl; (with_reducible repeat (first | refine blk_drewN ?_ _ | refine blk_drew ?_ | refine blk_alloc ?_ _)); refine blk_put (cs := #[.int .i64 0, .int .i64 x168001_2, .string x168002_2]) ?_ 1 _ rfl; (with_reducible repeat (first | refine blk_drewN ?_ _ | refine blk_drew ?_ | refine blk_alloc ?_ _)); refine blk_put (cs := #[.int .i64 x168000_2, .int .i64 x168001_2, .string x168002_2]) ?_ 0 _ rfl; (with_reducible repeat (first | refine blk_drewN ?_ _ | refine blk_drew ?_ | refine blk_alloc ?_ _)); exact BK167.out) Tryd.underlying38 rfl (by kernel_rfl)) rfl ?_
                      exact ⟨_, rfl, .inl ⟨rfl, rfl⟩, by repeat (first | (with_reducible first | exact HB.out | apply below_alloc | apply pw_below_drewN | apply below_drew1 | refine below_set ?_ GE167.out | refine below_set ?_ GE168.out) | exact HB.out)⟩
              · rw [if_neg c33] at H
                have c33b0 : ((rd l0 0) == 32) = false := beq_eq_false_iff_ne.mpr c33
                have c33b1 : ((rd l0 0) != 32) = true := bne_iff_ne.mpr c33
                simp only [Option.some.injEq, Prod.mk.injEq] at H
                obtain ⟨rfl, rfl, rfl, rfl, rfl⟩ := H
                have p174 : 0 ≤ (0 : Int) := (by omega)
                have q174 : 0 < (l0.length : Int) := of_decide_eq_true (by first | (with_reducible assumption) | assumption)
                obtain ⟨ad174, e174, hx174_0⟩ := Kd.at_int HR0.out 0 p174 q174
                obtain rfl : ad169 = ad174 := (by injection e174)
                have qi174 : (0 < l0.length) = True := eq_true (by omega)
                (try rw [show ((0 : Int)).toNat = 0 from rfl] at hx174_0)
                (try rw [Addr.add_zero'] at hx174_0)
                replace hx174_0 := (HB.out.cell (World.block_lt_of_cell? w _ hx174_0)).trans hx174_0
                replace p174 := eq_true p174
                replace q174 := eq_true q174
                have hnb67 := NB168_167.out
                have hnc67 := NB167_168.out
                have hcz68_0 : wc.cell? ⟨gb168, 0, none⟩ = some (.int .i64 0) := (blk_cell BK168.out 0).trans rfl
                have hcz68_1 : wc.cell? ⟨gb168, 1, none⟩ = some (.int .i64 0) := (blk_cell BK168.out 1).trans rfl
                have hcz68_2 : wc.cell? ⟨gb168, 2, none⟩ = some (.string (⟨#[]⟩ : ByteArray)) := (blk_cell BK168.out 2).trans rfl
                have hfz68_0 := blk_frozen BK168.out 0
                have hfz68_1 := blk_frozen BK168.out 1
                have hfz68_2 := blk_frozen BK168.out 2
                have hcz69_0 : wc.cell? ⟨gb167, 0, none⟩ = some (.int .i64 0) := (blk_cell BK167.out 0).trans rfl
                have hcz69_1 : wc.cell? ⟨gb167, 1, none⟩ = some (.int .i64 0) := (blk_cell BK167.out 1).trans rfl
                have hcz69_2 : wc.cell? ⟨gb167, 2, none⟩ = some (.string (⟨#[]⟩ : ByteArray)) := (blk_cell BK167.out 2).trans rfl
                have hfz69_0 := blk_frozen BK167.out 0
                have hfz69_1 := blk_frozen BK167.out 1
                have hfz69_2 := blk_frozen BK167.out 2
                go_wp2
                refine bodyPost_ret (results_ctt rfl _ _ gb167 38 #[.int .i64 0, .int .i64 0, .string (⟨#[]⟩ : ByteArray)] (0, 0) _ rfl (by (with_reducible repeat (first | refine blk_drewN ?_ _ | refine blk_drew ?_ | refine blk_alloc ?_ _)); refine blk_put (cs := #[.int .i64 0, .int .i64 0, .string (⟨#[]⟩ : ByteArray)]) ?_ 2 _ rfl; (with_reducible repeat (first | refine blk_drewN ?_ _ | refine blk_drew ?_ | refine blk_alloc ?_ _)); refine blk_put (cs := #[.int .i64 0, .int .i64 0, .string (⟨#[]⟩ : ByteArray)]) ?_ 1 _ rfl; (with_reducible repeat (first | refine blk_drewN ?_ _ | refine blk_drew ?_ | refine blk_alloc ?_ _)); refine blk_put (cs := #[.int .i64 0, .int .i64 0, .string (⟨#[]⟩ : ByteArray)]) ?_ 0 _ rfl; (with_reducible repeat (first | refine blk_drewN ?_ _ | refine blk_drew ?_ | refine blk_alloc ?_ _)); exact BK167.out) Tryd.underlying38 rfl (by kernel_rfl)) rfl ?_
                exact ⟨_, rfl, .inl ⟨rfl, rfl⟩, by repeat (first | (with_reducible first | exact HB.out | apply below_alloc | apply pw_below_drewN | apply below_drew1 | refine below_set ?_ GE167.out | refine below_set ?_ GE168.out) | exact HB.out)⟩
            · rw [if_neg c32] at H
              exact absurd H (by simp)
  · rw [if_neg c2] at H
    exact absurd H (by simp)

end Go.Proofs.YtbibchinimhamaaDoor.SR
