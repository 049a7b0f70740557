/- The reference's Run: its registers in memory. -/
import Derived.Test.YtbibchinimhamaaZ9
namespace Go.Proofs.Ytbibchinimhamaa
set_option linter.unusedVariables false
set_option linter.unusedSimpArgs false
open Go.RowKit

theorem Try.info33 : (Try.prog.info? 33).map (fun i => (i.zero, i.size, i.bytes)) = some (some (.agg #[.int .i64 0, .int .i64 0, .string ⟨#[]⟩]), 3, 32) := by kernel_rfl
theorem Try.info3 : (Try.prog.info? 3).map (fun i => (i.zero, i.size, i.bytes)) = some (some (.int .i64 0), 1, 8) := by kernel_rfl
theorem Try.make38 (n : Nat) (hn : n ≤ 65536) (w : World) : (Instr.makeSlice 38 (.int .i64 (n : Int)) (.int .i64 (n : Int))).run Try.prog w =
    .ok (.slice (some ⟨w.heap.size, 0, none⟩) n n) (w.alloc (.cells (madeCells #[.int .i64 0, .int .i64 0, .string ⟨#[]⟩] (n * 3)) 33)) := by
  have hi := Try.info33
  cases h : Try.prog.info? 33 with
  | none => rw [h] at hi; exact absurd hi (by simp)
  | some i =>
    rw [h] at hi
    simp only [Option.map_some, Option.some.injEq, Prod.mk.injEq] at hi
    have hr := run_make_rowN (P := Try.prog) 38 33 i _ (by kernel_rfl) h hi.1 .i64 .i64 n n (Nat.le_refl _) (by rw [hi.2.2]; omega) (by omega) w
    rw [hr, hi.2.1]
    rfl
theorem Try.make71 (n : Nat) (hn : n ≤ 65536) (w : World) : (Instr.makeSlice 71 (.int .i64 (n : Int)) (.int .i64 (n : Int))).run Try.prog w =
    .ok (.slice (some ⟨w.heap.size, 0, none⟩) n n) (w.alloc (.cells (madeCells #[.int .i64 0] n) 3)) := by
  have hi := Try.info3
  cases h : Try.prog.info? 3 with
  | none => rw [h] at hi; exact absurd hi (by simp)
  | some i =>
    rw [h] at hi
    simp only [Option.map_some, Option.some.injEq, Prod.mk.injEq] at hi
    have hr := run_make_rowN (P := Try.prog) 71 3 i _ (by kernel_rfl) h hi.1 .i64 .i64 n n (Nat.le_refl _) (by rw [hi.2.2]; omega) (by omega) w
    rw [hr, hi.2.1, Nat.mul_one]
    rfl

def RegV (w : World) (g n : Nat) (fv : Nat → V) : Prop :=
  ∃ arr : Array Value, w.heap[g]? = some (.cells arr 33 (0, 0)) ∧ ∀ i, i < n → arr[i * 3]? = some (.int .i64 (fv i).k) ∧ arr[i * 3 + 1]? = some (.int .i64 (fv i).n) ∧ arr[i * 3 + 2]? = some (.string (fv i).s)
def RegT (w : World) (g n : Nat) (ft : Nat → Int) : Prop :=
  ∃ arr : Array Value, w.heap[g]? = some (.cells arr 3 (0, 0)) ∧ ∀ i, i < n → arr[i]? = some (.int .i64 (ft i))
section
variable {w w' : World} {g n : Nat} {fv : Nat → V} {ft : Nat → Int}
theorem RegV.lt (h : RegV w g n fv) : g < w.heap.size := by obtain ⟨arr, h1, _⟩ := h; exact heap_lt h1
theorem RegT.lt (h : RegT w g n ft) : g < w.heap.size := by obtain ⟨arr, h1, _⟩ := h; exact heap_lt h1
theorem RegV.below (h : RegV w g n fv) (hb : Below w.heap.size w w') : RegV w' g n fv := by
  obtain ⟨arr, h1, h2⟩ := h
  exact ⟨arr, (hb.block g (heap_lt h1)).trans h1, h2⟩
theorem RegT.below (h : RegT w g n ft) (hb : Below w.heap.size w w') : RegT w' g n ft := by
  obtain ⟨arr, h1, h2⟩ := h
  exact ⟨arr, (hb.block g (heap_lt h1)).trans h1, h2⟩
theorem RegV.far (h : RegV w g n fv) {p : Addr} (hp : g ≠ p.block) (u : Value) : RegV (w.setCell p u) g n fv := by
  obtain ⟨arr, h1, h2⟩ := h
  exact ⟨arr, (Below.heap_setCell w p u g hp).trans h1, h2⟩
theorem RegT.far (h : RegT w g n ft) {p : Addr} (hp : g ≠ p.block) (u : Value) : RegT (w.setCell p u) g n ft := by
  obtain ⟨arr, h1, h2⟩ := h
  exact ⟨arr, (Below.heap_setCell w p u g hp).trans h1, h2⟩
theorem RegV.cells (h : RegV w g n fv) {i : Nat} (hi : i < n) :
    w.cell? ⟨g, i * 3, none⟩ = some (.int .i64 (fv i).k) ∧ w.cell? ⟨g, i * 3 + 1, none⟩ = some (.int .i64 (fv i).n) ∧ w.cell? ⟨g, i * 3 + 2, none⟩ = some (.string (fv i).s) := by
  obtain ⟨arr, h1, h2⟩ := h
  obtain ⟨a0, a1, a2⟩ := h2 i hi
  exact ⟨(cell_of_row w g _ arr 33 (0, 0) h1).trans a0, (cell_of_row w g _ arr 33 (0, 0) h1).trans a1, (cell_of_row w g _ arr 33 (0, 0) h1).trans a2⟩
theorem RegT.cells (h : RegT w g n ft) {i : Nat} (hi : i < n) : w.cell? ⟨g, i, none⟩ = some (.int .i64 (ft i)) := by
  obtain ⟨arr, h1, h2⟩ := h
  exact (cell_of_row w g _ arr 3 (0, 0) h1).trans (h2 i hi)
theorem RegV.free (h : RegV w g n fv) (j : Nat) : w.frozen? ⟨g, j, none⟩ = false := by
  obtain ⟨arr, h1, h2⟩ := h
  simp [World.frozen?, h1]
theorem RegT.free (h : RegT w g n ft) (j : Nat) : w.frozen? ⟨g, j, none⟩ = false := by
  obtain ⟨arr, h1, h2⟩ := h
  simp [World.frozen?, h1]
theorem RegV.setV (h : RegV w g n fv) (A : Nat) (v : V) :
    RegV (((w.setCell ⟨g, A * 3, none⟩ (.int .i64 v.k)).setCell ⟨g, A * 3 + 1, none⟩ (.int .i64 v.n)).setCell ⟨g, A * 3 + 2, none⟩ (.string v.s)) g n (upd fv A v) := by
  obtain ⟨arr, h1, h2⟩ := h
  refine ⟨_, heap_set _ (heap_set _ (heap_set _ h1)), fun i hi => ?_⟩
  obtain ⟨a0, a1, a2⟩ := h2 i hi
  by_cases e : i = A
  · subst e
    rw [upd_same]
    refine ⟨?_, ?_, ?_⟩
    · rw [arr_set (v := .int .i64 v.k), if_neg (by omega)]
      rw [arr_set (v := .int .i64 v.k), if_neg (by omega)]
      rw [arr_set a0, if_pos rfl]
    · rw [arr_set (v := .int .i64 v.n), if_neg (by omega)]
      rw [arr_set (v := .int .i64 (fv i).n), if_pos rfl]
      rw [arr_set a1, if_neg (by omega)]
    · rw [arr_set (v := .string (fv i).s), if_pos rfl]
      rw [arr_set (v := .string (fv i).s), if_neg (by omega)]
      rw [arr_set a2, if_neg (by omega)]
  · rw [upd_ne _ _ e]
    refine ⟨?_, ?_, ?_⟩
    · rw [arr_set (v := .int .i64 (fv i).k), if_neg (by omega)]
      rw [arr_set (v := .int .i64 (fv i).k), if_neg (by omega)]
      rw [arr_set a0, if_neg (by omega)]
    · rw [arr_set (v := .int .i64 (fv i).n), if_neg (by omega)]
      rw [arr_set (v := .int .i64 (fv i).n), if_neg (by omega)]
      rw [arr_set a1, if_neg (by omega)]
    · rw [arr_set (v := .string (fv i).s), if_neg (by omega)]
      rw [arr_set (v := .string (fv i).s), if_neg (by omega)]
      rw [arr_set a2, if_neg (by omega)]
theorem RegT.setT (h : RegT w g n ft) (A : Nat) (t : Int) : RegT (w.setCell ⟨g, A, none⟩ (.int .i64 t)) g n (upd ft A t) := by
  obtain ⟨arr, h1, h2⟩ := h
  refine ⟨_, heap_set _ h1, fun i hi => ?_⟩
  have a3 := h2 i hi
  by_cases e : i = A
  · subst e; rw [upd_same, arr_set a3, if_pos rfl]
  · rw [upd_ne _ _ e, arr_set a3, if_neg (by omega)]
theorem RegV.made (w : World) (n : Nat) : RegV (w.alloc (.cells (madeCells #[.int .i64 0, .int .i64 0, .string ⟨#[]⟩] (n * 3)) 33)) w.heap.size n (fun _ => zV) := by
  refine ⟨_, heap_alloc_new w _, fun i hi => ?_⟩
  have hm : ∀ j, j < 3 → (madeCells #[.int .i64 0, .int .i64 0, .string ⟨#[]⟩] (n * 3))[i * 3 + j]? = (#[.int .i64 0, .int .i64 0, .string ⟨#[]⟩] : Array Value)[j]? := by
    intro j hj
    have h1 : i * 3 + j < n * 3 := by omega
    have h2 : (i * 3 + j) % 3 = j := by omega
    simp [madeCells, h1, h2]
    rcases j with _ | _ | _ | j
    · rfl
    · rfl
    · rfl
    · omega
  exact ⟨hm 0 (by omega), hm 1 (by omega), hm 2 (by omega)⟩
theorem RegT.made (w : World) (n : Nat) : RegT (w.alloc (.cells (madeCells #[.int .i64 0] n) 3)) w.heap.size n (fun _ => 0) := by
  refine ⟨_, heap_alloc_new w _, fun i hi => ?_⟩
  simp [madeCells, hi, Nat.mod_one]
end

/-- The memory of the reference's Run. -/
structure M33 (w : World) (X : Option Addr) (xs : List I) (c n gv gt : Nat) (fv : Nat → V) (ft : Nat → Int) (wr : World) : Prop where
  hp : PBox wr w.heap.size (.slice X xs.length c) n
  ho : Own wr (w.heap.size + 1) zV
  hv : RegV wr gv n fv
  ht : RegT wr gt n ft
  hgv : w.heap.size + 2 ≤ gv
  hgt : w.heap.size + 2 ≤ gt
  hne : gv ≠ gt
  hb : Below w.heap.size w wr
section
variable {w wr wr' : World} {X : Option Addr} {xs : List I} {c n gv gt : Nat} {fv : Nat → V} {ft : Nat → Int}
theorem M33.below (h : M33 w X xs c n gv gt fv ft wr) (hb : Below wr.heap.size wr wr') : M33 w X xs c n gv gt fv ft wr' :=
  ⟨h.hp.below hb, h.ho.below hb, h.hv.below hb, h.ht.below hb, h.hgv, h.hgt, h.hne, h.hb.trans (hb.mono h.hb.size)⟩
theorem cell_far {g o j : Nat} {v u : Value} {U : World} (ho : o ≠ g) (hc : U.cell? ⟨o, j, none⟩ = some v) (p : Nat) : (U.setCell ⟨g, p, none⟩ u).cell? ⟨o, j, none⟩ = some v :=
  (World.cell?_of_block (w := U) (a := ⟨o, j, none⟩) (Below.heap_setCell _ _ _ _ ho)).trans hc
theorem M33.setT (h : M33 w X xs c n gv gt fv ft wr) (A : Nat) (t : Int) : M33 w X xs c n gv gt fv (upd ft A t) (wr.setCell ⟨gt, A, none⟩ (.int .i64 t)) := by
  have hg := h.hgt
  exact ⟨⟨cell_far (by omega) h.hp.1 _, cell_far (by omega) h.hp.2 _⟩, h.ho.far (by omega) _ _, h.hv.far h.hne _, h.ht.setT A t, h.hgv, hg, h.hne, h.hb.setCell (by simp; omega) _⟩
theorem M33.setV (h : M33 w X xs c n gv gt fv ft wr) (A : Nat) (v : V) : M33 w X xs c n gv gt (upd fv A v) ft (((wr.setCell ⟨gv, A * 3, none⟩ (.int .i64 v.k)).setCell ⟨gv, A * 3 + 1, none⟩ (.int .i64 v.n)).setCell ⟨gv, A * 3 + 2, none⟩ (.string v.s)) := by
  have hg := h.hgv
  have hne := h.hne.symm
  exact ⟨⟨cell_far (by omega) (cell_far (by omega) (cell_far (by omega) h.hp.1 _) _) _, cell_far (by omega) (cell_far (by omega) (cell_far (by omega) h.hp.2 _) _) _⟩, ((h.ho.far (by omega) _ _).far (by omega) _ _).far (by omega) _ _, h.hv.setV A v,
    ((h.ht.far (p := ⟨gv, _, none⟩) hne _).far (p := ⟨gv, _, none⟩) hne _).far (p := ⟨gv, _, none⟩) hne _, hg, h.hgt, h.hne, ((h.hb.setCell (by simp; omega) _).setCell (by simp; omega) _).setCell (by simp; omega) _⟩
theorem M33.congr {ft' : Nat → Int} (h : M33 w X xs c n gv gt fv ft wr) (he : ∀ i, i < n → ft i = ft' i) : M33 w X xs c n gv gt fv ft' wr := by
  refine ⟨h.hp, h.ho, h.hv, ?_, h.hgv, h.hgt, h.hne, h.hb⟩
  obtain ⟨arr, q1, q2⟩ := h.ht
  exact ⟨arr, q1, fun i hi => by rw [← he i hi]; exact q2 i hi⟩
end

def secondLoop : Code → List Code
  | .loop c => [c]
  | .seq a b => secondLoop a ++ secondLoop b
  | .block _ c => secondLoop c
  | .scope c => secondLoop c
  | .cond _ a b => secondLoop a ++ secondLoop b
  | _ => []
noncomputable def body33 : Code := ((Try.f33.body.map secondLoop).getD []).getD 1 .skip

/-- The frame of the reference's Run. -/
structure F33 (w : World) (A : Option Addr) (len cR gv gt n : Nat) (k : Nat) (a : Act) : Prop where
  defers : a.defers = []
  size : a.tmps.size = 241
  s1 : a.tmps.getD 1 undef = .slice A len cR
  s2 : a.tmps.getD 2 undef = .pointer (some ⟨w.heap.size, 0, none⟩)
  s4 : a.tmps.getD 4 undef = .pointer (some ⟨w.heap.size + 1, 0, none⟩)
  s7 : a.tmps.getD 7 undef = .slice (some ⟨gv, 0, none⟩) n n
  s8 : a.tmps.getD 8 undef = .slice (some ⟨gt, 0, none⟩) n n
  s10 : a.tmps.getD 10 undef = .int .i64 k
theorem frame_lit' {a : Act} (m : Nat) (h1 : a.defers = []) (h2 : a.tmps.size = m) : ∃ u : Nat → Value, a = ⟨((List.range m).map u).toArray, []⟩ := by
  obtain ⟨t, d⟩ := a
  simp only at h1 h2
  subst h1
  refine ⟨fun i => t.getD i undef, ?_⟩
  congr 1
  apply Array.ext
  · simp [h2]
  · intro i hi _
    simp [Array.getD, hi]
set_option maxRecDepth 1000000 in
set_option maxHeartbeats 4000000 in
theorem F33.lit {w : World} {A : Option Addr} {len cR gv gt n k : Nat} {a : Act} (h : F33 w A len cR gv gt n k a) :
    ∃ u : Nat → Value, a = ⟨#[u 0, .slice A len cR, .pointer (some ⟨w.heap.size, 0, none⟩), u 3, .pointer (some ⟨w.heap.size + 1, 0, none⟩), u 5, u 6, .slice (some ⟨gv, 0, none⟩) n n, .slice (some ⟨gt, 0, none⟩) n n, u 9, .int .i64 k, u 11, u 12, u 13, u 14, u 15, u 16, u 17, u 18, u 19, u 20, u 21, u 22, u 23, u 24, u 25, u 26, u 27, u 28, u 29, u 30, u 31, u 32, u 33, u 34, u 35, u 36, u 37, u 38, u 39, u 40, u 41, u 42, u 43, u 44, u 45, u 46, u 47, u 48, u 49, u 50, u 51, u 52, u 53, u 54, u 55, u 56, u 57, u 58, u 59, u 60, u 61, u 62, u 63, u 64, u 65, u 66, u 67, u 68, u 69, u 70, u 71, u 72, u 73, u 74, u 75, u 76, u 77, u 78, u 79, u 80, u 81, u 82, u 83, u 84, u 85, u 86, u 87, u 88, u 89, u 90, u 91, u 92, u 93, u 94, u 95, u 96, u 97, u 98, u 99, u 100, u 101, u 102, u 103, u 104, u 105, u 106, u 107, u 108, u 109, u 110, u 111, u 112, u 113, u 114, u 115, u 116, u 117, u 118, u 119, u 120, u 121, u 122, u 123, u 124, u 125, u 126, u 127, u 128, u 129, u 130, u 131, u 132, u 133, u 134, u 135, u 136, u 137, u 138, u 139, u 140, u 141, u 142, u 143, u 144, u 145, u 146, u 147, u 148, u 149, u 150, u 151, u 152, u 153, u 154, u 155, u 156, u 157, u 158, u 159, u 160, u 161, u 162, u 163, u 164, u 165, u 166, u 167, u 168, u 169, u 170, u 171, u 172, u 173, u 174, u 175, u 176, u 177, u 178, u 179, u 180, u 181, u 182, u 183, u 184, u 185, u 186, u 187, u 188, u 189, u 190, u 191, u 192, u 193, u 194, u 195, u 196, u 197, u 198, u 199, u 200, u 201, u 202, u 203, u 204, u 205, u 206, u 207, u 208, u 209, u 210, u 211, u 212, u 213, u 214, u 215, u 216, u 217, u 218, u 219, u 220, u 221, u 222, u 223, u 224, u 225, u 226, u 227, u 228, u 229, u 230, u 231, u 232, u 233, u 234, u 235, u 236, u 237, u 238, u 239, u 240], []⟩ := by
  obtain ⟨u, rfl⟩ := frame_lit' 241 h.defers h.size
  have e1 := h.s1
  have e2 := h.s2
  have e4 := h.s4
  have e7 := h.s7
  have e8 := h.s8
  have e10 := h.s10
  change u 1 = _ at e1
  change u 2 = _ at e2
  change u 4 = _ at e4
  change u 7 = _ at e7
  change u 8 = _ at e8
  change u 10 = _ at e10
  refine ⟨u, ?_⟩
  rw [← e1, ← e2, ← e4, ← e7, ← e8, ← e10]
  rfl
end Go.Proofs.Ytbibchinimhamaa
