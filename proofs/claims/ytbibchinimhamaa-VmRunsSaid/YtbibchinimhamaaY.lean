/- vm.Run: its frame, what holds at each jump, the ways out. -/
import Derived.Test.YtbibchinimhamaaX
import Derived.ScopeJumps
import Derived.WalkMore
namespace Go.Proofs.Ytbibchinimhamaa
open Go.RowKit

def firstScope : Code → Option Code
  | .scope c => some c
  | .seq a b => match firstScope a with
    | some c => some c
    | none => firstScope b
  | .block _ c => firstScope c
  | .cond _ a b => match firstScope a with
    | some c => some c
    | none => firstScope b
  | _ => none
def behind : Option Code → Code
  | some (.seq .skip c) => c
  | _ => .skip
noncomputable def scope32 : Code := (Try.f32.body.bind firstScope).getD .skip
noncomputable def body32 : Code := behind (findLabel scope32 0)

/-- The frame of vm.Run. -/
structure F32 (w : World) (A : Option Addr) (len cR g n : Nat) (k : Nat) (e : Int) (a : Act) : Prop where
  defers : a.defers = []
  size : a.tmps.size = 244
  s1 : a.tmps.getD 1 undef = .slice A len cR
  s2 : a.tmps.getD 2 undef = .pointer (some ⟨w.heap.size, 0, none⟩)
  s4 : a.tmps.getD 4 undef = .pointer (some ⟨w.heap.size + 1, 0, none⟩)
  s7 : a.tmps.getD 7 undef = .slice (some ⟨g, 0, none⟩) n n
  s9 : a.tmps.getD 9 undef = .int .i64 k
  s10 : a.tmps.getD 10 undef = .int .i64 e
/-- The memory of vm.Run. -/
structure M32 (w : World) (X : Option Addr) (xs : List I) (c n g : Nat) (fv : Nat → V) (ft : Nat → Int) (wr : World) : Prop where
  hp : PBox wr w.heap.size (.slice X xs.length c) n
  ho : Own wr (w.heap.size + 1) zV
  hr : RegB wr g n fv ft
  hg : w.heap.size + 2 ≤ g
  hb : Below w.heap.size w wr
theorem frame_lit {a : Act} (h1 : a.defers = []) (h2 : a.tmps.size = 244) : ∃ u : Nat → Value, a = ⟨((List.range 244).map u).toArray, []⟩ := by
  obtain ⟨t, d⟩ := a
  simp only at h1 h2
  subst h1
  refine ⟨fun i => t.getD i undef, ?_⟩
  congr 1
  apply Array.ext
  · simp [h2]
  · intro i hi _
    simp [Array.getD, hi]
set_option maxRecDepth 1000000 in
set_option maxHeartbeats 4000000 in
theorem F32.lit {w : World} {A : Option Addr} {len cR g n k : Nat} {e : Int} {a : Act} (h : F32 w A len cR g n k e a) :
    ∃ u : Nat → Value, a = ⟨#[u 0, .slice A len cR, .pointer (some ⟨w.heap.size, 0, none⟩), u 3, .pointer (some ⟨w.heap.size + 1, 0, none⟩), u 5, u 6, .slice (some ⟨g, 0, none⟩) n n, u 8, .int .i64 k, .int .i64 e, u 11, u 12, u 13, u 14, u 15, u 16, u 17, u 18, u 19, u 20, u 21, u 22, u 23, u 24, u 25, u 26, u 27, u 28, u 29, u 30, u 31, u 32, u 33, u 34, u 35, u 36, u 37, u 38, u 39, u 40, u 41, u 42, u 43, u 44, u 45, u 46, u 47, u 48, u 49, u 50, u 51, u 52, u 53, u 54, u 55, u 56, u 57, u 58, u 59, u 60, u 61, u 62, u 63, u 64, u 65, u 66, u 67, u 68, u 69, u 70, u 71, u 72, u 73, u 74, u 75, u 76, u 77, u 78, u 79, u 80, u 81, u 82, u 83, u 84, u 85, u 86, u 87, u 88, u 89, u 90, u 91, u 92, u 93, u 94, u 95, u 96, u 97, u 98, u 99, u 100, u 101, u 102, u 103, u 104, u 105, u 106, u 107, u 108, u 109, u 110, u 111, u 112, u 113, u 114, u 115, u 116, u 117, u 118, u 119, u 120, u 121, u 122, u 123, u 124, u 125, u 126, u 127, u 128, u 129, u 130, u 131, u 132, u 133, u 134, u 135, u 136, u 137, u 138, u 139, u 140, u 141, u 142, u 143, u 144, u 145, u 146, u 147, u 148, u 149, u 150, u 151, u 152, u 153, u 154, u 155, u 156, u 157, u 158, u 159, u 160, u 161, u 162, u 163, u 164, u 165, u 166, u 167, u 168, u 169, u 170, u 171, u 172, u 173, u 174, u 175, u 176, u 177, u 178, u 179, u 180, u 181, u 182, u 183, u 184, u 185, u 186, u 187, u 188, u 189, u 190, u 191, u 192, u 193, u 194, u 195, u 196, u 197, u 198, u 199, u 200, u 201, u 202, u 203, u 204, u 205, u 206, u 207, u 208, u 209, u 210, u 211, u 212, u 213, u 214, u 215, u 216, u 217, u 218, u 219, u 220, u 221, u 222, u 223, u 224, u 225, u 226, u 227, u 228, u 229, u 230, u 231, u 232, u 233, u 234, u 235, u 236, u 237, u 238, u 239, u 240, u 241, u 242, u 243], []⟩ := by
  obtain ⟨u, rfl⟩ := frame_lit h.defers h.size
  have e1 := h.s1
  have e2 := h.s2
  have e4 := h.s4
  have e7 := h.s7
  have e9 := h.s9
  have e10 := h.s10
  change u 1 = _ at e1
  change u 2 = _ at e2
  change u 4 = _ at e4
  change u 7 = _ at e7
  change u 9 = _ at e9
  change u 10 = _ at e10
  refine ⟨u, ?_⟩
  rw [← e1, ← e2, ← e4, ← e7, ← e9, ← e10]
  rfl
theorem Own.far {w : World} {o g : Nat} {v : V} (h : Own w o v) (hne : o ≠ g) (p : Nat) (u : Value) : Own (w.setCell ⟨g, p, none⟩ u) o v := (Below.heap_setCell _ _ _ _ hne).trans h
section
variable {w wr wr' : World} {X : Option Addr} {xs : List I} {c n g : Nat} {fv : Nat → V} {ft : Nat → Int}
theorem M32.below (h : M32 w X xs c n g fv ft wr) (hb : Below wr.heap.size wr wr') : M32 w X xs c n g fv ft wr' :=
  ⟨h.hp.below hb, h.ho.below hb, h.hr.below hb, h.hg, h.hb.trans (hb.mono h.hb.size)⟩
theorem M32.setT (h : M32 w X xs c n g fv ft wr) (A : Nat) (t : Int) : M32 w X xs c n g fv (upd ft A t) (wr.setCell ⟨g, A * 4 + 3, none⟩ (.int .i64 t)) := by
  have hg := h.hg
  have q : ∀ (o j : Nat) (v u : Value) (U : World), o < w.heap.size + 2 → U.cell? ⟨o, j, none⟩ = some v → ∀ p : Nat, (U.setCell ⟨g, p, none⟩ u).cell? ⟨o, j, none⟩ = some v := by
    intro o j v u U ho hc p
    exact (World.cell?_of_block (w := U) (a := ⟨o, j, none⟩) (Below.heap_setCell _ _ _ _ (by simp; omega))).trans hc
  refine ⟨⟨q _ _ _ _ _ (by omega) h.hp.1 _, q _ _ _ _ _ (by omega) h.hp.2 _⟩, ?_, h.hr.setT A t, hg, h.hb.setCell (by simp; omega) _⟩
  exact h.ho.far (by omega) _ _
theorem M32.setV (h : M32 w X xs c n g fv ft wr) (A : Nat) (v : V) : M32 w X xs c n g (upd fv A v) ft (((wr.setCell ⟨g, A * 4, none⟩ (.int .i64 v.k)).setCell ⟨g, A * 4 + 1, none⟩ (.int .i64 v.n)).setCell ⟨g, A * 4 + 2, none⟩ (.string v.s)) := by
  have hg := h.hg
  have q : ∀ (o j : Nat) (v u : Value) (U : World), o < w.heap.size + 2 → U.cell? ⟨o, j, none⟩ = some v → ∀ p : Nat, (U.setCell ⟨g, p, none⟩ u).cell? ⟨o, j, none⟩ = some v := by
    intro o j v u U ho hc p
    exact (World.cell?_of_block (w := U) (a := ⟨o, j, none⟩) (Below.heap_setCell _ _ _ _ (by simp; omega))).trans hc
  refine ⟨⟨q _ _ _ _ _ (by omega) (q _ _ _ _ _ (by omega) (q _ _ _ _ _ (by omega) h.hp.1 _) _) _, q _ _ _ _ _ (by omega) (q _ _ _ _ _ (by omega) (q _ _ _ _ _ (by omega) h.hp.2 _) _) _⟩, ?_, h.hr.setV A v, hg, ((h.hb.setCell (by simp; omega) _).setCell (by simp; omega) _).setCell (by simp; omega) _⟩
  exact ((h.ho.far (by omega) _ _).far (by omega) _ _).far (by omega) _ _
end
end Go.Proofs.Ytbibchinimhamaa
