/- bytes.Count, bytes.Index at the one byte 0, walked; the plain function 'rep' (each 0 becomes 0, 255). -/
import Derived.Test.YtbibchinimhamaaDoorProg
import Derived.Test.YtbibchinimhamaaDoorWWords
import Derived.Shelf.Bytes.SlCountOne
import Derived.Lib.BytesEntry
import Derived.Lib.Bytes
import Derived.Lib.SlBuf
import Derived.Laws.CopyOwn
import Derived.WalkKit
import Derived.Lib.Walk
import Derived.Laws.BytesArg
namespace Go.Proofs.YtbibchinimhamaaDoor
open Go.RowKit

/-- Each 0 becomes 0, 255. -/
def rep : List UInt8 → List UInt8
  | [] => []
  | x :: r => if x = 0 then 0 :: 255 :: rep r else x :: rep r
theorem rep_append (a b : List UInt8) : rep (a ++ b) = rep a ++ rep b := by
  induction a with
  | nil => rfl
  | cons x a ih => simp only [List.cons_append, rep]; split <;> simp [ih]
theorem rep_clean {a : List UInt8} (h : a.count 0 = 0) : rep a = a := by
  induction a with
  | nil => rfl
  | cons x a ih =>
    rw [List.count_cons] at h
    have hx : ¬ x = 0 := by intro e; subst e; simp at h
    rw [rep, if_neg hx, ih (by omega)]
theorem rep_length (a : List UInt8) : (rep a).length = a.length + a.count 0 := by
  induction a with
  | nil => rfl
  | cons x a ih =>
    rw [rep, List.count_cons]
    by_cases h : x = 0
    · rw [if_pos h]; subst h; simp [ih]; omega
    · rw [if_neg h]; simp [ih, h]; omega

theorem index_split : ∀ l : List UInt8, 0 < l.count 0 → ∃ pre post, l = pre ++ 0 :: post ∧ pre.count 0 = 0 ∧ Lib.indexByte l 0 = (pre.length : Int) ∧ post.count 0 + 1 = l.count 0
  | [], h => by simp at h
  | x :: r, h => by
    by_cases hx : x = 0
    · subst hx
      exact ⟨[], r, rfl, rfl, by simp [Lib.indexByte], by simp⟩
    · have hc : (x :: r).count 0 = r.count 0 := by rw [List.count_cons]; simp [hx]
      obtain ⟨pre, post, e, h0, hi, hp⟩ := index_split r (by omega)
      refine ⟨x :: pre, post, by rw [e]; rfl, by rw [List.count_cons]; simp [hx, h0], ?_, by omega⟩
      rw [Lib.indexByte, hi]
      have hb : (x == 0) = false := beq_eq_false_iff_ne.2 hx
      have hn : ((pre.length : Int) == -1) = false := beq_eq_false_iff_ne.2 (by omega)
      rw [hb, hn]
      simp

def numsL (l : List UInt8) : List Int := l.map fun b => (b.toNat : Int)
theorem numsL_length (l : List UInt8) : (numsL l).length = l.length := by simp [numsL]
theorem bytesOf_numsL (l : List UInt8) : Lib.bytesOf (numsL l) = l := by
  unfold Lib.bytesOf numsL
  rw [List.map_map]
  conv => rhs; rw [← List.map_id l]
  apply List.map_congr_left
  intro b _
  apply UInt8.toNat_inj.mp
  simp
/-- A row of bytes that is read. -/
def HasL (w : World) (b o : Nat) (l : List UInt8) : Prop := ∀ j x, l[j]? = some x → w.cell? ⟨b, o + j, none⟩ = some (.int .u8 (x.toNat : Int))
theorem HasL.nums {w : World} {b o : Nat} {l : List UInt8} (h : HasL w b o l) : ∀ i, i < l.length → w.cell? ⟨b, o + i, none⟩ = some (.int .u8 ((numsL l).getD i 0)) := by
  intro i hi
  rw [h i l[i] (List.getElem?_eq_getElem hi)]
  simp [numsL, List.getD_eq_getElem?_getD, List.getElem?_eq_getElem hi]

set_option maxHeartbeats 2000000 in
set_option maxRecDepth 1000000 in
theorem count33 (b n c b2 d : Nat) (l : List UInt8) (w : World) (hl : l.length = n) (hc : HasL w b 0 l) (hc2 : w.cell? ⟨b2, 0, none⟩ = some (.int .u8 0)) :
    Calls Tryd.prog 33 #[.slice (some ⟨b, 0, none⟩) n c, .slice (some ⟨b2, 0, none⟩) 1 d] w fun e w' => e = .returned (.int .i64 (l.count 0 : Nat)) ∧ w' = w := by
  have hr := Lib.run_countSlice (P := Tryd.prog) w b 0 n c (numsL l) (by rw [numsL_length, hl]) (by intro i hi; exact hc.nums i (by omega)) 0
  rw [bytesOf_numsL] at hr
  clear hc
  go_enter Tryd.func33, Tryd.ntmps33
  go_wp2
  rw [run_callFunc_extern Tryd.func42 (by kernel_rfl) (by kernel_rfl) (by kernel_rfl) (e := Extern.BytealgCount.count) (by kernel_rfl), hr]
  simp only [Result.andThen]
  rw [Oper.upon_value]
  go_wp2
  go_ret
  exact ⟨rfl, rfl⟩

set_option maxHeartbeats 2000000 in
set_option maxRecDepth 1000000 in
theorem indexByte43 (b o n c : Nat) (l : List UInt8) (w : World) (hl : l.length = n) (hc : HasL w b o l) :
    Calls Tryd.prog 43 #[.slice (some ⟨b, o, none⟩) n c, .int .u8 0] w fun e w' => e = .returned (.int .i64 (Lib.indexByte l 0)) ∧ w' = w := by
  have hr := Lib.run_indexByteSlice (P := Tryd.prog) w b o n c (numsL l) (by rw [numsL_length, hl]) (by intro i hi; exact hc.nums i (by omega)) 0
  rw [bytesOf_numsL] at hr
  clear hc
  go_enter Tryd.func43, Tryd.ntmps43
  go_wp2
  rw [run_callFunc_extern Tryd.func50 (by kernel_rfl) (by kernel_rfl) (by kernel_rfl) (e := Extern.BytealgIndexByte.indexByte) (by kernel_rfl), hr]
  simp only [Result.andThen]
  rw [Oper.upon_value]
  go_wp2
  go_ret
  exact ⟨rfl, rfl⟩

set_option maxHeartbeats 2000000 in
set_option maxRecDepth 1000000 in
theorem index34 (b o n c b2 d : Nat) (l : List UInt8) (w : World) (hl : l.length = n) (hc : HasL w b o l) (hc2 : w.cell? ⟨b2, 0, none⟩ = some (.int .u8 0)) :
    Calls Tryd.prog 34 #[.slice (some ⟨b, o, none⟩) n c, .slice (some ⟨b2, 0, none⟩) 1 d] w fun e w' => e = .returned (.int .i64 (Lib.indexByte l 0)) ∧ w' = w := by
  have hcon := indexByte43 b o n c l w hl hc
  clear hc
  go_enter Tryd.func34, Tryd.ntmps34
  go_wp2_with (go_at_call 43; refine hcon.mono ?_; rintro e w' ⟨rfl, rfl⟩)
  go_ret
  exact ⟨rfl, rfl⟩
end Go.Proofs.YtbibchinimhamaaDoor
