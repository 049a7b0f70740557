/- vm's and the reference's small functions: truths, logic, columns. -/
import Derived.Test.YtbibchinimhamaaL
import Derived.Test.YtbibchinimhamaaI
import Derived.Deep.RegionHeld3
namespace Go.Proofs.Ytbibchinimhamaa
open Go.RowKit

set_option maxHeartbeats 400000 in
theorem truth51 (t : Bool) (w : World) : Calls Try.prog 51 #[.bool t] w fun e w' => e = .returned (.int .i64 (t01 t)) ∧ w = w' := by
  go_enter Try.func51, Try.ntmps51
  go_wp2
  all_goals go_ret
  all_goals simp_all [t01]
set_option maxHeartbeats 400000 in
theorem truth53 (t : Bool) (w : World) : Calls Try.prog 53 #[.bool t] w fun e w' => e = .returned (.int .i64 (t01 t)) ∧ w = w' := by
  go_enter Try.func53, Try.ntmps53
  go_wp2
  all_goals go_ret
  all_goals simp_all [t01]
set_option maxHeartbeats 400000 in
theorem logic54_and (a b : Int) (w : World) : Calls Try.prog 54 #[.string ⟨#[65, 78, 68]⟩, .int .i64 a, .int .i64 b] w fun e w' => e = .returned (.int .i64 (andO a b)) ∧ w = w' := by
  go_enter Try.func54, Try.ntmps54
  go_wp2_with (go_at_call 25; refine (and25 _ _ _).mono ?_; rintro e w' ⟨rfl, rfl⟩)
  go_ret
  exact ⟨rfl, rfl⟩
set_option maxHeartbeats 400000 in
theorem logic54_or (a b : Int) (w : World) : Calls Try.prog 54 #[.string ⟨#[79, 82]⟩, .int .i64 a, .int .i64 b] w fun e w' => e = .returned (.int .i64 (orO a b)) ∧ w = w' := by
  go_enter Try.func54, Try.ntmps54
  go_wp2_with (go_at_call 26; refine (or26 _ _ _).mono ?_; rintro e w' ⟨rfl, rfl⟩)
  go_ret
  exact ⟨rfl, rfl⟩

def er (R : List (List V)) (i : Nat) : List V := R.getD i []
/-- The slice at A holds the rows R. -/
def HasR (w : World) (A : Option Addr) (R : List (List V)) : Prop :=
  R ≠ [] → ∃ b o, A = some ⟨b, o, none⟩ ∧ ∀ i, i < R.length → ∃ A' c', w.cell? ⟨b, o + i, none⟩ = some (.slice A' (er R i).length c') ∧ HasV w A' (er R i) ∧ (er R i).length ≤ maxLen
theorem HasR.below {w w' : World} {A : Option Addr} {R : List (List V)} (h : HasR w A R) (hb : Below w.heap.size w w') : HasR w' A R := fun hn => by
  obtain ⟨b, o, e, hc⟩ := h hn
  refine ⟨b, o, e, fun i hi => ?_⟩
  obtain ⟨A', c', h1, h2, h3⟩ := hc i hi
  exact ⟨A', c', (hb.cell (p := ⟨b, _, none⟩) (lt_of_cell h1)).trans h1, h2.below hb, h3⟩
def wfR (R : List (List V)) : Prop := ∀ i, i < R.length → ∀ j, j < (er R i).length → (el (er R i) j).wf

def colO (R : List (List V)) (b c : Int) : V × Int :=
  if b.toNat < R.length ∧ c.toNat < (er R b.toNat).length ∧ fmd (el (er R b.toNat) c.toNat) = true then (el (er R b.toNat) c.toNat, 0) else (zV, 1)
theorem colO_no {R : List (List V)} {b c : Nat} (h : ¬ (b < R.length ∧ c < (er R b).length ∧ fmd (el (er R b) c) = true)) : colO R b c = (zV, 1) := by
  unfold colO; simp only [Int.toNat_natCast]; rw [if_neg h]
theorem colO_yes {R : List (List V)} {b c : Nat} (h : b < R.length ∧ c < (er R b).length ∧ fmd (el (er R b) c) = true) : colO R b c = (el (er R b) c, 0) := by
  unfold colO; simp only [Int.toNat_natCast]; rw [if_pos h]

set_option maxHeartbeats 1000000 in
theorem column50 (A : Option Addr) (R : List (List V)) (cR : Nat) (b c : Int) (w : World) (hR : HasR w A R) (hl : R.length ≤ maxLen) (hw : wfR R) (hb : 0 ≤ b) (hc : 0 ≤ c) :
    Calls Try.prog 50 #[.slice A R.length cR, .int .i64 b, .int .i64 c] w fun e w' => e = .returned (.tuple #[(colO R b c).1.val, .int .i64 (colO R b c).2]) ∧ Below w.heap.size w w' := by
  obtain ⟨b, rfl⟩ := Int.eq_ofNat_of_zero_le hb
  obtain ⟨c, rfl⟩ := Int.eq_ofNat_of_zero_le hc
  unfold maxLen at hl
  clear hb hc
  by_cases h1 : b < R.length
  · obtain ⟨b', o, rfl, hcell⟩ := hR (by intro h; subst h; simp at h1)
    obtain ⟨A', c', r0, hV, hl2⟩ := hcell b h1
    have HWF := Lib.hid (hw b h1)
    have z0 := lt_of_cell r0
    unfold maxLen at hl2
    clear hR hcell hw
    by_cases h2 : c < (er R b).length
    · obtain ⟨B', o', rfl, hvc⟩ := hV (by intro h; rw [h] at h2; simp at h2)
      obtain ⟨x0, x1, x2⟩ := hvc c h2
      have z1 := lt_of_cell x0
      have hs := (HWF.out c h2).2.2
      clear hV hvc
      go_enter Try.func50, Try.ntmps50
      go_wp2_with fail
      refine (formed19 (el (er R b) c) _ hs).mono ?_
      rintro e w1 ⟨rfl, hb1⟩
      have hg : Below w.heap.size w (w.alloc (.cells #[.int .i64 0, .int .i64 0, .string ⟨#[]⟩] 33)) := by go_grown
      have HO := Lib.hid ((Own.new w zV).below hb1)
      have HB := Lib.hid (hg.trans (hb1.mono (by simp)))
      clear hg hb1
      have q0 := (HB.out.cell (p := ⟨b', o + b, none⟩) z0).trans r0
      obtain ⟨y0, y1, y2⟩ := (show VAt w1 B' (o' + c * 3) (el (er R b) c) from VAt.below ⟨x0, x1, x2⟩ HB.out)
      clear r0 x0 x1 x2 z0 z1
      obtain ⟨s0, s1, s2⟩ := HO.out.box
      have f0 := HO.out.free 0
      have f1 := HO.out.free 1
      have f2 := HO.out.free 2
      cases hf : fmd (el (er R b) c) with
      | false =>
        have HN := Lib.hid (colO_no (R := R) (b := b) (c := c) (by rw [hf]; simp))
        go_wp2
        refine bodyPost_ret (v := .tuple #[V.val zV, .int .i64 1]) (by simp [results, Try.results50, go_sem, zV, s0, s1, s2]) rfl ⟨by rw [HN.out], ?_⟩
        exact below3 HB.out (Nat.le_refl _) _ _ _
      | true =>
        have HN := Lib.hid (colO_yes (R := R) (b := b) (c := c) ⟨h1, h2, hf⟩)
        go_wp2
        refine bodyPost_ret (v := .tuple #[V.val (el (er R b) c), .int .i64 0]) (by simp [results, Try.results50, go_sem, s0, s1, s2]) rfl ⟨by rw [HN.out], ?_⟩
        exact below3 HB.out (Nat.le_refl _) _ _ _
    · have HN := Lib.hid (colO_no (R := R) (b := b) (c := c) (by omega))
      clear hV
      go_enter Try.func50, Try.ntmps50
      go_wp2
      refine bodyPost_ret (v := .tuple #[V.val zV, .int .i64 1]) (by simp [results, Try.results50, go_sem, zV]) rfl ⟨by rw [HN.out], by go_grown⟩
  · have HN := Lib.hid (colO_no (R := R) (b := b) (c := c) (by omega))
    clear hR hw
    go_enter Try.func50, Try.ntmps50
    go_wp2
    refine bodyPost_ret (v := .tuple #[V.val zV, .int .i64 1]) (by simp [results, Try.results50, go_sem, zV]) rfl ⟨by rw [HN.out], by go_grown⟩

end Go.Proofs.Ytbibchinimhamaa
