/- ValueOrders: the plain law of the two orders, and the walk of the law. -/
import Derived.Test.YtbibchinimhamaaF
import Derived.Deep.RegionHeld3
namespace Go.Proofs.Ytbibchinimhamaa
open Go.RowKit

theorem cmpI_neg (a b : Int) : cmpI b a = - cmpI a b := by
  rcases Int.lt_trichotomy a b with h | h | h
  · rw [cmpI_lt h, cmpI_gt h]; rfl
  · subst h; rw [cmpI_eq]; rfl
  · rw [cmpI_gt h, cmpI_lt h]
theorem cmpS_neg (a b : ByteArray) : cmpS b a = - cmpS a b := by
  rcases bytesLess_or a.toList b.toList with h | h | h
  · rw [cmpS_lt h, cmpS_gt h]; rfl
  · rw [cmpS_eq h, cmpS_eq h.symm]; rfl
  · rw [cmpS_gt h, cmpS_lt h]
theorem cmpI_bd (a b : Int) : -1 ≤ cmpI a b ∧ cmpI a b ≤ 1 := by
  unfold cmpI; split
  · omega
  · split <;> omega
theorem cmpS_bd (a b : ByteArray) : -1 ≤ cmpS a b ∧ cmpS a b ≤ 1 := by
  unfold cmpS; split
  · omega
  · split <;> omega
theorem or3_neg (a b c : Int) : or3 (-a) (-b) (-c) = - or3 a b c := by
  unfold or3
  by_cases h : a = 0
  · subst h
    by_cases h2 : b = 0
    · subst h2; rfl
    · rw [if_pos (by omega), if_neg (by omega), if_pos rfl, if_neg h2]
  · rw [if_neg (by omega), if_neg h]
theorem ord_neg (a b : V) : ord b a = - ord a b := by
  unfold ord
  rw [cmpI_neg a.k b.k, cmpI_neg a.n b.n, cmpS_neg a.s b.s, or3_neg]
theorem ord_bd (a b : V) : -1 ≤ ord a b ∧ ord a b ≤ 1 := by
  have h1 := cmpI_bd a.k b.k
  have h2 := cmpI_bd a.n b.n
  have h3 := cmpS_bd a.s b.s
  unfold ord or3
  split
  · split
    · exact h3
    · exact h2
  · exact h1
theorem ord_self (a : V) : ord a a = 0 := by have := ord_neg a a; omega
theorem rowsO_neg : ∀ x y : List V, rowsO y x = - rowsO x y
  | [], [] => rfl
  | [], _ :: _ => rfl
  | _ :: _, [] => rfl
  | a :: x, b :: y => by
    rw [rowsO, rowsO, rowsO_neg x y, ord_neg a b]
    by_cases h : ord a b = 0
    · rw [if_pos (by omega), if_pos h]
    · rw [if_neg (by omega), if_neg h]
theorem rowsO_bd : ∀ x y : List V, -1 ≤ rowsO x y ∧ rowsO x y ≤ 1
  | [], [] => by simp [rowsO]
  | [], _ :: _ => by simp [rowsO]
  | _ :: _, [] => by simp [rowsO]
  | a :: x, b :: y => by
    have h1 := rowsO_bd x y
    have h2 := ord_bd a b
    rw [rowsO]
    split
    · exact h1
    · exact h2

theorem ord_rev (a b : V) : ord b a = IntKind.i64.wrap (-ord a b) := by
  have h := ord_bd a b
  rw [ord_neg a b, IntWalk.i64_in _ (by omega)]
theorem rowsO_rev (x y : List V) : rowsO y x = IntKind.i64.wrap (-rowsO x y) := by
  have h := rowsO_bd x y
  rw [rowsO_neg x y, IntWalk.i64_in _ (by omega)]
theorem order17_rev (a b : V) (w : World) : Calls Try.prog 17 #[b.val, a.val] w fun e w' => e = .returned (.int .i64 (IntKind.i64.wrap (-ord a b))) ∧ Below w.heap.size w w' := by
  rw [← ord_rev]; exact order17 b a w
theorem order17_self (a : V) (w : World) : Calls Try.prog 17 #[a.val, a.val] w fun e w' => e = .returned (.int .i64 0) ∧ Below w.heap.size w w' := by
  have h := order17 a a w
  rw [ord_self] at h; exact h
theorem rows18_rev (A B : Option Addr) (x y : List V) (cx cy : Nat) (w : World) (hx : HasV w A x) (hy : HasV w B y) (hlx : x.length ≤ maxLen) (hly : y.length ≤ maxLen) :
    Calls Try.prog 18 #[.slice B y.length cy, .slice A x.length cx] w fun e w' => e = .returned (.int .i64 (IntKind.i64.wrap (-rowsO x y))) ∧ Below w.heap.size w w' := by
  rw [← rowsO_rev]; exact rows18 B A y x cy cx w hy hx hly hlx

/-- What the law's last statement reads. -/
theorem keep6 {w U U' : World} {g : Nat} {a b : V} (h : (U.cell? ⟨g, 0, none⟩ = some (.int .i64 a.k) ∧ U.cell? ⟨g, 1, none⟩ = some (.int .i64 a.n) ∧ U.cell? ⟨g, 2, none⟩ = some (.string a.s)) ∧
      (U.cell? ⟨g + 1, 0, none⟩ = some (.int .i64 b.k) ∧ U.cell? ⟨g + 1, 1, none⟩ = some (.int .i64 b.n) ∧ U.cell? ⟨g + 1, 2, none⟩ = some (.string b.s)) ∧ Hid (Below w.heap.size w U)) (hb : Below U.heap.size U U') :
    (U'.cell? ⟨g, 0, none⟩ = some (.int .i64 a.k) ∧ U'.cell? ⟨g, 1, none⟩ = some (.int .i64 a.n) ∧ U'.cell? ⟨g, 2, none⟩ = some (.string a.s)) ∧
      (U'.cell? ⟨g + 1, 0, none⟩ = some (.int .i64 b.k) ∧ U'.cell? ⟨g + 1, 1, none⟩ = some (.int .i64 b.n) ∧ U'.cell? ⟨g + 1, 2, none⟩ = some (.string b.s)) ∧ Hid (Below w.heap.size w U') :=
  ⟨BoxV.below h.1 hb, BoxV.below h.2.1 hb, h.2.2.out.trans (hb.mono h.2.2.out.size)⟩

set_option maxHeartbeats 1000000 in
theorem law5 (a b : V) (A B : Option Addr) (x y : List V) (cx cy : Nat) (w : World) (has : a.s.size ≤ maxLen) (hx : HasV w A x) (hy : HasV w B y) (hlx : x.length ≤ maxLen) (hly : y.length ≤ maxLen) :
    Calls Try.prog 5 #[a.val, b.val, .slice A x.length cx, .slice B y.length cy] w fun e w' => e = .returned (.bool true) ∧ Below w.heap.size w w' := by
  have HX := Lib.hid hx
  have HY := Lib.hid hy
  clear hx hy
  go_enter Try.func5, Try.ntmps5
  go_wp2_with fail
  refine (awake14 _).mono ?_
  rintro e w1 ⟨rfl, hb1⟩
  have H1 := Lib.hid ((Two.start w a b).below hb1)
  clear hb1
  obtain ⟨a0, a1, a2⟩ := H1.out.ha
  obtain ⟨b0, b1, b2⟩ := H1.out.hb
  by_cases hl : x.length ≤ 1000 ∧ y.length ≤ 1000
  · obtain ⟨hl1, hl2⟩ := hl
    go_wp2_with fail
    refine (order17 a b _).mono ?_
    rintro e w2 ⟨rfl, hb2⟩
    have H2 := Lib.hid (H1.out.below hb2)
    clear hb2 H1 a0 a1 a2 b0 b1 b2
    go_wp2_with fail
    refine (rows18 A B x y cx cy _ (HX.out.below H2.out.hw) (HY.out.below H2.out.hw) hlx hly).mono ?_
    rintro e w3 ⟨rfl, hb3⟩
    have H3 := Lib.hid (H2.out.below hb3)
    clear hb3 H2
    have HS : (w3.cell? ⟨w.heap.size, 0, none⟩ = some (.int .i64 a.k) ∧ w3.cell? ⟨w.heap.size, 1, none⟩ = some (.int .i64 a.n) ∧ w3.cell? ⟨w.heap.size, 2, none⟩ = some (.string a.s)) ∧
      (w3.cell? ⟨w.heap.size + 1, 0, none⟩ = some (.int .i64 b.k) ∧ w3.cell? ⟨w.heap.size + 1, 1, none⟩ = some (.int .i64 b.n) ∧ w3.cell? ⟨w.heap.size + 1, 2, none⟩ = some (.string b.s)) ∧ Hid (Below w.heap.size w w3) := ⟨H3.out.ha, H3.out.hb, H3.out.hw⟩
    clear H3
    go_wp2_with fail
    go_region_held3 (fun U => (U.cell? ⟨w.heap.size, 0, none⟩ = some (.int .i64 a.k) ∧ U.cell? ⟨w.heap.size, 1, none⟩ = some (.int .i64 a.n) ∧ U.cell? ⟨w.heap.size, 2, none⟩ = some (.string a.s)) ∧
      (U.cell? ⟨w.heap.size + 1, 0, none⟩ = some (.int .i64 b.k) ∧ U.cell? ⟨w.heap.size + 1, 1, none⟩ = some (.int .i64 b.n) ∧ U.cell? ⟨w.heap.size + 1, 2, none⟩ = some (.string b.s)) ∧ Hid (Below w.heap.size w U))
      (first | exact HS | exact keep6 HS ((Below.refl _ _).drew) | exact keep6 (by assumption) (by assumption))
      (first
        | (go_at_call 19; refine (formed19 a _ has).mono ?_; rintro e w' ⟨rfl, hb⟩)
        | (go_at_call 20; refine (formed20 a _ has).mono ?_; rintro e w' ⟨rfl, hb⟩)
        | (go_at_call 21; refine (order21 a b _).mono ?_; rintro e w' ⟨rfl, hb⟩)
        | (go_at_call 22; refine (rows22 A B x y cx cy _ (HX.out.below ?_) (HY.out.below ?_) hlx hly).mono ?_; (exact (‹_ ∧ _ ∧ Hid (Below w.heap.size w _)›).2.2.out); (exact (‹_ ∧ _ ∧ Hid (Below w.heap.size w _)›).2.2.out); rintro e w' ⟨rfl, hb⟩)
        | (go_at_call 18; refine (rows18_rev A B x y cx cy _ (HX.out.below ?_) (HY.out.below ?_) hlx hly).mono ?_; (exact (‹_ ∧ _ ∧ Hid (Below w.heap.size w _)›).2.2.out); (exact (‹_ ∧ _ ∧ Hid (Below w.heap.size w _)›).2.2.out); rintro e w' ⟨rfl, hb⟩)
        | (go_at_call 17; ((with_reducible refine (order17_rev a b _).mono ?_); rintro e w' ⟨rfl, hb⟩))
        | (go_at_call 17; ((with_reducible refine (order17_self a _).mono ?_); rintro e w' ⟨rfl, hb⟩)))
    go_wp2
    go_ret
    refine ⟨by simp, ?_⟩
    exact (‹(_ ∧ _ ∧ _) ∧ (_ ∧ _ ∧ _) ∧ Hid (Below w.heap.size w _)›).2.2.out
  · have hb0 : Below w.heap.size w w1 := H1.out.hw
    have HB := Lib.hid hb0
    clear hb0
    go_wp2_with (go_at_call 14; refine (awake14 _).mono ?_; rintro e w2 ⟨rfl, hb2⟩; have H2 := Lib.hid (HB.out.trans (hb2.mono HB.out.size)); clear hb2)
    all_goals go_ret
    all_goals exact ⟨rfl, by assumption⟩
end Go.Proofs.Ytbibchinimhamaa
