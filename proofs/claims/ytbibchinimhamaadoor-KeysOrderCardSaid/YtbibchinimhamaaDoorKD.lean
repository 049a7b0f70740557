/- Keys are ordered as rows are; a beginning's key is the beginning of the key. -/
import Derived.Test.YtbibchinimhamaaDoorKB
import Derived.Test.YtbibchinimhamaaDoorOE
namespace Go.Proofs.YtbibchinimhamaaDoor.SK
open Go.RowKit Go.Proofs.YtbibchinimhamaaDoorW.PrintWords Go.Proofs.YtbibchinimhamaaDoorW.PrintMore
set_option linter.unusedVariables false
set_option linter.unusedSimpArgs false

/-! ### numbers -/
theorem pow_step (u v : Int) (hu : 0 ≤ u) (hv : 0 ≤ v) : ∀ i : Nat, i ≤ 7 → u % 2 ^ (8 * (i + 1)) < v % 2 ^ (8 * (i + 1)) →
    u / 2 ^ (8 * i) % 256 < v / 2 ^ (8 * i) % 256 ∨ (u / 2 ^ (8 * i) % 256 = v / 2 ^ (8 * i) % 256 ∧ u % 2 ^ (8 * i) < v % 2 ^ (8 * i))
  | 0, _, h => by simp only [Nat.reduceMul, Nat.reduceAdd, Int.reducePow] at h ⊢; omega
  | 1, _, h => by simp only [Nat.reduceMul, Nat.reduceAdd, Int.reducePow] at h ⊢; omega
  | 2, _, h => by simp only [Nat.reduceMul, Nat.reduceAdd, Int.reducePow] at h ⊢; omega
  | 3, _, h => by simp only [Nat.reduceMul, Nat.reduceAdd, Int.reducePow] at h ⊢; omega
  | 4, _, h => by simp only [Nat.reduceMul, Nat.reduceAdd, Int.reducePow] at h ⊢; omega
  | 5, _, h => by simp only [Nat.reduceMul, Nat.reduceAdd, Int.reducePow] at h ⊢; omega
  | 6, _, h => by simp only [Nat.reduceMul, Nat.reduceAdd, Int.reducePow] at h ⊢; omega
  | 7, _, h => by simp only [Nat.reduceMul, Nat.reduceAdd, Int.reducePow] at h ⊢; omega

theorem cons_lt {a b : Int} {x y : List Int} (h : a < b) : a :: x < b :: y := List.cons_lt_cons_iff.2 (.inl h)
theorem cons_eq_lt {a : Int} {x y : List Int} (h : x < y) : a :: x < a :: y := List.cons_lt_cons_iff.2 (.inr ⟨rfl, h⟩)
theorem append_lt {x y : List Int} (h : x < y) : ∀ l : List Int, l ++ x < l ++ y
  | [] => h
  | a :: l => cons_eq_lt (append_lt h l)

theorem encT_lt (u v : Int) (hu : 0 ≤ u) (hv : 0 ≤ v) (p q : List Int) : ∀ i : Nat, i ≤ 8 → u % 2 ^ (8 * i) < v % 2 ^ (8 * i) → encT u i ++ p < encT v i ++ q
  | 0, _, h => by
    have h1 : u % 2 ^ (8 * 0) = 0 := by simp
    have h2 : v % 2 ^ (8 * 0) = 0 := by simp
    omega
  | i + 1, hi, h => by
    have hs : ∀ w : Int, shr .u64 w (8 * (i : Int)) = w / 2 ^ (8 * i) := fun w => by
      unfold shr
      rw [show (8 * (i : Int)).toNat = 8 * i by omega, show IntKind.u64.bits = 64 from rfl, Nat.min_eq_left (by omega)]
    rw [encT, encT, List.cons_append, List.cons_append, hs, hs]
    rcases pow_step u v hu hv i (by omega) h with h1 | ⟨h1, h2⟩
    · exact cons_lt h1
    · rw [h1]
      exact cons_eq_lt (encT_lt u v hu hv p q i (by omega) h2)

/-! ### texts -/
theorem text_lt (p q : List Int) : ∀ s t : List Int, (∀ x ∈ s, 0 ≤ x) → (∀ x ∈ t, 0 ≤ x) → s < t → repI s ++ 0 :: 0 :: p < repI t ++ 0 :: 0 :: q
  | [], [], _, _, h => absurd h (List.lt_irrefl [])
  | [], y :: t, _, ht, _ => by
    have hy := ht y List.mem_cons_self
    rw [repI, repI]
    by_cases h0 : y = 0
    · rw [if_pos h0]
      exact cons_eq_lt (cons_lt (by omega))
    · rw [if_neg h0]
      exact cons_lt (by omega)
  | x :: s, [], _, _, h => absurd h (List.not_lt_nil _)
  | x :: s, y :: t, hs, ht, h => by
    have hx := hs x List.mem_cons_self
    have hy := ht y List.mem_cons_self
    rcases List.cons_lt_cons_iff.1 h with h1 | ⟨rfl, h1⟩
    · rw [repI, repI]
      by_cases h0 : x = 0
      · rw [if_pos h0, if_neg (by omega)]
        exact cons_lt (by omega)
      · rw [if_neg h0, if_neg (by omega)]
        exact cons_lt h1
    · have ih := text_lt p q s t (fun z hz => hs z (List.mem_cons_of_mem _ hz)) (fun z hz => ht z (List.mem_cons_of_mem _ hz)) h1
      rw [repI, repI]
      by_cases h0 : x = 0
      · rw [if_pos h0, if_pos h0]
        exact cons_eq_lt (cons_eq_lt ih)
      · rw [if_neg h0, if_neg h0]
        exact cons_eq_lt ih

theorem bytes_lt : ∀ (a b : List UInt8), a < b → (a.map fun x => (x.toNat : Int)) < (b.map fun x => (x.toNat : Int))
  | [], [], h => absurd h (List.lt_irrefl [])
  | [], y :: b, _ => List.nil_lt_cons _ _
  | x :: a, [], h => absurd h (List.not_lt_nil _)
  | x :: a, y :: b, h => by
    rcases List.cons_lt_cons_iff.1 h with h1 | ⟨rfl, h1⟩
    · exact cons_lt (show (x.toNat : Int) < (y.toNat : Int) by have : x.toNat < y.toNat := h1; omega)
    · exact cons_eq_lt (bytes_lt a b h1)
theorem bytesOf_nonneg (s : ByteArray) : ∀ x ∈ bytesOf s, 0 ≤ x := by
  intro x hx
  obtain ⟨y, _, rfl⟩ := List.mem_map.1 hx
  omega

/-! ### values -/
def inI' (v : S38) : Prop := -9223372036854775808 ≤ v.f1 ∧ v.f1 ≤ 9223372036854775807
theorem kinds {v : S38} (h : fmdV v = true) : (v.f0 = 0 ∧ v.f1 = 0 ∧ v.f2.toList = []) ∨ (v.f0 = 1 ∧ v.f2.toList = []) ∨ (v.f0 = 2 ∧ v.f1 = 0) := by
  by_cases h0 : v.f0 = 0
  · unfold fmdV at h
    rw [if_pos h0] at h
    left
    have h' : v.f1 = 0 ∧ v.f2.toList = [] := by simpa using h
    exact ⟨h0, h'.1, h'.2⟩
  by_cases h1 : v.f0 = 1
  · unfold fmdV at h
    rw [if_neg h0, if_pos h1] at h
    right; left
    exact ⟨h1, by simpa using h⟩
  · obtain ⟨h2, h3, _⟩ := fmd_two h h0 h1
    exact .inr (.inr ⟨h2, h3⟩)
theorem toList_inj {a b : ByteArray} (h : a.toList = b.toList) : a = b := by
  rw [ByteArray.toList_eq, ByteArray.toList_eq] at h
  apply ByteArray.ext
  exact Array.toList_inj.1 h

theorem kind_lt {a b : S38} (ha : fmdV a = true) (hb : fmdV b = true) (h : a.f0 < b.f0) (p q : List Int) : encV a ++ p < encV b ++ q := by
  rcases kinds ha with ⟨ka, _⟩ | ⟨ka, _⟩ | ⟨ka, _⟩ <;> rcases kinds hb with ⟨kb, _⟩ | ⟨kb, _⟩ | ⟨kb, _⟩ <;> first
    | omega
    | (unfold encV; simp only [ka, kb]; exact cons_lt (by decide))
theorem num_lt {a b : S38} (ha : fmdV a = true) (hb : fmdV b = true) (hia : inI' a) (hib : inI' b) (h : a.f0 = b.f0) (hn : a.f1 < b.f1) (p q : List Int) : encV a ++ p < encV b ++ q := by
  have h1 : a.f0 = 1 := by
    rcases kinds ha with ⟨ka, na, _⟩ | ⟨ka, _⟩ | ⟨ka, na⟩ <;> rcases kinds hb with ⟨kb, nb, _⟩ | ⟨kb, _⟩ | ⟨kb, nb⟩ <;> omega
  have h1b : b.f0 = 1 := by omega
  unfold encV
  rw [if_neg (by omega), if_pos h1, if_neg (by omega), if_pos h1b]
  have e := hia; have e2 := hib
  unfold inI' at e e2
  have hp : (2 : Int) ^ (8 * 8) = 18446744073709551616 := by decide
  exact cons_eq_lt (encT_lt (ub a.f1) (ub b.f1) (by unfold ub; omega) (by unfold ub; omega) p q 8 (Nat.le_refl _) (by rw [hp]; unfold ub; omega))
theorem str_lt {a b : S38} (ha : fmdV a = true) (hb : fmdV b = true) (h : a.f0 = b.f0) (hs : a.f2.toList < b.f2.toList) (p q : List Int) : encV a ++ p < encV b ++ q := by
  have h2 : b.f0 = 2 := by
    rcases kinds hb with ⟨kb, _, nb⟩ | ⟨kb, nb⟩ | ⟨kb, _⟩
    · rw [nb] at hs; exact absurd hs (List.not_lt_nil _)
    · rw [nb] at hs; exact absurd hs (List.not_lt_nil _)
    · exact kb
  unfold encV
  rw [if_neg (by omega), if_neg (by omega), if_neg (by omega), if_neg (by omega)]
  rw [ByteArray.toList_eq, ByteArray.toList_eq] at hs
  have := text_lt p q (bytesOf a.f2) (bytesOf b.f2) (bytesOf_nonneg _) (bytesOf_nonneg _) (bytes_lt _ _ hs)
  simpa using cons_eq_lt (a := 32) this

theorem or3_zero {a b c : Int} (h : or3 a b c = 0) : a = 0 ∧ b = 0 ∧ c = 0 := by
  unfold or3 at h
  split at h <;> (try split at h) <;> simp_all
theorem ordV {a b : S38} (ha : fmdV a = true) (hb : fmdV b = true) (hia : inI' a) (hib : inI' b) :
    (ord (toV a) (toV b) = -1 ∧ ∀ p q, encV a ++ p < encV b ++ q) ∨ (ord (toV a) (toV b) = 0 ∧ encV a = encV b) ∨ (ord (toV a) (toV b) = 1 ∧ ∀ p q, encV b ++ q < encV a ++ p) := by
  unfold ord
  show (or3 (cmpI a.f0 b.f0) (cmpI a.f1 b.f1) (cmpS a.f2 b.f2) = -1 ∧ _) ∨ (or3 (cmpI a.f0 b.f0) (cmpI a.f1 b.f1) (cmpS a.f2 b.f2) = 0 ∧ _) ∨ (or3 (cmpI a.f0 b.f0) (cmpI a.f1 b.f1) (cmpS a.f2 b.f2) = 1 ∧ _)
  rcases Int.lt_trichotomy a.f0 b.f0 with hk | hk | hk
  · left
    rw [cmpI_lt hk]
    exact ⟨rfl, kind_lt ha hb hk⟩
  · rw [hk, cmpI_eq]
    rcases Int.lt_trichotomy a.f1 b.f1 with hn | hn | hn
    · left
      rw [cmpI_lt hn]
      exact ⟨rfl, num_lt ha hb hia hib hk hn⟩
    · rw [hn, cmpI_eq]
      rcases bytesLess_or a.f2.toList b.f2.toList with hs | hs | hs
      · left
        refine ⟨by unfold cmpS; rw [if_pos hs]; rfl, ?_⟩
        rw [bytesLess_lt, decide_eq_true_eq] at hs
        exact str_lt ha hb hk hs
      · right; left
        have e := toList_inj hs
        refine ⟨by rw [e]; unfold cmpS; rw [bytesLess_irrefl]; rfl, ?_⟩
        unfold encV
        rw [hk, hn, e]
      · right; right
        refine ⟨by unfold cmpS; rw [not_bytesLess_both _ _ hs, if_pos hs]; rfl, ?_⟩
        rw [bytesLess_lt, decide_eq_true_eq] at hs
        intro p q
        exact str_lt hb ha hk.symm hs q p
    · right; right
      rw [cmpI_gt hn]
      exact ⟨rfl, fun p q => num_lt hb ha hib hia hk.symm hn q p⟩
  · right; right
    rw [cmpI_gt hk]
    exact ⟨rfl, fun p q => kind_lt hb ha hk q p⟩

theorem encV_pos (v : S38) : ∃ x r, encV v = x :: r := by
  unfold encV
  split
  · exact ⟨_, _, rfl⟩
  · split
    · exact ⟨_, _, rfl⟩
    · exact ⟨_, _, rfl⟩

theorem ordR : ∀ (a b : List S38), allF a = true → allF b = true → (∀ v ∈ a, inI' v) → (∀ v ∈ b, inI' v) →
    (rowsO (a.map toV) (b.map toV) = -1 ∧ encR a < encR b) ∨ (rowsO (a.map toV) (b.map toV) = 0 ∧ encR a = encR b) ∨ (rowsO (a.map toV) (b.map toV) = 1 ∧ encR b < encR a)
  | [], [], _, _, _, _ => .inr (.inl ⟨rfl, rfl⟩)
  | [], v :: b, _, _, _, _ => by
    left
    obtain ⟨x, r, e⟩ := encV_pos v
    refine ⟨rfl, ?_⟩
    rw [encR, encR, e]
    exact List.nil_lt_cons _ _
  | v :: a, [], _, _, _, _ => by
    right; right
    obtain ⟨x, r, e⟩ := encV_pos v
    refine ⟨rfl, ?_⟩
    rw [encR, encR, e]
    exact List.nil_lt_cons _ _
  | v :: a, u :: b, ha, hb, hia, hib => by
    have fa : fmdV v = true := by simp [allF] at ha; exact ha.1
    have fb : fmdV u = true := by simp [allF] at hb; exact hb.1
    have ga : allF a = true := by simp [allF] at ha ⊢; exact ha.2
    have gb : allF b = true := by simp [allF] at hb ⊢; exact hb.2
    have ih := ordR a b ga gb (fun x hx => hia x (List.mem_cons_of_mem _ hx)) (fun x hx => hib x (List.mem_cons_of_mem _ hx))
    have ho := ordV fa fb (hia v List.mem_cons_self) (hib u List.mem_cons_self)
    have hr : rowsO ((v :: a).map toV) ((u :: b).map toV) = if ord (toV v) (toV u) = 0 then rowsO (a.map toV) (b.map toV) else ord (toV v) (toV u) := rfl
    rw [hr, encR, encR]
    rcases ho with ⟨h1, h2⟩ | ⟨h1, h2⟩ | ⟨h1, h2⟩
    · rw [h1, if_neg (by omega)]
      exact .inl ⟨rfl, h2 _ _⟩
    · rw [if_pos h1, h2]
      rcases ih with ⟨i1, i2⟩ | ⟨i1, i2⟩ | ⟨i1, i2⟩
      · exact .inl ⟨i1, append_lt i2 _⟩
      · exact .inr (.inl ⟨i1, by rw [i2]⟩)
      · exact .inr (.inr ⟨i1, append_lt i2 _⟩)
    · rw [h1, if_neg (by omega)]
      exact .inr (.inr ⟨rfl, h2 _ _⟩)
end Go.Proofs.YtbibchinimhamaaDoor.SK
