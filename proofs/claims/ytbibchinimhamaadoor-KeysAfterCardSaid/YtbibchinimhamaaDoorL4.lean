/- The plain law of KeysAfter: both Afters answer the row 'aft'; what is behind a key is above all that begins with it, and not above the next ones. -/
import Derived.Test.YtbibchinimhamaaDoorL3
namespace Go.Proofs.YtbibchinimhamaaDoor.SA
open Go.RowKit Go.Proofs.YtbibchinimhamaaDoorW.PrintWords

/-- The first n places, without the 255s at the end, the last one raised. -/
def aft : Nat → List Int → List Int
  | 0, _ => []
  | n + 1, l => if rd l n = 255 then aft n l else (l.take (n + 1)).set n ((rd l n + 1) % 256)

theorem keys_After_l0 (l : List Int) (hl : l.length < 140737488355328) : ∀ n k, n ≤ l.length → n < k → keys_After.l0 k l (n : Int) = some (aft n l)
  | 0, k + 1, _, _ => by
    simp [keys_After.l0, aft, slices_Clone_byte_byte.f]
  | n + 1, k + 1, hn, hk => by
    have h1 : wrap64 (((n + 1 : Nat) : Int) - 1) = n := by unfold wrap64; omega
    simp only [keys_After.l0, h1]
    rw [if_pos (by omega), if_pos (by omega), if_pos (by omega)]
    have ih := keys_After_l0 l hl n k (by omega) (by omega)
    by_cases h : rd l n = 255
    · rw [if_pos h, ih, aft, if_pos h]
    · rw [if_neg h, if_pos (by omega), if_pos (by omega)]
      have h2 : ((n + 1 : Nat) : Int).toNat = n + 1 := by omega
      have h3 : (l.take (n + 1)).length = n + 1 := by simp; omega
      have h4 : rd (l.take (n + 1)) n = rd l n := by
        simp [rd, List.getD_eq_getElem?_getD]
      simp only [h2, slices_Clone_byte_byte.f]
      rw [if_pos (by rw [h3]; omega)]
      simp only [Option.bind_some]
      rw [if_pos (by rw [h3]; omega), aft, if_neg h, h4]
      simp

theorem ref_After_l0 (l : List Int) (hl : l.length < 140737488355328) : ∀ n k, n ≤ l.length → n < k → wainscotref01_After.l0 k (l.take n) = some (aft n l)
  | 0, k + 1, _, _ => by
    simp [wainscotref01_After.l0, aft]
  | n + 1, k + 1, hn, hk => by
    have h3 : (l.take (n + 1)).length = n + 1 := by simp; omega
    have h1 : wrap64 (((n + 1 : Nat) : Int) - 1) = n := by unfold wrap64; omega
    have h4 : rd (l.take (n + 1)) n = rd l n := by
      simp [rd, List.getD_eq_getElem?_getD]
    simp only [wainscotref01_After.l0, h3, h1, h4]
    rw [if_pos (by omega), if_pos (by omega), if_pos (by omega)]
    have ih := ref_After_l0 l hl n k (by omega) (by omega)
    by_cases h : rd l n = 255
    · rw [if_pos h, if_pos (by omega), aft, if_pos h, ← ih, List.take_take]
      congr 2
      omega
    · rw [if_neg h, aft, if_neg h]
      simp

theorem keys_After_f (l : List Int) (hl : l.length < 140737488355328) (k : Nat) (hk : l.length < k) : keys_After.f k l = some (aft l.length l) := keys_After_l0 l hl l.length k (Nat.le_refl _) hk
theorem ref_After_f (l : List Int) (hl : l.length < 140737488355328) (k : Nat) (hk : l.length < k) : wainscotref01_After.f k l = some (aft l.length l) := by
  have h := ref_After_l0 l hl l.length k (Nat.le_refl _) hk
  rw [List.take_length] at h
  simpa [wainscotref01_After.f, hl] using h

theorem awake_f (k : Nat) (hk : 3 ≤ k) : wainscotlaw04_awake.f k = some true := by
  obtain ⟨k, rfl⟩ : ∃ m, k = m + 2 := ⟨k - 2, by omega⟩
  have hw : wrap64 1 = 1 := by unfold wrap64; omega
  simp [wainscotlaw04_awake.f, keys_Key.f, keys_Key.l0, rd_T38, value_Formed.f, hw, ByteArray.toList_eq, strOfNums]

/-! ### bytes -/
def bl (l : List Int) : List UInt8 := l.map fun n => UInt8.ofNat n.toNat
theorem strOf_toList (l : List Int) : (strOfNums l).toList = bl l := by rw [ByteArray.toList_eq]; rfl
theorem strOf_append (a b : List Int) : (strOfNums a ++ strOfNums b).toList = bl a ++ bl b := by
  rw [ByteArray.toList_eq, ByteArray.data_append, Array.toList_append]; rfl

/-- The row: ahead of the cut, the byte at the cut, 255s. -/
theorem aft_cut : ∀ (n : Nat) (l : List Int), n ≤ l.length → aft n l ≠ [] → (∀ x ∈ l, 0 ≤ x ∧ x ≤ 255) →
    ∃ p b m, l.take n = p ++ b :: List.replicate m 255 ∧ 0 ≤ b ∧ b < 255 ∧ aft n l = p ++ [b + 1]
  | 0, _, _, h, _ => absurd rfl h
  | n + 1, l, hn, h, hw => by
    have hx : l.take (n + 1) = l.take n ++ [rd l n] := by
      have : l[n]? = some (l.getD n 0) := by rw [List.getD_eq_getElem?_getD, List.getElem?_eq_getElem (by omega)]; rfl
      rw [List.take_add_one, this, rd, Int.toNat_natCast, Option.toList_some]
    have hm : rd l n ∈ l := by
      rw [rd, List.getD_eq_getElem?_getD, Int.toNat_natCast, List.getElem?_eq_getElem (by omega)]
      exact List.getElem_mem _
    have hb := hw _ hm
    by_cases h2 : rd l n = 255
    · rw [aft, if_pos h2] at h
      obtain ⟨p, b, m, e, h0, h1, ea⟩ := aft_cut n l (by omega) h hw
      refine ⟨p, b, m + 1, ?_, h0, h1, ?_⟩
      · rw [hx, e, h2, List.append_assoc, List.cons_append, List.replicate_succ', ]
      · rw [aft, if_pos h2, ea]
    · refine ⟨l.take n, rd l n, 0, by rw [hx]; rfl, hb.1, by omega, ?_⟩
      rw [aft, if_neg h2, hx, Int.emod_eq_of_lt (by omega) (by omega)]
      have h3 : (l.take n).length = n := by simp; omega
      rw [List.set_append_right _ _ (by omega), h3]
      simp

theorem lt_ff : ∀ (m : Nat) (x : List UInt8), ¬ x < List.replicate m (255 : UInt8) → List.replicate m (255 : UInt8) <+: x
  | 0, x, _ => List.nil_prefix
  | m + 1, [], h => absurd (List.nil_lt_cons _ _) h
  | m + 1, c :: x, h => by
    rw [List.replicate_succ] at h ⊢
    rw [List.cons_lt_cons_iff] at h
    have h1 : ¬ c < 255 := fun k => h (.inl k)
    have h2 : c = 255 := by
      apply UInt8.toNat_inj.mp
      have := UInt8.toNat_lt c
      have h3 : ¬ c.toNat < 255 := h1
      show c.toNat = 255
      omega
    subst h2
    exact List.cons_prefix_cons.2 ⟨rfl, lt_ff m x (fun k => h (.inr ⟨rfl, k⟩))⟩

theorem begins_of (b b' : UInt8) (hb : b.toNat + 1 = b'.toNat) (m : Nat) : ∀ (p x : List UInt8), x < p ++ [b'] → ¬ x < p ++ b :: List.replicate m 255 → (p ++ b :: List.replicate m 255) <+: x
  | [], [], _, h => absurd (List.nil_lt_cons _ _) h
  | [], c :: x, h, h' => by
    simp only [List.nil_append, List.cons_lt_cons_iff, List.not_lt_nil, and_false, or_false] at h h' ⊢
    have h1 : c.toNat < b'.toNat := h
    have h2 : ¬ c.toNat < b.toNat := fun k => h' (.inl k)
    have h3 : c = b := UInt8.toNat_inj.mp (by omega)
    subst h3
    exact List.cons_prefix_cons.2 ⟨rfl, lt_ff m x (fun k => h' (.inr ⟨rfl, k⟩))⟩
  | d :: p, [], _, h => absurd (List.nil_lt_cons _ _) h
  | d :: p, c :: x, h, h' => by
    simp only [List.cons_append, List.cons_lt_cons_iff] at h h' ⊢
    rcases h with h | ⟨rfl, h⟩
    · exact absurd (.inl h) h'
    · exact List.cons_prefix_cons.2 ⟨rfl, begins_of b b' hb m p x h (fun k => h' (.inr ⟨rfl, k⟩))⟩

theorem above_of (b b' : UInt8) (hb : b.toNat + 1 = b'.toNat) (z : List UInt8) : ∀ p : List UInt8, p ++ b :: z < p ++ [b']
  | [] => by
    simp only [List.nil_append, List.cons_lt_cons_iff]
    exact .inl (show b.toNat < b'.toNat by omega)
  | d :: p => by
    simp only [List.cons_append, List.cons_lt_cons_iff]
    exact .inr ⟨trivial, above_of b b' hb z p⟩

theorem bl_ff (m : Nat) : bl (List.replicate m 255) = List.replicate m (255 : UInt8) := by simp [bl]

theorem aft_above (l l1 : List Int) (hw : ∀ x ∈ l, 0 ≤ x ∧ x ≤ 255) (h : aft l.length l ≠ []) : Op.bytesLess (bl l ++ bl l1) (bl (aft l.length l)) = true := by
  obtain ⟨p, b, m, e, h0, h1, ea⟩ := aft_cut l.length l (Nat.le_refl _) h hw
  rw [List.take_length] at e
  rw [ea, bytesLess_lt, decide_eq_true_eq, e]
  simp only [bl, List.map_append, List.map_cons, List.map_nil, List.append_assoc, List.cons_append]
  exact above_of _ _ (by simp only [UInt8.toNat_ofNat']; omega) _ _

theorem aft_of (l l2 : List Int) (hw : ∀ x ∈ l, 0 ≤ x ∧ x ≤ 255) (h : aft l.length l ≠ []) :
    (l.length ≤ l2.length ∧ bl (l2.take l.length) = bl l) ∨ Op.bytesLess (bl l2) (bl l) = true ∨ Op.bytesLess (bl l2) (bl (aft l.length l)) = false := by
  obtain ⟨p, b, m, e, h0, h1, ea⟩ := aft_cut l.length l (Nat.le_refl _) h hw
  rw [List.take_length] at e
  rw [bytesLess_lt, bytesLess_lt, decide_eq_true_eq, decide_eq_false_iff_not]
  rcases Classical.em (bl l2 < bl l) with h2 | h2
  · exact .inr (.inl h2)
  rcases Classical.em (bl l2 < bl (aft l.length l)) with h3 | h3
  · left
    have hb : bl l = bl p ++ UInt8.ofNat b.toNat :: List.replicate m 255 := by
      rw [e]; simp [bl]
    rw [ea] at h3
    have h4 : bl (p ++ [b + 1]) = bl p ++ [UInt8.ofNat (b + 1).toNat] := by simp [bl]
    rw [h4] at h3
    rw [hb] at h2
    have h5 := begins_of _ (UInt8.ofNat (b + 1).toNat) (by simp only [UInt8.toNat_ofNat']; omega) m (bl p) (bl l2) h3 h2
    rw [← hb] at h5
    have h6 := h5.length_le
    have h7 : (bl l).length = l.length := by simp [bl]
    have h8 : (bl l2).length = l2.length := by simp [bl]
    refine ⟨by omega, ?_⟩
    have h9 := List.prefix_iff_eq_take.1 h5
    rw [h7] at h9
    rw [h9]
    simp [bl, List.map_take]
  · exact .inr (.inr h3)
end Go.Proofs.YtbibchinimhamaaDoor.SA
