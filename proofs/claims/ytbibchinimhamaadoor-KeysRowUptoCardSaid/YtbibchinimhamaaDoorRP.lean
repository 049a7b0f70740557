/- The plain law of KeysRow: both readers of a key tell the same row, or that there is none. -/
import Derived.Test.YtbibchinimhamaaDoorSR6
import Derived.Test.YtbibchinimhamaaDoorX
namespace Go.Proofs.YtbibchinimhamaaDoor.SR
open Go.RowKit Go.Proofs.YtbibchinimhamaaDoorW.PrintWords

def IsBytes (l : List Int) : Prop := ∀ x ∈ l, 0 ≤ x ∧ x ≤ 255
theorem IsBytes.at_ {l : List Int} (h : IsBytes l) (i : Int) : 0 ≤ rd l i ∧ rd l i ≤ 255 := by
  show 0 ≤ l.getD i.toNat 0 ∧ l.getD i.toNat 0 ≤ 255
  rw [List.getD_eq_getElem?_getD]
  rcases Nat.lt_or_ge i.toNat l.length with hi | hi
  · rw [List.getElem?_eq_getElem hi]
    exact h _ (List.getElem_mem hi)
  · rw [List.getElem?_eq_none hi]
    simp
theorem w64 {x : Int} (h0 : -9223372036854775808 ≤ x) (h1 : x ≤ 9223372036854775807) : wrap64 x = x := by unfold wrap64; omega
theorem str_snoc (a b : List Int) : strOfNums a ++ strOfNums b = strOfNums (a ++ b) := by
  apply ByteArray.ext
  rw [ByteArray.data_append]
  apply Array.toList_inj.1
  simp [strOfNums]
theorem str_zero : (⟨#[0]⟩ : ByteArray) = strOfNums [0] := rfl

/-- What both tell of one value. -/
def Alike (l : List Int) (t : Int × Int × ByteArray × Int) (o : Int × Int × ByteArray × Int × Bool) : Prop :=
  (t.2.2.2 = 0 ∧ o.2.2.2.2 = false) ∨ (0 < t.2.2.2 ∧ t.2.2.2 ≤ l.length ∧ o = (t.1, t.2.1, t.2.2.1, t.2.2.2, true))

theorem text_alike (l : List Int) (hs : l.length ≤ 1048576) : ∀ (d i k : Nat) (s : List Int), l.length - i = d → 1 ≤ i → i ≤ l.length → s.length ≤ i → d < k →
    ∃ t o, keys_takeText.l0 k l s (i : Int) = some t ∧ wainscotref01_one.l1 k l (strOfNums s) (i : Int) 0 0 (⟨#[]⟩ : ByteArray) = some o ∧ Alike l t o := by
  intro d
  induction d using Nat.strongRecOn with
  | _ d ih =>
    intro i k s hd h1 hi hsl hk
    obtain ⟨k, rfl⟩ : ∃ m, k = m + 1 := ⟨k - 1, by omega⟩
    have e1 : wrap64 ((i : Int) + 1) = ((i + 1 : Nat) : Int) := by rw [w64 (by omega) (by omega)]; omega
    have e2 : wrap64 (((i + 1 : Nat) : Int) + 1) = ((i + 2 : Nat) : Int) := by rw [w64 (by omega) (by omega)]; omega
    have e3 : wrap64 ((i : Int) + 2) = ((i + 2 : Nat) : Int) := by rw [w64 (by omega) (by omega)]; omega
    have hz : (strOfNums s).size = s.length := strOfNums_size s
    simp only [keys_takeText.l0, wainscotref01_one.l1, e1, e2, e3]
    have q0 : (0 : Int) ≤ (i : Int) := by omega
    have q1 : (0 : Int) ≤ ((i + 1 : Nat) : Int) := by omega
    have q2 : (i : Int) ≤ ((i + 1 : Nat) : Int) := by omega
    have q4 : s.length < 140737488355328 := by omega
    by_cases hlt : (i : Int) < (l.length : Int)
    case neg =>
      simp only [if_neg hlt]
      exact ⟨_, _, rfl, rfl, .inl ⟨rfl, rfl⟩⟩
    have q3 : ((i + 1 : Nat) : Int) ≤ (l.length : Int) := by omega
    simp only [if_pos hlt, if_pos q0]
    by_cases h0 : rd l (i : Int) = 0
    case neg =>
      have ht : ((i + 1 : Nat) : Int).toNat = i + 1 := by omega
      have hm : (l.take (i + 1)).drop i = [rd l (i : Int)] := by
        have hg : rd l (i : Int) = l[i]'(by omega) := by
          show l.getD (i : Int).toNat 0 = _
          rw [List.getD_eq_getElem?_getD, Int.toNat_natCast, List.getElem?_eq_getElem (by omega)]; rfl
        rw [List.drop_take, show i + 1 - i = 1 by omega, List.drop_eq_getElem_cons (by omega), hg]
        rfl
      have q5 : (strOfNums s).size + (strOfNums [rd l (i : Int)]).size ≤ 9223372036854775807 := by rw [strOfNums_size, strOfNums_size]; simp; omega
      simp only [if_neg h0, if_pos q2, if_pos q3, if_pos q4, ht, Int.toNat_natCast, hm, if_pos q5, str_snoc]
      exact ih (d - 1) (by omega) (i + 1) k (s ++ [rd l (i : Int)]) (by omega) (by omega) (by omega) (by simp; omega) (by omega)
    simp only [if_pos h0]
    by_cases he : ((i + 1 : Nat) : Int) = (l.length : Int)
    · have q6 : ((i + 1 : Nat) : Int) ≥ (l.length : Int) := by omega
      simp only [if_pos he, if_pos q6]
      exact ⟨_, _, rfl, rfl, .inl ⟨rfl, rfl⟩⟩
    have q6 : ¬ ((i + 1 : Nat) : Int) ≥ (l.length : Int) := by omega
    have q7 : ((i + 1 : Nat) : Int) < (l.length : Int) := by omega
    simp only [if_neg he, if_neg q6, if_pos q1, if_pos q7]
    by_cases hf : rd l ((i + 1 : Nat) : Int) = 255
    · have q8 : ¬ rd l ((i + 1 : Nat) : Int) = 0 := by omega
      have q9 : (strOfNums s).size + 1 ≤ 9223372036854775807 := by omega
      simp only [if_pos hf, if_neg q8, if_pos q4, if_pos q9, str_zero, str_snoc]
      exact ih (d - 2) (by omega) (i + 2) k (s ++ [0]) (by omega) (by omega) (by omega) (by simp; omega) (by omega)
    simp only [if_neg hf]
    by_cases hg : rd l ((i + 1 : Nat) : Int) = 0
    · have q8 : (0 : Int) ≤ ((i + 2 : Nat) : Int) := by omega
      have q9 : ((i + 2 : Nat) : Int) ≤ (l.length : Int) := by omega
      simp only [if_pos hg, if_pos q8, if_pos q9, hz]
      by_cases hl : (s.length : Int) ≤ 100
      · simp only [if_pos hl]
        refine ⟨_, _, rfl, rfl, .inr ⟨by show (0 : Int) < ((i + 2 : Nat) : Int); omega, by show ((i + 2 : Nat) : Int) ≤ _; omega, ?_⟩⟩
        simp [hl]
      · simp only [if_neg hl]
        exact ⟨_, _, rfl, rfl, .inl ⟨rfl, by simpa using hl⟩⟩
    · simp only [if_neg hg]
      exact ⟨_, _, rfl, rfl, .inl ⟨rfl, rfl⟩⟩

theorem int_alike (l : List Int) (hb : IsBytes l) (h9 : 9 ≤ l.length) (hs : l.length ≤ 1048576) : ∀ (d j k : Nat) (a : Int), 8 - j = d → j ≤ 8 → d < k → 0 ≤ a → a < 18446744073709551616 →
    ∃ n : Int, keys_take.l0 k a ((l.take 9).drop 1) (((l.take 9).drop 1).length : Int) (j : Int) = some (1, n, (⟨#[]⟩ : ByteArray), 9) ∧ wainscotref01_one.l0 k l a (j : Int) = some (1, n, (⟨#[]⟩ : ByteArray), 9, true) := by
  intro d
  have hlen : ((l.take 9).drop 1).length = 8 := by simp; omega
  induction d with
  | zero =>
    intro j k a hd hj hk h0 h1
    obtain ⟨k, rfl⟩ : ∃ m, k = m + 1 := ⟨k - 1, by omega⟩
    obtain rfl : j = 8 := by omega
    simp only [keys_take.l0, wainscotref01_one.l0, hlen]
    rw [if_neg (by omega), if_neg (by omega), if_pos (by omega)]
    refine ⟨_, rfl, ?_⟩
    rw [sign_xor a h0 h1, IntKind.wrap_u64]
    have : (a - 9223372036854775808) % 18446744073709551616 = (a + 9223372036854775808) % 18446744073709551616 := by omega
    rw [this]
  | succ d ih =>
    intro j k a hd hj hk h0 h1
    obtain ⟨k, rfl⟩ : ∃ m, k = m + 1 := ⟨k - 1, by omega⟩
    have e1 : wrap64 ((j : Int) + 1) = ((j + 1 : Nat) : Int) := by rw [w64 (by omega) (by omega)]; omega
    have e2 : wrap64 (1 + (j : Int)) = ((1 + j : Nat) : Int) := by rw [w64 (by omega) (by omega)]; omega
    have hr : rd ((l.take 9).drop 1) (j : Int) = rd l ((1 + j : Nat) : Int) := by
      show ((l.take 9).drop 1).getD (j : Int).toNat 0 = l.getD ((1 + j : Nat) : Int).toNat 0
      rw [List.getD_eq_getElem?_getD, List.getD_eq_getElem?_getD, Int.toNat_natCast, Int.toNat_natCast, List.getElem?_drop, List.getElem?_take, if_pos (by omega)]
    have hby := hb.at_ ((1 + j : Nat) : Int)
    have p1 : (j : Int) < ((8 : Nat) : Int) := by omega
    have p2 : (j : Int) < 8 := by omega
    have p3 : (0 : Int) ≤ (j : Int) := by omega
    have p4 : (0 : Int) ≤ ((1 + j : Nat) : Int) := by omega
    have p5 : ((1 + j : Nat) : Int) < (l.length : Int) := by omega
    simp only [keys_take.l0, wainscotref01_one.l0, e1, e2, hlen, hr, if_pos p1, if_pos p2, if_pos p3, if_pos p4, if_pos p5]
    rw [byte_in _ _ hby.1 hby.2]
    have := ih (j + 1) k (a * 256 % 18446744073709551616 + rd l ((1 + j : Nat) : Int)) (by omega) (by omega) (by omega) (by omega) (by omega)
    rw [hlen] at this
    exact this

theorem one_alike (l : List Int) (hb : IsBytes l) (hp : 0 < l.length) (hs : l.length ≤ 1048576) (k : Nat) (hk : l.length + 12 ≤ k) :
    ∃ t o, keys_take.f k l = some t ∧ wainscotref01_one.f k l = some o ∧ Alike l t o := by
  obtain ⟨k, rfl⟩ : ∃ m, k = m + 1 := ⟨k - 1, by omega⟩
  have p0 : (0 : Int) < (l.length : Int) := by omega
  have p1 : (1 : Int) ≤ (l.length : Int) := by omega
  unfold keys_take.f wainscotref01_one.f
  simp only [if_pos p0]
  by_cases h5 : rd l 0 = 5
  · simp only [if_pos h5, if_pos p1]
    exact ⟨_, _, rfl, rfl, .inr ⟨by show (0 : Int) < 1; omega, by show (1 : Int) ≤ _; omega, rfl⟩⟩
  simp only [if_neg h5]
  have other : ∃ t o, keys_take.j0 (k + 1) l false = some t ∧ wainscotref01_one.j0 (k + 1) l false 0 0 (⟨#[]⟩ : ByteArray) = some o ∧ Alike l t o := by
    simp only [keys_take.j0, wainscotref01_one.j0, Bool.false_eq_true, if_false, if_pos p0]
    by_cases h32 : rd l 0 = 32
    · simp only [if_pos h32]
      obtain ⟨t, o, ht, ho, hA⟩ := text_alike l hs (l.length - 1) 1 k [] rfl (Nat.le_refl _) (by omega) (by simp) (by omega)
      refine ⟨t, o, ?_, ho, hA⟩
      have : keys_takeText.f k l = some t := ht
      rw [this]
      rfl
    · simp only [if_neg h32]
      exact ⟨_, _, rfl, rfl, .inl ⟨rfl, rfl⟩⟩
  by_cases h16 : rd l 0 = 16
  · simp only [if_pos h16]
    by_cases h9 : 9 ≤ l.length
    · have d1 : decide ((l.length : Int) > 8) = true := decide_eq_true (by omega)
      have d2 : decide ((l.length : Int) ≥ 9) = true := decide_eq_true (by omega)
      rw [d1, d2]
      have p9 : (9 : Int) ≤ (l.length : Int) := by omega
      simp only [keys_take.j0, wainscotref01_one.j0, if_true, if_pos p9]
      obtain ⟨n, ht, ho⟩ := int_alike l hb h9 hs 8 0 k 0 rfl (by omega) (by omega) (by omega) (by omega)
      exact ⟨_, _, ht, ho, .inr ⟨by show (0 : Int) < 9; omega, by show (9 : Int) ≤ _; omega, rfl⟩⟩
    · have d1 : decide ((l.length : Int) > 8) = false := decide_eq_false (by omega)
      have d2 : decide ((l.length : Int) ≥ 9) = false := decide_eq_false (by omega)
      rw [d1, d2]
      exact other
  · simp only [if_neg h16]
    exact other

theorem rows_alike : ∀ (d : Nat) (l : List Int) (rows : List S38) (k : Nat), l.length = d → IsBytes l → l.length + rows.length ≤ 1048576 → d + 13 ≤ k →
    ∃ x e, keys_Row.l0 k l rows = some (x, e) ∧ wainscotref01_Row.l0 k l rows = some (x, e) ∧ x.length ≤ 1048576 := by
  intro d
  induction d using Nat.strongRecOn with
  | _ d ih =>
    intro l rows k hd hb hs hk
    obtain ⟨k, rfl⟩ : ∃ m, k = m + 1 := ⟨k - 1, by omega⟩
    simp only [keys_Row.l0, wainscotref01_Row.l0]
    by_cases hp : (l.length : Int) > 0
    case neg =>
      rw [if_neg hp, if_neg hp]
      exact ⟨_, _, rfl, rfl, by omega⟩
    rw [if_pos hp, if_pos hp]
    obtain ⟨⟨t1, t2, t3, t4⟩, ⟨o1, o2, o3, o4, o5⟩, ht, ho, hA⟩ := one_alike l hb (by omega) (by omega) k (by omega)
    rw [ht, ho]
    simp only [Option.bind_some]
    rcases hA with ⟨h0, h1⟩ | ⟨h0, h1, h2⟩
    · simp only at h0 h1
      subst h0 h1
      exact ⟨[], 2, by simp, by simp, by simp⟩
    · simp only [Prod.mk.injEq] at h0 h1 h2
      obtain ⟨rfl, rfl, rfl, rfl, rfl⟩ := h2
      rw [if_neg (by omega), if_pos rfl, if_pos (by omega), if_pos (by omega), if_pos (by omega), if_pos (by omega), if_pos (by omega), if_pos (by omega)]
      have hl : (l.drop o4.toNat).length = l.length - o4.toNat := List.length_drop
      exact ih (l.drop o4.toNat).length (by omega) (l.drop o4.toNat) _ k rfl (fun x hx => hb x (List.mem_of_mem_drop hx)) (by simp; omega) (by omega)

theorem order_self (a b : Int) (s : ByteArray) : wainscotref01_Order.f a b s a b s = some 0 := by
  simp [wainscotref01_Order.f, wainscotref01_texts.f, bytesLess_irrefl]
theorem rows_self (x : List S38) (hs : x.length ≤ 1048576) : ∀ (d j k : Nat), x.length - j = d → j ≤ x.length → d < k → wainscotref01_Rows.l0 k x x (x.length : Int) (j : Int) = some 0 := by
  intro d
  induction d with
  | zero =>
    intro j k hd hj hk
    obtain ⟨k, rfl⟩ : ∃ m, k = m + 1 := ⟨k - 1, by omega⟩
    simp only [wainscotref01_Rows.l0]
    rw [if_neg (by omega), if_neg (by omega)]
  | succ d ih =>
    intro j k hd hj hk
    obtain ⟨k, rfl⟩ : ∃ m, k = m + 1 := ⟨k - 1, by omega⟩
    have e1 : wrap64 ((j : Int) + 1) = ((j + 1 : Nat) : Int) := by rw [w64 (by omega) (by omega)]; omega
    simp only [wainscotref01_Rows.l0, e1, order_self]
    rw [if_pos (by omega), if_neg (by omega), if_pos (by omega), if_pos (by omega), if_pos (by omega)]
    simp only [Option.bind_some, if_true]
    exact ih (j + 1) k (by omega) (by omega) (by omega)
theorem same_self (x : List S38) (hs : x.length ≤ 1048576) (k : Nat) (hk : x.length < k) : wainscotref01_Same.f k x x = some true := by
  have : wainscotref01_Rows.l0 k x x (x.length : Int) 0 = some 0 := rows_self x hs x.length 0 k (by omega) (by omega) hk
  simp only [wainscotref01_Same.f, if_true, wainscotref01_Rows.f]
  rw [this]
  rfl

theorem awake_f (k : Nat) (hk : 3 ≤ k) : wainscotlaw04_awake.f k = some true := by
  obtain ⟨k, rfl⟩ : ∃ m, k = m + 2 := ⟨k - 2, by omega⟩
  have hw : wrap64 1 = 1 := by unfold wrap64; omega
  simp [wainscotlaw04_awake.f, keys_Key.f, keys_Key.l0, rd_T38, value_Formed.f, hw, ByteArray.toList_eq, strOfNums]

theorem law_true (l : List Int) (hb : IsBytes l) (hs : l.length ≤ 1048576) : wainscotlaw04_KeysRow.f 1048600 l = some true := by
  obtain ⟨x, e, hx, hy, hl⟩ := rows_alike l.length l [] 1048600 rfl hb (by simp; omega) (by omega)
  unfold wainscotlaw04_KeysRow.f
  rw [awake_f _ (by omega)]
  simp only [Option.bind_some, if_true]
  rw [show keys_Row.f 1048600 l = some (x, e) from hx, show wainscotref01_Row.f 1048600 l = some (x, e) from hy]
  simp only [Option.bind_some]
  rw [same_self x hl _ (by omega)]
  simp
end Go.Proofs.YtbibchinimhamaaDoor.SR
