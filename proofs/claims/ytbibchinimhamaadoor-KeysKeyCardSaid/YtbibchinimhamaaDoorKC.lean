/- A row's key is read back as that row. -/
import Derived.Test.YtbibchinimhamaaDoorKB
import Derived.Test.YtbibchinimhamaaDoorSK4
namespace Go.Proofs.YtbibchinimhamaaDoor.SK
open Go.RowKit Go.Proofs.YtbibchinimhamaaDoorW.PrintWords Go.Proofs.YtbibchinimhamaaDoorW.PrintMore
set_option linter.unusedVariables false
set_option linter.unusedSimpArgs false

theorem rd_of_drop {l r : List Int} {i : Nat} {x : Int} (h : l.drop i = x :: r) : rd l (i : Int) = x ∧ l.drop (i + 1) = r ∧ i < l.length := by
  have hi : i < l.length := by
    rcases Nat.lt_or_ge i l.length with h1 | h1
    · exact h1
    · rw [List.drop_eq_nil_of_le h1] at h; cases h
  rw [List.drop_eq_getElem_cons hi] at h
  injection h with h1 h2
  refine ⟨?_, h2, hi⟩
  show l.getD (i : Int).toNat 0 = x
  rw [Int.toNat_natCast, List.getD_eq_getElem?_getD, List.getElem?_eq_getElem hi]
  exact h1

theorem encT_at (u : Int) : ∀ (n i : Nat), i < n → (encT u n)[n - 1 - i]? = some (shr .u64 u (8 * (i : Int)) % 256)
  | n + 1, i, h => by
    by_cases hi : i = n
    · subst hi
      rw [show i + 1 - 1 - i = 0 by omega]; rfl
    · rw [show n + 1 - 1 - i = (n - 1 - i) + 1 by omega, encT, List.getElem?_cons_succ]
      exact encT_at u n i (by omega)

theorem shr_ub (u : Int) (i : Nat) (hi : i ≤ 7) : shr .u64 u (8 * (i : Int)) = u / 2 ^ (8 * i) := by
  unfold shr
  have h1 : (8 * (i : Int)).toNat = 8 * i := by omega
  have h2 : IntKind.u64.bits = 64 := rfl
  rw [h1, h2, Nat.min_eq_left (by omega)]

theorem take_int (u : Int) (h0 : 0 ≤ u) (h1 : u < 18446744073709551616) : ∀ (i k : Nat), i ≤ 8 →
    keys_take.l0 (k + i + 1) (u / 2 ^ (8 * i)) (encT u 8) (8 : Int) (8 - (i : Int)) = some (1, wrap64 ((u + 9223372036854775808) % 18446744073709551616), (⟨#[]⟩ : ByteArray), 9) := by
  intro i
  induction i with
  | zero =>
    intro k hi
    have e0 : u / 2 ^ (8 * 0) = u := by simp
    rw [Nat.add_zero, keys_take.l0, if_neg (by omega), e0, sign_xor u h0 h1]
  | succ i ih =>
    intro k hi
    have hr : rd (encT u 8) (8 - ((i + 1 : Nat) : Int)) = (u / 2 ^ (8 * i)) % 256 := by
      have h := encT_at u 8 i (by omega)
      rw [shr_ub u i (by omega)] at h
      show (encT u 8).getD (8 - ((i + 1 : Nat) : Int)).toNat 0 = _
      rw [show (8 - ((i + 1 : Nat) : Int)).toNat = 8 - 1 - i by omega, List.getD_eq_getElem?_getD, h]
      rfl
    have hlen : ((encT u 8).length : Int) = 8 := by rw [encT_length]; rfl
    have e1 : wrap64 (8 - ((i + 1 : Nat) : Int) + 1) = 8 - (i : Int) := by rw [w64 (by omega) (by omega)]; omega
    rw [show k + (i + 1) + 1 = (k + i + 1) + 1 by omega, keys_take.l0, if_pos (by omega), if_pos (by omega), if_pos (by omega), hr, e1]
    have hq : (u / 2 ^ (8 * (i + 1))) = (u / 2 ^ (8 * i)) / 256 := by
      have h2 : (2 : Int) ^ (8 * (i + 1)) = 2 ^ (8 * i) * 256 := by
        rw [Nat.mul_add, Int.pow_add]; rfl
      rw [h2, Int.ediv_ediv_of_nonneg (Int.pow_nonneg (by omega))]
    have hb0 : 0 ≤ u / 2 ^ (8 * i) := Int.ediv_nonneg h0 (Int.pow_nonneg (by omega))
    have hb1 : u / 2 ^ (8 * i) ≤ u := Int.ediv_le_self _ h0
    rw [hq, byte_in _ _ (by omega) (by omega)]
    have h3 : (u / 2 ^ (8 * i)) / 256 * 256 % 18446744073709551616 + (u / 2 ^ (8 * i)) % 256 = u / 2 ^ (8 * i) := by omega
    rw [h3]
    exact ih k (by omega)

theorem take_text (l rest : List Int) (hl : l.length ≤ 1000000) : ∀ (t s : List Int) (i k : Nat), l.drop i = repI t ++ 0 :: 0 :: rest → (s ++ t).length ≤ 100 → 1 ≤ i → 2 * t.length + 1 ≤ k →
    keys_takeText.l0 k l s (i : Int) = some (2, 0, strOfNums (s ++ t), ((i + (repI t).length + 2 : Nat) : Int)) := by
  intro t
  induction t with
  | nil =>
    intro s i k hd hs hi hk
    obtain ⟨k, rfl⟩ : ∃ m, k = m + 1 := ⟨k - 1, by omega⟩
    obtain ⟨r0, hd1, hl0⟩ := rd_of_drop (show l.drop i = 0 :: 0 :: rest from hd)
    obtain ⟨r1, hd2, hl1⟩ := rd_of_drop hd1
    have e1 : wrap64 ((i : Int) + 1) = ((i + 1 : Nat) : Int) := by rw [w64 (by omega) (by omega)]; omega
    have e2 : wrap64 ((i : Int) + 2) = ((i + 2 : Nat) : Int) := by rw [w64 (by omega) (by omega)]; omega
    have q1 : (i : Int) < (l.length : Int) := by omega
    have q2 : (0 : Int) ≤ (i : Int) := by omega
    have q3 : ¬ ((i + 1 : Nat) : Int) = (l.length : Int) := by omega
    have q4 : (0 : Int) ≤ ((i + 1 : Nat) : Int) := by omega
    have q5 : ((i + 1 : Nat) : Int) < (l.length : Int) := by omega
    have q6 : (s.length : Int) ≤ 100 := by simp at hs; omega
    have q7 : ¬ (0 : Int) = 255 := by omega
    rw [keys_takeText.l0]
    simp only [e1, e2, r0, r1, if_pos q1, if_pos q2, if_neg q3, if_pos q4, if_pos q5, if_pos q6, if_neg q7, if_true]
    simp [repI]
  | cons x t ih =>
    intro s i k hd hs hi hk
    obtain ⟨k, rfl⟩ : ∃ m, k = m + 1 := ⟨k - 1, by omega⟩
    simp only [List.length_append, List.length_cons] at hs hk
    have q6 : s.length < 140737488355328 := by omega
    have e1 : ∀ (hb : i + 1 ≤ l.length), wrap64 ((i : Int) + 1) = ((i + 1 : Nat) : Int) := fun hb => by rw [w64 (by omega) (by omega)]; omega
    by_cases hx : x = 0
    · subst hx
      rw [repI, if_pos rfl] at hd
      obtain ⟨r0, hd1, hl0⟩ := rd_of_drop (show l.drop i = 0 :: (255 :: (repI t ++ 0 :: 0 :: rest)) by rw [hd]; simp)
      obtain ⟨r1, hd2, hl1⟩ := rd_of_drop hd1
      have e1' := e1 (by omega)
      have e2 : wrap64 (((i + 1 : Nat) : Int) + 1) = ((i + 2 : Nat) : Int) := by rw [w64 (by omega) (by omega)]; omega
      have q1 : (i : Int) < (l.length : Int) := by omega
      have q2 : (0 : Int) ≤ (i : Int) := by omega
      have q3 : ¬ ((i + 1 : Nat) : Int) = (l.length : Int) := by omega
      have q4 : (0 : Int) ≤ ((i + 1 : Nat) : Int) := by omega
      have q5 : ((i + 1 : Nat) : Int) < (l.length : Int) := by omega
      rw [keys_takeText.l0]
      simp only [e1', e2, r0, r1, if_pos q1, if_pos q2, if_neg q3, if_pos q4, if_pos q5, if_pos q6, if_true]
      rw [ih (s ++ [0]) (i + 2) k hd2 (by simp; omega) (by omega) (by omega)]
      have : (repI (0 :: t)).length = (repI t).length + 2 := by rw [repI, if_pos rfl]; simp
      rw [this]
      simp
      omega
    · rw [repI, if_neg hx] at hd
      obtain ⟨r0, hd1, hl0⟩ := rd_of_drop (show l.drop i = x :: (repI t ++ 0 :: 0 :: rest) by rw [hd]; simp)
      have e1' := e1 (by omega)
      have q1 : (i : Int) < (l.length : Int) := by omega
      have q2 : (0 : Int) ≤ (i : Int) := by omega
      rw [keys_takeText.l0]
      simp only [e1', r0, if_pos q1, if_pos q2, if_neg hx, if_pos q6]
      rw [ih (s ++ [x]) (i + 1) k hd1 (by simp; omega) (by omega) (by omega)]
      have : (repI (x :: t)).length = (repI t).length + 1 := by rw [repI, if_neg hx]; simp
      rw [this]
      simp
      omega

theorem str_bytes (s : ByteArray) : strOfNums (bytesOf s) = s := by
  apply ByteArray.ext
  apply Array.toList_inj.1
  unfold strOfNums bytesOf
  simp
  conv => rhs; rw [← List.map_id s.data.toList]
  apply List.map_congr_left
  intro b _
  apply UInt8.toNat_inj.mp
  simp
theorem str_nil {s : ByteArray} (h : s.toList = []) : s = ⟨#[]⟩ := by
  rw [ByteArray.toList_eq] at h
  apply ByteArray.ext
  apply Array.toList_inj.1
  exact h

def inI (v : S38) : Prop := -9223372036854775808 ≤ v.f1 ∧ v.f1 ≤ 9223372036854775807
theorem take_enc (v : S38) (hf : fmdV v = true) (hi : inI v) (rest : List Int) (hl : (encV v ++ rest).length ≤ 1000000) (k : Nat) (hk : 400 ≤ k) :
    keys_take.f k (encV v ++ rest) = some (v.f0, v.f1, v.f2, ((encV v).length : Int)) := by
  obtain ⟨k, rfl⟩ : ∃ m, k = m + 1 := ⟨k - 1, by omega⟩
  by_cases h0 : v.f0 = 0
  · have he : encV v = [5] := by unfold encV; rw [if_pos h0]
    have hn : v.f1 = 0 ∧ v.f2.toList = [] := by
      unfold fmdV at hf
      rw [if_pos h0] at hf
      simpa using hf
    have p0 : (0 : Int) < ((5 :: rest).length : Int) := by simp
    have r5 : rd (5 :: rest) 0 = 5 := rfl
    rw [he]
    show keys_take.f (k + 1) (5 :: rest) = _
    unfold keys_take.f
    rw [if_pos p0, if_pos r5, h0, hn.1, str_nil hn.2]
    rfl
  by_cases h1 : v.f0 = 1
  · have he : encV v = 16 :: encT (ub v.f1) 8 := by unfold encV; rw [if_neg h0, if_pos h1]
    have hn : v.f2.toList = [] := by
      unfold fmdV at hf
      rw [if_neg h0, if_pos h1] at hf
      simpa using hf
    rw [he]
    have hlen : ((16 : Int) :: encT (ub v.f1) 8 ++ rest).length = 9 + rest.length := by simp [encT_length]; omega
    have p0 : (0 : Int) < (((16 : Int) :: encT (ub v.f1) 8 ++ rest).length : Int) := by omega
    have r5 : rd ((16 : Int) :: encT (ub v.f1) 8 ++ rest) 0 = 16 := rfl
    have d8 : decide ((((16 : Int) :: encT (ub v.f1) 8 ++ rest).length : Int) > 8) = true := decide_eq_true (by omega)
    have p9 : (9 : Int) ≤ (((16 : Int) :: encT (ub v.f1) 8 ++ rest).length : Int) := by omega
    have ht : (((16 : Int) :: encT (ub v.f1) 8 ++ rest).take 9).drop 1 = encT (ub v.f1) 8 := by
      show (List.take 8 (encT (ub v.f1) 8 ++ rest)) = _
      rw [List.take_append_of_le_length (by rw [encT_length]; omega), List.take_of_length_le (by rw [encT_length]; omega)]
    unfold keys_take.f
    rw [if_pos p0, r5, if_neg (by omega), if_pos rfl, d8, keys_take.j0, if_pos rfl, if_pos (by omega), if_pos p9, ht, encT_length]
    have hu0 : 0 ≤ ub v.f1 := by unfold ub; omega
    have hu1 : ub v.f1 < 18446744073709551616 := by unfold ub; omega
    have := take_int (ub v.f1) hu0 hu1 8 (k - 9) (by omega)
    rw [show k - 9 + 8 + 1 = k by omega] at this
    have hz : ub v.f1 / 2 ^ (8 * 8) = 0 := Int.ediv_eq_zero_of_lt hu0 (by rw [show ((2 : Int) ^ (8 * 8)) = 18446744073709551616 by decide]; exact hu1)
    rw [hz] at this
    have h88 : (8 : Int) - ((8 : Nat) : Int) = 0 := by omega
    rw [h88] at this
    show keys_take.l0 k 0 (encT (ub v.f1) 8) 8 0 = _
    rw [this, h1, str_nil hn]
    have hw : wrap64 ((ub v.f1 + 9223372036854775808) % 18446744073709551616) = v.f1 := by
      have := hi.1; have := hi.2
      unfold ub wrap64; omega
    rw [hw]
    simp [encT_length]
  · obtain ⟨h2, h3, hs⟩ := fmd_two hf h0 h1
    have he : encV v = 32 :: (repI (bytesOf v.f2) ++ [0, 0]) := by unfold encV; rw [if_neg h0, if_neg h1]
    have hen : encV v ++ rest = 32 :: (repI (bytesOf v.f2) ++ 0 :: 0 :: rest) := by rw [he]; simp
    rw [hen] at hl ⊢
    have p0 : (0 : Int) < ((32 :: (repI (bytesOf v.f2) ++ 0 :: 0 :: rest)).length : Int) := by simp; omega
    have r5 : rd (32 :: (repI (bytesOf v.f2) ++ 0 :: 0 :: rest)) 0 = 32 := rfl
    have hb : (bytesOf v.f2).length ≤ 100 := by rw [bytesOf_length]; exact hs
    have := take_text (32 :: (repI (bytesOf v.f2) ++ 0 :: 0 :: rest)) rest hl (bytesOf v.f2) [] 1 k rfl (by simpa using hb) (by omega) (by omega)
    unfold keys_take.f
    rw [if_pos p0, r5, if_neg (by omega), if_neg (by omega), keys_take.j0, if_neg (by decide), if_pos p0, r5, if_pos rfl]
    have t2 : keys_takeText.f k (32 :: (repI (bytesOf v.f2) ++ 0 :: 0 :: rest)) = _ := this
    rw [t2, List.nil_append, str_bytes]
    simp only [Option.bind_some]
    rw [h2, h3, he]
    simp
    omega

theorem row_enc : ∀ (row acc : List S38) (K : Nat), allF row = true → (∀ v ∈ row, inI v) → (encR row).length ≤ 1000000 → (acc ++ row).length ≤ 1000000 → row.length + 401 ≤ K →
    keys_Row.l0 K (encR row) acc = some (acc ++ row, 0)
  | [], acc, K, _, _, _, _, hK => by
    obtain ⟨K, rfl⟩ : ∃ m, K = m + 1 := ⟨K - 1, by simp at hK; omega⟩
    rw [keys_Row.l0, if_neg (by simp [encR])]
    simp
  | v :: row, acc, K, hF, hI, hl, hr, hK => by
    obtain ⟨K, rfl⟩ : ∃ m, K = m + 1 := ⟨K - 1, by simp at hK; omega⟩
    have hf : fmdV v = true := by simp [allF] at hF; exact hF.1
    have hF2 : allF row = true := by simp [allF] at hF ⊢; exact hF.2
    simp only [List.length_append, List.length_cons] at hr hK
    rw [encR] at hl ⊢
    have ht := take_enc v hf (hI v List.mem_cons_self) (encR row) hl K (by omega)
    have hpos : 0 < (encV v).length := by unfold encV; split <;> (try split) <;> simp
    simp only [List.length_append] at hl
    have p1 : (((encV v ++ encR row).length : Nat) : Int) > 0 := by simp; omega
    have p2 : ¬ (((encV v).length : Nat) : Int) = 0 := by omega
    have p3 : acc.length < 4398046511104 := by omega
    have p4 : (0 : Int) ≤ (((encV v).length : Nat) : Int) := by omega
    have p5 : (((encV v).length : Nat) : Int) ≤ (((encV v ++ encR row).length : Nat) : Int) := by simp; omega
    rw [keys_Row.l0, if_pos p1, ht]
    simp only [Option.bind_some, if_neg p2, if_pos p3, if_pos p4, if_pos p5, Int.toNat_natCast]
    rw [List.drop_left, row_enc row (acc ++ [v]) K hF2 (fun x hx => hI x (List.mem_cons_of_mem _ hx)) (by omega) (by simp; omega) (by omega)]
    simp
end Go.Proofs.YtbibchinimhamaaDoor.SK
