/- Both makers of keys write the same bytes: 'encR'; they refuse the same rows. -/
import Derived.Test.YtbibchinimhamaaDoorSK3
import Derived.Test.YtbibchinimhamaaDoorX
namespace Go.Proofs.YtbibchinimhamaaDoor.SK
open Go.RowKit Go.Proofs.YtbibchinimhamaaDoorW.PrintWords Go.Proofs.YtbibchinimhamaaDoorW.PrintMore
set_option linter.unusedVariables false
set_option linter.unusedSimpArgs false

theorem w64 {x : Int} (h0 : -9223372036854775808 ≤ x) (h1 : x ≤ 9223372036854775807) : wrap64 x = x := by unfold wrap64; omega

def fmdV (v : S38) : Bool := if v.f0 = 0 then (v.f1 == 0 && v.f2.toList == []) else if v.f0 = 1 then v.f2.toList == [] else if v.f0 = 2 then (if v.f1 = 0 then decide ((v.f2.size : Int) ≤ 100) else false) else false
theorem value_Formed_f (v : S38) : value_Formed.f v.f0 v.f1 v.f2 = some (fmdV v) := by
  unfold value_Formed.f fmdV
  by_cases h0 : v.f0 = 0
  · simp [h0]
  · by_cases h1 : v.f0 = 1
    · simp [h1]
    · by_cases h2 : v.f0 = 2
      · by_cases h3 : v.f1 = 0 <;> simp [h2, h3]
      · simp [h0, h1, h2]
theorem ref_Formed_f (v : S38) : wainscotref01_Formed.f v.f0 v.f1 v.f2 = some (fmdV v) := by
  unfold wainscotref01_Formed.f fmdV
  by_cases h0 : v.f0 = 0
  · by_cases h3 : v.f1 = 0 <;> simp [h0, h3]
  · by_cases h1 : v.f0 = 1
    · simp [h1]
    · by_cases h2 : v.f0 = 2
      · by_cases h3 : v.f1 = 0 <;> simp [h2, h3]
      · simp [h0, h1, h2]

/-! ### the bytes -/
def ub (n : Int) : Int := (n + 9223372036854775808) % 18446744073709551616
def encT (u : Int) : Nat → List Int
  | 0 => []
  | i + 1 => (shr .u64 u (8 * (i : Int)) % 256) :: encT u i
def encV (v : S38) : List Int := if v.f0 = 0 then [5] else if v.f0 = 1 then 16 :: encT (ub v.f1) 8 else 32 :: (repI (bytesOf v.f2) ++ [0, 0])
def encR : List S38 → List Int
  | [] => []
  | v :: r => encV v ++ encR r
theorem encT_length (u : Int) : ∀ i, (encT u i).length = i
  | 0 => rfl
  | i + 1 => by simp [encT, encT_length u i]
theorem repI_length_le (l : List Int) : (repI l).length ≤ 2 * l.length := by
  induction l with
  | nil => simp [repI]
  | cons x r ih => rw [repI]; split <;> simp <;> omega
theorem encV_length (v : S38) (h : fmdV v = true) : (encV v).length ≤ 300 := by
  unfold encV
  by_cases h0 : v.f0 = 0
  · simp [h0]
  · by_cases h1 : v.f0 = 1
    · simp [h1, encT_length]
    · rw [if_neg h0, if_neg h1]
      have hs : v.f2.size ≤ 100 := by
        unfold fmdV at h
        rw [if_neg h0, if_neg h1] at h
        by_cases h2 : v.f0 = 2
        · rw [if_pos h2] at h
          by_cases h3 : v.f1 = 0
          · rw [if_pos h3] at h; have := of_decide_eq_true h; omega
          · rw [if_neg h3] at h; cases h
        · rw [if_neg h2] at h; cases h
      have h4 := repI_length_le (bytesOf v.f2)
      rw [bytesOf_length] at h4
      simp
      omega

theorem el_drop {row : List S38} {j : Nat} (h : j < row.length) : row.drop j = rd_T38 row (j : Int) :: row.drop (j + 1) := by
  rw [List.drop_eq_getElem_cons h]
  congr 1
  unfold rd_T38
  rw [Int.toNat_natCast, List.getD_eq_getElem?_getD, List.getElem?_eq_getElem h]
  rfl

/-! ### keys.Key -/
theorem keys_l1 (x8 : List S38) (x9 x10 a b : Int) (c : ByteArray) : ∀ (i k : Nat) (acc : List Int), acc.length + i < 1000000 → i ≤ 8 →
    keys_Key.l1 (k + i + 1) acc (8 * (i : Int) - 8) x8 x9 x10 a b c = keys_Key.l0 k (acc ++ encT (ub b) i) x8 x9 (wrap64 (x10 + 1)) := by
  intro i
  induction i with
  | zero =>
    intro k acc h hi
    rw [Nat.add_zero, keys_Key.l1, if_neg (by omega)]
    simp [encT]
  | succ i ih =>
    intro k acc h hi
    have e1 : wrap64 ((8 * ((i + 1 : Nat) : Int) - 8) - 8) = 8 * (i : Int) - 8 := by rw [w64 (by omega) (by omega)]; omega
    have e2 : (8 * ((i + 1 : Nat) : Int) - 8) = 8 * (i : Int) := by omega
    have p1 : 8 * ((i + 1 : Nat) : Int) - 8 ≥ 0 := by omega
    have p2 : acc.length < 140737488355328 := by omega
    have hx : bits .xor .u64 (IntKind.u64.wrap b) 9223372036854775808 = ub b := by
      rw [IntKind.wrap_u64, sign_xor _ (by omega) (by omega)]
      unfold ub; omega
    have p3 : 0 ≤ 8 * ((i + 1 : Nat) : Int) - 8 := p1
    rw [show k + (i + 1) + 1 = (k + i + 1) + 1 by omega, keys_Key.l1, if_pos p1, if_pos p3, if_pos p2, e1, hx, ih k _ (by simp; omega) (by omega), e2, List.append_assoc]
    rfl

def allF (row : List S38) : Bool := row.all fmdV
theorem keys_l0 (row : List S38) (hr : row.length ≤ 1000) : ∀ (d j K : Nat) (acc : List Int), row.length - j = d → j ≤ row.length → acc.length ≤ 300 * j → 200 * d + 1 ≤ K →
    keys_Key.l0 K acc row (row.length : Int) (j : Int) = if allF (row.drop j) = true then some (acc ++ encR (row.drop j), 0) else some ([], 1) := by
  intro d
  induction d with
  | zero =>
    intro j K acc hd hj ha hK
    obtain ⟨K, rfl⟩ : ∃ m, K = m + 1 := ⟨K - 1, by omega⟩
    simp only [keys_Key.l0]
    rw [if_neg (by omega), List.drop_eq_nil_of_le (by omega)]
    simp [allF, encR]
  | succ d ih =>
    intro j K acc hd hj ha hK
    obtain ⟨K, rfl⟩ : ∃ m, K = m + 1 := ⟨K - 1, by omega⟩
    have p1 : (j : Int) < (row.length : Int) := by omega
    have p2 : (0 : Int) ≤ (j : Int) := by omega
    have e1 : wrap64 ((j : Int) + 1) = ((j + 1 : Nat) : Int) := by rw [w64 (by omega) (by omega)]; omega
    have p3 : acc.length < 140737488355328 := by omega
    have hd2 := el_drop (row := row) (j := j) (by omega)
    rw [hd2]
    obtain ⟨v, hv⟩ : ∃ v, v = rd_T38 row (j : Int) := ⟨_, rfl⟩
    rw [← hv]
    rw [keys_Key.l0]
    simp only [← hv, value_Formed_f, e1, if_pos p1, if_pos p2, if_pos p3, Option.bind_some]
    by_cases hf : fmdV v = true
    case neg =>
      rw [if_neg hf, if_neg (by simp [allF, hf])]
    have hall : allF (v :: row.drop (j + 1)) = allF (row.drop (j + 1)) := by simp [allF, hf]
    have hlen := encV_length v hf
    rw [if_pos hf, hall]
    have step : ∀ (K' : Nat), 200 * d + 1 ≤ K' → keys_Key.l0 K' (acc ++ encV v) row (row.length : Int) ((j + 1 : Nat) : Int) = if allF (row.drop (j + 1)) = true then some (acc ++ encR (v :: row.drop (j + 1)), 0) else some ([], 1) := fun K' hK' => by
      rw [ih (j + 1) K' (acc ++ encV v) (by omega) (by omega) (by simp; omega) hK', encR, List.append_assoc]
    by_cases h0 : v.f0 = 0
    · rw [if_pos h0]
      have he : encV v = [5] := by unfold encV; rw [if_pos h0]
      rw [← he]
      exact step K (by omega)
    rw [if_neg h0]
    by_cases h1 : v.f0 = 1
    · rw [if_pos h1]
      have he : encV v = [16] ++ encT (ub v.f1) 8 := by unfold encV; rw [if_neg h0, if_pos h1]; rfl
      have := keys_l1 row (row.length : Int) (j : Int) v.f0 v.f1 v.f2 8 (K - 9) (acc ++ [16]) (by simp; omega) (by omega)
      rw [show K - 9 + 8 + 1 = K by omega, show (8 * ((8 : Nat) : Int) - 8) = 56 by omega, e1, List.append_assoc, ← he] at this
      rw [this]
      exact step (K - 9) (by omega)
    · rw [if_neg h1]
      have he : encV v = [32] ++ (repI (bytesOf v.f2) ++ [0, 0]) := by unfold encV; rw [if_neg h0, if_neg h1]; rfl
      have hs : v.f2.size ≤ 100 := by
        unfold fmdV at hf
        rw [if_neg h0, if_neg h1] at hf
        by_cases h2 : v.f0 = 2
        · rw [if_pos h2] at hf
          by_cases h3 : v.f1 = 0
          · rw [if_pos h3] at hf; have := of_decide_eq_true hf; omega
          · rw [if_neg h3] at hf; cases hf
        · rw [if_neg h2] at hf; cases hf
      have hb : bytes_ReplaceAll.f K (bytesOf v.f2) [0] [0, 255] = some (repI (bytesOf v.f2)) := by
        unfold bytes_ReplaceAll.f
        rw [if_pos ⟨by rw [bytesOf_length]; omega, rfl, rfl⟩]
      have hrl := repI_length_le (bytesOf v.f2)
      rw [bytesOf_length] at hrl
      rw [hb]
      simp only [Option.bind_some]
      rw [if_pos (by simp; omega), if_pos (by simp; omega)]
      have := step K (by omega)
      rw [he] at this
      simpa [List.append_assoc] using this

theorem keys_Key_f (row : List S38) (hr : row.length ≤ 1000) (K : Nat) (hK : 200 * row.length + 1 ≤ K) : keys_Key.f K row = if allF row = true then some (encR row, 0) else some ([], 1) := by
  have := keys_l0 row hr row.length 0 K [] (by omega) (by omega) (by simp) hK
  unfold keys_Key.f
  simpa using this
end Go.Proofs.YtbibchinimhamaaDoor.SK
