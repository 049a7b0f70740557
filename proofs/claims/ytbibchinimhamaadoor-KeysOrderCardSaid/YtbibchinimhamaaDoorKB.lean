/- The document's maker of keys writes the bytes 'encR', too. -/
import Derived.Test.YtbibchinimhamaaDoorKA
namespace Go.Proofs.YtbibchinimhamaaDoor.SK
open Go.RowKit Go.Proofs.YtbibchinimhamaaDoorW.PrintWords Go.Proofs.YtbibchinimhamaaDoorW.PrintMore
set_option linter.unusedVariables false
set_option linter.unusedSimpArgs false

theorem fmd_two {v : S38} (hf : fmdV v = true) (h0 : ¬ v.f0 = 0) (h1 : ¬ v.f0 = 1) : v.f0 = 2 ∧ v.f1 = 0 ∧ v.f2.size ≤ 100 := by
  unfold fmdV at hf
  rw [if_neg h0, if_neg h1] at hf
  by_cases h2 : v.f0 = 2
  · rw [if_pos h2] at hf
    by_cases h3 : v.f1 = 0
    · rw [if_pos h3] at hf; have := of_decide_eq_true hf; exact ⟨h2, h3, by omega⟩
    · rw [if_neg h3] at hf; cases hf
  · rw [if_neg h2] at hf; cases hf

theorem formed_row (row : List S38) (hr : row.length ≤ 1000) : ∀ (d j K : Nat), row.length - j = d → j ≤ row.length → d + 1 ≤ K →
    wainscotref01_FormedRow.l0 K row (row.length : Int) (j : Int) = some (allF (row.drop j)) := by
  intro d
  induction d with
  | zero =>
    intro j K hd hj hK
    obtain ⟨K, rfl⟩ : ∃ m, K = m + 1 := ⟨K - 1, by omega⟩
    rw [wainscotref01_FormedRow.l0, if_neg (by omega), List.drop_eq_nil_of_le (by omega)]
    rfl
  | succ d ih =>
    intro j K hd hj hK
    obtain ⟨K, rfl⟩ : ∃ m, K = m + 1 := ⟨K - 1, by omega⟩
    have p1 : (j : Int) < (row.length : Int) := by omega
    have p2 : (0 : Int) ≤ (j : Int) := by omega
    have e1 : wrap64 ((j : Int) + 1) = ((j + 1 : Nat) : Int) := by rw [w64 (by omega) (by omega)]; omega
    rw [el_drop (row := row) (j := j) (by omega), wainscotref01_FormedRow.l0]
    simp only [ref_Formed_f, e1, if_pos p1, if_pos p2, Option.bind_some]
    rw [ih (j + 1) K (by omega) (by omega) (by omega)]
    by_cases hf : fmdV (rd_T38 row (j : Int)) = true
    · rw [if_pos hf]; simp [allF, hf]
    · rw [if_neg hf]; simp [allF, hf]
theorem formed_row_f (row : List S38) (hr : row.length ≤ 1000) (K : Nat) (hK : row.length + 1 ≤ K) : wainscotref01_FormedRow.f K row = some (allF row) := by
  have := formed_row row hr row.length 0 K (by omega) (by omega) hK
  unfold wainscotref01_FormedRow.f
  simpa using this

theorem ref_l1 (x0 : List S38) (x13 x14 a b : Int) (c : ByteArray) : ∀ (i k : Nat) (acc : List Int), acc.length + i < 1000000 → i ≤ 8 →
    wainscotref01_Key.l1 (k + i + 1) x0 acc ((i : Int) - 1) x13 x14 a b c = wainscotref01_Key.l0 k x0 (acc ++ encT (ub b) i) x13 (wrap64 (x14 + 1)) := by
  intro i
  induction i with
  | zero =>
    intro k acc h hi
    rw [Nat.add_zero, wainscotref01_Key.l1, if_neg (by omega)]
    simp [encT]
  | succ i ih =>
    intro k acc h hi
    have e0 : ((i + 1 : Nat) : Int) - 1 = (i : Int) := by omega
    have e1 : wrap64 ((i : Int) - 1) = (i : Int) - 1 := w64 (by omega) (by omega)
    have e2 : wrap64 (8 * (i : Int)) = 8 * (i : Int) := w64 (by omega) (by omega)
    have p1 : (i : Int) ≥ 0 := by omega
    have p2 : acc.length < 140737488355328 := by omega
    have p3 : (0 : Int) ≤ 8 * (i : Int) := by omega
    have hx : IntKind.u64.wrap ((IntKind.u64.wrap b) + 9223372036854775808) = ub b := by
      rw [IntKind.wrap_u64, IntKind.wrap_u64]
      unfold ub; omega
    rw [show k + (i + 1) + 1 = (k + i + 1) + 1 by omega, wainscotref01_Key.l1, e0, if_pos p1, e2, if_pos p3, if_pos p2, e1, hx, ih k _ (by simp; omega) (by omega), List.append_assoc]
    rfl

theorem bytes_drop {s : ByteArray} {j : Nat} (h : j < s.size) : (bytesOf s).drop j = bt s (j : Int) :: (bytesOf s).drop (j + 1) := by
  have hl : j < (bytesOf s).length := by rw [bytesOf_length]; exact h
  rw [List.drop_eq_getElem_cons hl]
  congr 1
  rw [← rd_bytesOf]
  show _ = (bytesOf s).getD (j : Int).toNat 0
  rw [Int.toNat_natCast, List.getD_eq_getElem?_getD, List.getElem?_eq_getElem hl]
  rfl

theorem ref_l2 (x0 : List S38) (x13 x14 a b : Int) (s : ByteArray) (hs : s.size ≤ 100) : ∀ (d j k : Nat) (acc : List Int), s.size - j = d → j ≤ s.size → acc.length + 3 * d < 1000000 →
    wainscotref01_Key.l2 (k + d + 1) x0 acc x13 x14 (s.size : Int) (j : Int) a b s = wainscotref01_Key.l0 k x0 (acc ++ (repI ((bytesOf s).drop j) ++ [0, 0])) x13 (wrap64 (x14 + 1)) := by
  intro d
  induction d with
  | zero =>
    intro j k acc hd hj h
    have hn : (bytesOf s).drop j = [] := List.drop_eq_nil_of_le (by rw [bytesOf_length]; omega)
    rw [Nat.add_zero, wainscotref01_Key.l2, if_neg (by omega), hn]
    simp only [Option.bind_some]
    rw [if_pos (by simp; omega)]
    simp [repI]
  | succ d ih =>
    intro j k acc hd hj h
    have p1 : (j : Int) < (s.size : Int) := by omega
    have p2 : (0 : Int) ≤ (j : Int) := by omega
    have p3 : acc.length < 140737488355328 := by omega
    have e1 : wrap64 ((j : Int) + 1) = ((j + 1 : Nat) : Int) := by rw [w64 (by omega) (by omega)]; omega
    rw [show k + (d + 1) + 1 = (k + d + 1) + 1 by omega, wainscotref01_Key.l2, bytes_drop (by omega)]
    simp only [if_pos p1, if_pos p2, if_pos p3, e1, Option.bind_some]
    by_cases h0 : bt s (j : Int) = 0
    · rw [if_pos h0, if_pos (by simp; omega), ih (j + 1) k _ (by omega) (by omega) (by simp; omega), h0, repI, if_pos rfl]
      simp [List.append_assoc]
    · rw [if_neg h0, ih (j + 1) k _ (by omega) (by omega) (by simp; omega), repI, if_neg h0]
      simp [List.append_assoc]

theorem ref_l0 (row : List S38) (hr : row.length ≤ 1000) : ∀ (d j K : Nat) (acc : List Int), row.length - j = d → j ≤ row.length → acc.length ≤ 300 * j → 200 * d + 1 ≤ K → allF (row.drop j) = true →
    wainscotref01_Key.l0 K row acc (row.length : Int) (j : Int) = some (acc ++ encR (row.drop j), 0) := by
  intro d
  induction d with
  | zero =>
    intro j K acc hd hj ha hK hF
    obtain ⟨K, rfl⟩ : ∃ m, K = m + 1 := ⟨K - 1, by omega⟩
    rw [wainscotref01_Key.l0, if_neg (by omega), List.drop_eq_nil_of_le (by omega)]
    simp [encR]
  | succ d ih =>
    intro j K acc hd hj ha hK hF
    obtain ⟨K, rfl⟩ : ∃ m, K = m + 1 := ⟨K - 1, by omega⟩
    have p1 : (j : Int) < (row.length : Int) := by omega
    have p2 : (0 : Int) ≤ (j : Int) := by omega
    have e1 : wrap64 ((j : Int) + 1) = ((j + 1 : Nat) : Int) := by rw [w64 (by omega) (by omega)]; omega
    have p3 : acc.length < 140737488355328 := by omega
    have hd2 := el_drop (row := row) (j := j) (by omega)
    rw [hd2] at hF ⊢
    obtain ⟨v, hv⟩ : ∃ v, v = rd_T38 row (j : Int) := ⟨_, rfl⟩
    rw [← hv] at hF ⊢
    have hf : fmdV v = true := by simp [allF] at hF; exact hF.1
    have hF2 : allF (row.drop (j + 1)) = true := by simp [allF] at hF ⊢; exact hF.2
    have hlen := encV_length v hf
    have step : ∀ (K' : Nat), 200 * d + 1 ≤ K' → wainscotref01_Key.l0 K' row (acc ++ encV v) (row.length : Int) ((j + 1 : Nat) : Int) = some (acc ++ encR (v :: row.drop (j + 1)), 0) := fun K' hK' => by
      rw [ih (j + 1) K' (acc ++ encV v) (by omega) (by omega) (by simp; omega) hK' hF2, encR, List.append_assoc]
    rw [wainscotref01_Key.l0]
    simp only [← hv, e1, if_pos p1, if_pos p2, if_pos p3]
    by_cases h0 : v.f0 = 0
    · rw [if_pos h0]
      have he : encV v = [5] := by unfold encV; rw [if_pos h0]
      rw [← he]
      exact step K (by omega)
    rw [if_neg h0]
    by_cases h1 : v.f0 = 1
    · rw [if_pos h1]
      have he : encV v = [16] ++ encT (ub v.f1) 8 := by unfold encV; rw [if_neg h0, if_pos h1]; rfl
      have := ref_l1 row (row.length : Int) (j : Int) v.f0 v.f1 v.f2 8 (K - 9) (acc ++ [16]) (by simp; omega) (by omega)
      rw [show K - 9 + 8 + 1 = K by omega, show (((8 : Nat) : Int) - 1) = 7 by omega, e1, List.append_assoc, ← he] at this
      rw [this]
      exact step (K - 9) (by omega)
    rw [if_neg h1]
    obtain ⟨h2, h3, hs⟩ := fmd_two hf h0 h1
    rw [if_pos h2]
    have he : encV v = [32] ++ (repI (bytesOf v.f2) ++ [0, 0]) := by unfold encV; rw [if_neg h0, if_neg h1]; rfl
    have := ref_l2 row (row.length : Int) (j : Int) v.f0 v.f1 v.f2 hs v.f2.size 0 (K - v.f2.size - 1) (acc ++ [32]) (by omega) (by omega) (by simp; omega)
    rw [show K - v.f2.size - 1 + v.f2.size + 1 = K by omega, e1, List.drop_zero, List.append_assoc, ← he] at this
    have this2 : wainscotref01_Key.l2 K row (acc ++ [32]) (row.length : Int) (j : Int) (v.f2.size : Int) 0 v.f0 v.f1 v.f2 = _ := this
    rw [this2]
    exact step (K - v.f2.size - 1) (by omega)

theorem ref_Key_f (row : List S38) (hr : row.length ≤ 1000) (K : Nat) (hK : 200 * row.length + 1 ≤ K) : wainscotref01_Key.f K row = if allF row = true then some (encR row, 0) else some ([], 1) := by
  unfold wainscotref01_Key.f
  rw [formed_row_f row hr K (by omega)]
  simp only [Option.bind_some]
  by_cases h : allF row = true
  · rw [if_pos h, if_pos h]
    have := ref_l0 row hr row.length 0 K [] (by omega) (by omega) (by simp) hK (by simpa using h)
    simpa using this
  · rw [if_neg h, if_neg h]
end Go.Proofs.YtbibchinimhamaaDoor.SK
