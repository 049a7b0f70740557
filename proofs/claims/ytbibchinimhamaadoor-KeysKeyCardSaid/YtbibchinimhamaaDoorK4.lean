/- KeysKey's walk for every argument. -/
import Derived.Test.YtbibchinimhamaaDoorKC
import Derived.Test.YtbibchinimhamaaDoorSK5
import Derived.Test.YtbibchinimhamaaDoorOG
namespace Go.Proofs.YtbibchinimhamaaDoor.SK
open Go.RowKit Go.Proofs.YtbibchinimhamaaDoorW.PrintWords Go.Proofs.YtbibchinimhamaaDoorW.PrintMore

def toS (v : V) : S38 := ⟨v.k, v.n, v.s⟩
theorem C_of_HasV {w : World} {A : Option Addr} {xs : List V} (h : HasV w A xs) (hm : xs.length ≤ maxLen) : Kd.C k38 w A (xs.map toS).length (xs.map toS) := by
  unfold maxLen at hm
  refine ⟨rfl, by rw [List.length_map]; omega, fun hn => ?_⟩
  obtain ⟨b, o, rfl, hc⟩ := h (by intro e; subst e; simp at hn)
  refine ⟨_, rfl, fun j p hj => ?_⟩
  rw [List.getElem?_map] at hj
  obtain ⟨x, hx, rfl⟩ := Option.map_eq_some_iff.1 hj
  have hl := (List.getElem?_eq_some_iff.1 hx).1
  have he : el xs j = x := by unfold el; rw [List.getD_eq_getElem?_getD, hx]; rfl
  obtain ⟨h0, h1, h2⟩ := hc j hl
  rw [he] at h0 h1 h2
  refine ⟨[.int .i64 x.k, .int .i64 x.n, .string x.s], rfl, k38_mk w (toS x), fun i u hu => ?_⟩
  rw [show (⟨b, o, none⟩ : Addr).add (j * k38.sz + i) = ⟨b, o + (j * 3 + i), none⟩ by unfold Addr.add; split <;> simp_all [show k38.sz = 3 from rfl]]
  match i, hu with
  | 0, hu => simp at hu; subst hu; rw [← h0]; congr 2
  | 1, hu => simp at hu; subst hu; rw [← h1]; congr 2
  | 2, hu => simp at hu; subst hu; rw [← h2]; congr 2
  | i + 3, hu => simp at hu

theorem awake_f (k : Nat) (hk : 202 ≤ k) : wainscotlaw04_awake.f k = some true := by
  have := keys_Key_f [(⟨0, 0, ⟨#[]⟩⟩ : S38)] (by simp) k (by simp; omega)
  have hF : allF [(⟨0, 0, ⟨#[]⟩⟩ : S38)] = true := by simp [allF, fmdV, ByteArray.toList_eq]
  rw [if_pos hF] at this
  unfold wainscotlaw04_awake.f
  rw [this]
  simp [encR, encV, ByteArray.toList_eq, strOfNums]

theorem order_self (a b : Int) (s : ByteArray) : wainscotref01_Order.f a b s a b s = some 0 := by
  simp [wainscotref01_Order.f, wainscotref01_texts.f, bytesLess_irrefl]
theorem rows_self (x : List S38) (hs : x.length ≤ 1048576) : ∀ (d j k : Nat), x.length - j = d → j ≤ x.length → d < k → wainscotref01_Rows.l0 k x x (x.length : Int) (j : Int) = some 0 := by
  intro d
  induction d with
  | zero =>
    intro j k hd hj hk
    obtain ⟨k, rfl⟩ : ∃ m, k = m + 1 := ⟨k - 1, by omega⟩
    rw [wainscotref01_Rows.l0, if_neg (by omega), if_neg (by omega)]
  | succ d ih =>
    intro j k hd hj hk
    obtain ⟨k, rfl⟩ : ∃ m, k = m + 1 := ⟨k - 1, by omega⟩
    have e1 : wrap64 ((j : Int) + 1) = ((j + 1 : Nat) : Int) := by rw [w64 (by omega) (by omega)]; omega
    rw [wainscotref01_Rows.l0, if_pos (by omega), if_neg (by omega), if_pos (by omega), if_pos (by omega), if_pos (by omega), order_self, e1]
    simp only [Option.bind_some, if_true]
    exact ih (j + 1) k (by omega) (by omega) (by omega)
theorem same_self (x : List S38) (hs : x.length ≤ 1048576) (k : Nat) (hk : x.length < k) : wainscotref01_Same.f k x x = some true := by
  have : wainscotref01_Rows.l0 k x x (x.length : Int) 0 = some 0 := rows_self x hs x.length 0 k (by omega) (by omega) hk
  simp only [wainscotref01_Same.f, if_true, wainscotref01_Rows.f]
  rw [this]
  rfl

theorem encR_length : ∀ (row : List S38), allF row = true → (encR row).length ≤ 300 * row.length
  | [], _ => by simp [encR]
  | v :: row, hF => by
    have hf : fmdV v = true := by simp [allF] at hF; exact hF.1
    have hF2 : allF row = true := by simp [allF] at hF ⊢; exact hF.2
    have h1 := encV_length v hf
    have h2 := encR_length row hF2
    rw [encR, List.length_append, List.length_cons]
    omega

theorem law4_true (row : List S38) (hI : ∀ v ∈ row, inI v) : wainscotlaw04_KeysKey.f 300010 row = some true := by
  unfold wainscotlaw04_KeysKey.f
  rw [awake_f _ (by omega)]
  simp only [Option.bind_some, if_true]
  by_cases hl : row.length ≤ 1000
  case neg =>
    rw [decide_eq_true (show (row.length : Int) > 1000 by omega), show (300010 : Nat) = 300009 + 1 from rfl, wainscotlaw04_KeysKey.j0, if_pos rfl, awake_f _ (by omega)]
    rfl
  rw [decide_eq_false (show ¬ (row.length : Int) > 1000 by omega), show (300010 : Nat) = 300008 + 1 + 1 from rfl, wainscotlaw04_KeysKey.j0, if_neg (by decide), keys_Key_f row hl _ (by omega), ref_Key_f row hl _ (by omega)]
  by_cases hF : allF row = true
  · rw [if_pos hF]
    have hrow := row_enc row [] 300008 hF hI (by have := encR_length row hF; omega) (by simp; omega) (by omega)
    rw [List.nil_append] at hrow
    simp only [Option.bind_some, if_true]
    rw [wainscotlaw04_KeysKey.j1, if_neg (by decide), show keys_Row.f 300008 (encR row) = some (row, 0) from hrow]
    simp only [Option.bind_some, if_true]
    rw [same_self row (by omega) _ (by omega)]
    rfl
  · rw [if_neg hF]
    simp only [Option.bind_some, if_true]
    rw [wainscotlaw04_KeysKey.j1, if_neg (by decide)]
    have h0 : keys_Row.f 300008 [] = some ([], 0) := by
      show keys_Row.l0 (300007 + 1) [] [] = _
      rw [keys_Row.l0, if_neg (by simp)]
    rw [h0]
    simp

theorem law4 {A0 : Option Addr} {c0 : Nat} {xs : List V} {w : World} (h : HasV w A0 xs) (hm : xs.length ≤ maxLen) (hc : xs.length ≤ c0) (hw : ∀ i, i < xs.length → (el xs i).wf) :
    Calls Tryd.prog 4 #[.slice A0 xs.length c0] w fun e w' => e = .returned (.bool true) ∧ Below w.heap.size w w' := by
  have hI : ∀ v ∈ xs.map toS, inI v := by
    intro v hv
    obtain ⟨x, hx, rfl⟩ := List.mem_map.1 hv
    obtain ⟨i, hi, rfl⟩ := List.mem_iff_getElem.1 hx
    have h1 := (hw i hi).2.1
    have he : el xs i = xs[i] := by unfold el; rw [List.getD_eq_getElem?_getD, List.getElem?_eq_getElem hi]; rfl
    rw [he] at h1
    simp [Lit.wf, IntKind.min, IntKind.max, IntKind.bits, IntKind.signed] at h1
    exact ⟨by have := h1.1; show _ ≤ xs[i].n; omega, by have := h1.2; show xs[i].n ≤ _; omega⟩
  have := wainscotlaw04_KeysKey.calls 300010 A0 c0 (xs.map toS) true w (C_of_HasV h hm) (by rw [List.length_map]; exact hc) (law4_true _ hI)
  rw [List.length_map] at this
  exact this
end Go.Proofs.YtbibchinimhamaaDoor.SK
