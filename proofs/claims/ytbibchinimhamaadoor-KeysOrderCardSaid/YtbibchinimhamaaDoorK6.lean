/- KeysOrder's walk for every argument. -/
import Derived.Test.YtbibchinimhamaaDoorKD
import Derived.Test.YtbibchinimhamaaDoorSK6
import Derived.Test.YtbibchinimhamaaDoorOG
namespace Go.Proofs.YtbibchinimhamaaDoor.SK
open Go.RowKit Go.Proofs.YtbibchinimhamaaDoorW.PrintWords Go.Proofs.YtbibchinimhamaaDoorW.PrintMore
set_option linter.unusedVariables false
set_option linter.unusedSimpArgs false

def toS (v : V) : S38 := ⟨v.k, v.n, v.s⟩
theorem C_of_HasV {w : World} {A : Option Addr} {xs : List V} (h : HasV w A xs) (hm : xs.length ≤ maxLen) : Kd.C k38 w A (xs.map toS).length (xs.map toS) := by
  unfold maxLen at hm
  refine ⟨rfl, by rw [List.length_map]; omega, fun hn => ?_⟩
  obtain ⟨b, o, rfl, hc⟩ := h (by intro e; subst e; simp at hn)
  refine ⟨_, rfl, fun j p hj => ?_⟩
  rw [List.getElem?_map] at hj
  obtain ⟨x, hx, rfl⟩ := Option.map_eq_some_iff.1 hj
  have hl := (List.getElem?_eq_some_iff.1 hx).1
  have he : el xs j = x := by unfold el; rw [List.getD_eq_getElem?_getD, hx]; rfl
  obtain ⟨h0, h1, h2⟩ := hc j hl
  rw [he] at h0 h1 h2
  refine ⟨[.int .i64 x.k, .int .i64 x.n, .string x.s], rfl, k38_mk w (toS x), fun i u hu => ?_⟩
  rw [show (⟨b, o, none⟩ : Addr).add (j * k38.sz + i) = ⟨b, o + (j * 3 + i), none⟩ by unfold Addr.add; split <;> simp_all [show k38.sz = 3 from rfl]]
  match i, hu with
  | 0, hu => simp at hu; subst hu; rw [← h0]; congr 2
  | 1, hu => simp at hu; subst hu; rw [← h1]; congr 2
  | 2, hu => simp at hu; subst hu; rw [← h2]; congr 2
  | i + 3, hu => simp at hu

theorem awake_f (k : Nat) (hk : 202 ≤ k) : wainscotlaw04_awake.f k = some true := by
  have := keys_Key_f [(⟨0, 0, ⟨#[]⟩⟩ : S38)] (by simp) k (by simp; omega)
  have hF : allF [(⟨0, 0, ⟨#[]⟩⟩ : S38)] = true := by simp [allF, fmdV, ByteArray.toList_eq]
  rw [if_pos hF] at this
  unfold wainscotlaw04_awake.f
  rw [this]
  simp [encR, encV, ByteArray.toList_eq, strOfNums]

/-! ### bytes of a key -/
def byt (l : List Int) : Prop := ∀ x ∈ l, 0 ≤ x ∧ x ≤ 255
theorem byt_encT (u : Int) : ∀ i, byt (encT u i)
  | 0 => fun x hx => by cases hx
  | i + 1 => by
    intro x hx
    rcases List.mem_cons.1 hx with rfl | hx
    · omega
    · exact byt_encT u i x hx
theorem byt_repI {l : List Int} (h : byt l) : byt (repI l) := by
  induction l with
  | nil => intro x hx; cases hx
  | cons a r ih =>
    have ha := h a List.mem_cons_self
    have hr := ih (fun x hx => h x (List.mem_cons_of_mem _ hx))
    rw [repI]
    split
    · intro x hx
      rcases List.mem_cons.1 hx with rfl | hx
      · omega
      · rcases List.mem_cons.1 hx with rfl | hx
        · omega
        · exact hr x hx
    · intro x hx
      rcases List.mem_cons.1 hx with rfl | hx
      · exact ha
      · exact hr x hx
theorem byt_bytesOf (s : ByteArray) : byt (bytesOf s) := by
  intro x hx
  obtain ⟨y, _, rfl⟩ := List.mem_map.1 hx
  have := UInt8.toNat_lt y
  omega
theorem byt_encV (v : S38) : byt (encV v) := by
  unfold encV
  split
  · intro x hx
    rcases List.mem_singleton.1 hx with rfl
    omega
  · split
    · intro x hx
      rcases List.mem_cons.1 hx with rfl | hx
      · omega
      · exact byt_encT _ _ x hx
    · intro x hx
      rcases List.mem_cons.1 hx with rfl | hx
      · omega
      · rcases List.mem_append.1 hx with hx | hx
        · exact byt_repI (byt_bytesOf _) x hx
        · simp at hx
          omega
theorem byt_encR : ∀ row : List S38, byt (encR row)
  | [] => fun x hx => by cases hx
  | v :: row => by
    intro x hx
    rw [encR] at hx
    rcases List.mem_append.1 hx with hx | hx
    · exact byt_encV v x hx
    · exact byt_encR row x hx
def bl (l : List Int) : List UInt8 := l.map fun n => UInt8.ofNat n.toNat
theorem strOf_toList (l : List Int) : (strOfNums l).toList = bl l := by rw [ByteArray.toList_eq]; rfl
theorem bl_lt : ∀ {x y : List Int}, byt x → byt y → x < y → bl x < bl y
  | [], [], _, _, h => absurd h (List.lt_irrefl [])
  | [], _ :: _, _, _, _ => List.nil_lt_cons _ _
  | _ :: _, [], _, _, h => absurd h (List.not_lt_nil _)
  | a :: x, b :: y, hx, hy, h => by
    have ha := hx a List.mem_cons_self
    have hb := hy b List.mem_cons_self
    refine List.cons_lt_cons_iff.2 ?_
    rcases List.cons_lt_cons_iff.1 h with h1 | ⟨rfl, h1⟩
    · left
      show (UInt8.ofNat a.toNat).toNat < (UInt8.ofNat b.toNat).toNat
      simp only [UInt8.toNat_ofNat']
      omega
    · exact .inr ⟨rfl, bl_lt (fun z hz => hx z (List.mem_cons_of_mem _ hz)) (fun z hz => hy z (List.mem_cons_of_mem _ hz)) h1⟩
theorem less_of {x y : List Int} (hx : byt x) (hy : byt y) (h : x < y) : Op.bytesLess (strOfNums x).toList (strOfNums y).toList = true ∧ Op.bytesLess (strOfNums y).toList (strOfNums x).toList = false := by
  have h1 : Op.bytesLess (strOfNums x).toList (strOfNums y).toList = true := by
    rw [strOf_toList, strOf_toList, bytesLess_lt]
    exact decide_eq_true (bl_lt hx hy h)
  exact ⟨h1, not_bytesLess_both _ _ h1⟩

theorem encR_split (row : List S38) (k : Nat) : encR row = encR (row.take k) ++ encR (row.drop k) := by
  have app : ∀ a b : List S38, encR (a ++ b) = encR a ++ encR b := fun a b => by
    induction a with
    | nil => rfl
    | cons v a ih => rw [List.cons_append, encR, encR, ih, List.append_assoc]
  rw [← app, List.take_append_drop]
theorem allF_take {row : List S38} (h : allF row = true) (k : Nat) : allF (row.take k) = true := by
  unfold allF at *
  rw [List.all_eq_true] at *
  exact fun x hx => h x (List.mem_of_mem_take hx)

theorem law6_j1 (a b : List S38) (n : Int) (hn : 0 ≤ n ∧ n ≤ 255) (ha : a.length ≤ 1000) (hF : allF a = true) (hG : allF b = true) (hia : ∀ v ∈ a, inI' v) (hib : ∀ v ∈ b, inI' v) (K : Nat) (hK : 200 * 1000 + 10 ≤ K) :
    wainscotlaw04_KeysOrder.j1 K a b n (encR a) (encR b) false = some true := by
  obtain ⟨K, rfl⟩ : ∃ m, K = m + 1 := ⟨K - 1, by omega⟩
  have hw : wrap64 n = n := w64 (by omega) (by omega)
  have hx := byt_encR a
  have hy := byt_encR b
  have hcmp : (Op.bytesLess (strOfNums (encR a)).toList (strOfNums (encR b)).toList != decide (rowsO (a.map toV) (b.map toV) < 0)) = false ∧
      (Op.bytesLess (strOfNums (encR b)).toList (strOfNums (encR a)).toList != decide (rowsO (a.map toV) (b.map toV) > 0)) = false := by
    rcases ordR a b hF hG hia hib with ⟨h1, h2⟩ | ⟨h1, h2⟩ | ⟨h1, h2⟩
    · obtain ⟨l1, l2⟩ := less_of hx hy h2
      rw [l1, l2, h1]
      exact ⟨rfl, rfl⟩
    · rw [h1, h2, bytesLess_irrefl]
      exact ⟨rfl, rfl⟩
    · obtain ⟨l1, l2⟩ := less_of hy hx h2
      rw [l1, l2, h1]
      exact ⟨rfl, rfl⟩
  obtain ⟨M, hM⟩ : ∃ M, M = mn n (a.length : Int) := ⟨_, rfl⟩
  have hM0 : 0 ≤ M := by rw [hM]; unfold mn; split <;> omega
  have hM1 : M ≤ (a.length : Int) := by rw [hM]; unfold mn; split <;> omega
  have hz : keys_Key.f K (a.take M.toNat) = some (encR (a.take M.toNat), 0) := by
    rw [keys_Key_f _ (by rw [List.length_take]; omega) K (by rw [List.length_take]; omega), if_pos (allF_take hF _)]
  have hsp := encR_split a M.toNat
  have hle : ((encR (a.take M.toNat)).length : Int) ≤ ((encR a).length : Int) := by rw [hsp, List.length_append]; omega
  have hz0 : (0 : Int) ≤ ((encR (a.take M.toNat)).length : Int) := by omega
  have htk : (encR a).take (encR (a.take M.toNat)).length = encR (a.take M.toNat) := by
    conv => lhs; rw [hsp]
    rw [List.take_left]
  rw [wainscotlaw04_KeysOrder.j1, if_neg (by decide)]
  simp only [value_Rows.f, Option.bind_some, hcmp.1, hcmp.2, Bool.false_eq_true, if_false, hw, ← hM, if_pos hM0, if_pos hM1, hz, if_true, if_pos hle, if_pos hz0, Int.toNat_natCast, htk]
  simp

theorem law6_true (a b : List S38) (n : Int) (hn : 0 ≤ n ∧ n ≤ 255) (hia : ∀ v ∈ a, inI' v) (hib : ∀ v ∈ b, inI' v) : wainscotlaw04_KeysOrder.f 300010 a b n = some true := by
  unfold wainscotlaw04_KeysOrder.f
  rw [awake_f _ (by omega)]
  simp only [Option.bind_some, if_true]
  have hlong : wainscotlaw04_KeysOrder.j0 300010 a b n true = some true := by
    rw [show (300010 : Nat) = 300009 + 1 from rfl, wainscotlaw04_KeysOrder.j0, if_pos rfl, awake_f _ (by omega)]
    rfl
  by_cases ha : a.length ≤ 1000
  case neg =>
    rw [if_pos (by omega)]
    exact hlong
  rw [if_neg (by omega)]
  by_cases hb : b.length ≤ 1000
  case neg =>
    rw [decide_eq_true (show (b.length : Int) > 1000 by omega)]
    exact hlong
  rw [decide_eq_false (show ¬ (b.length : Int) > 1000 by omega), show (300010 : Nat) = 300009 + 1 from rfl, wainscotlaw04_KeysOrder.j0, if_neg (by decide), keys_Key_f a ha _ (by omega), keys_Key_f b hb _ (by omega)]
  have hbad : ∀ x y : List Int, wainscotlaw04_KeysOrder.j1 300009 a b n x y true = some true := fun x y => by
    rw [show (300009 : Nat) = 300008 + 1 from rfl, wainscotlaw04_KeysOrder.j1, if_pos rfl]
  by_cases hF : allF a = true
  · rw [if_pos hF]
    by_cases hG : allF b = true
    · rw [if_pos hG]
      simp only [Option.bind_some, if_true]
      exact law6_j1 a b n hn ha hF hG hia hib 300009 (by omega)
    · rw [if_neg hG]
      simp only [Option.bind_some, if_true]
      exact hbad _ _
  · rw [if_neg hF]
    have : ∀ t : List Int × Int, (if (1 : Int) = 0 then wainscotlaw04_KeysOrder.j1 300009 a b n [] t.1 (t.2 != 0) else wainscotlaw04_KeysOrder.j1 300009 a b n [] t.1 true) = some true := fun t => by
      rw [if_neg (by omega)]; exact hbad _ _
    by_cases hG : allF b = true
    · rw [if_pos hG]
      simp only [Option.bind_some]
      exact this (encR b, 0)
    · rw [if_neg hG]
      simp only [Option.bind_some]
      exact this ([], 1)

theorem inI_of {xs : List V} (hw : ∀ i, i < xs.length → (el xs i).wf) : ∀ v ∈ xs.map toS, inI' v := by
  intro v hv
  obtain ⟨x, hx, rfl⟩ := List.mem_map.1 hv
  obtain ⟨i, hi, rfl⟩ := List.mem_iff_getElem.1 hx
  have h1 := (hw i hi).2.1
  have he : el xs i = xs[i] := by unfold el; rw [List.getD_eq_getElem?_getD, List.getElem?_eq_getElem hi]; rfl
  rw [he] at h1
  simp [Lit.wf, IntKind.min, IntKind.max, IntKind.bits, IntKind.signed] at h1
  exact ⟨by have := h1.1; show _ ≤ xs[i].n; omega, by have := h1.2; show xs[i].n ≤ _; omega⟩

theorem law6 {A0 A1 : Option Addr} {c0 c1 : Nat} {xs ys : List V} {n : Int} {w : World} (h : HasV w A0 xs) (hm : xs.length ≤ maxLen) (hc : xs.length ≤ c0) (hw : ∀ i, i < xs.length → (el xs i).wf)
    (h' : HasV w A1 ys) (hm' : ys.length ≤ maxLen) (hc' : ys.length ≤ c1) (hw' : ∀ i, i < ys.length → (el ys i).wf) (hn : (Lit.int .u8 n).wf = true) :
    Calls Tryd.prog 6 #[.slice A0 xs.length c0, .slice A1 ys.length c1, .int .u8 n] w fun e w' => e = .returned (.bool true) ∧ Below w.heap.size w w' := by
  have := wainscotlaw04_KeysOrder.calls 300010 A0 c0 (xs.map toS) A1 c1 (ys.map toS) n true w (C_of_HasV h hm) (by rw [List.length_map]; exact hc) (C_of_HasV h' hm') (by rw [List.length_map]; exact hc')
    (law6_true _ _ n (bounds_u8 hn) (inI_of hw) (inI_of hw'))
  rw [List.length_map, List.length_map] at this
  exact this
end Go.Proofs.YtbibchinimhamaaDoor.SK
