/- value.Rows over rows as the printed walks tell them. -/
import Derived.Test.YtbibchinimhamaaDoorOD
import Derived.Test.YtbibchinimhamaaDoorSK0
import Derived.OpenShut
import Derived.Test.YtbibchinimhamaaDoorBL
import Derived.Laws.Cover1
namespace Go.Proofs.YtbibchinimhamaaDoor.SK
open Go.RowKit Go.Proofs.YtbibchinimhamaaDoorW.PrintWords

set_option linter.unusedVariables false

/-- '>' of two strings, as '<' the other way round. -/
theorem gtr_str (t : TypeId) (a b : ByteArray) : (binOp .gtr t (.string a) (.string b) : Sem Value) = pure (.bool (Op.bytesLess b.toList a.toList)) := by
  rw [binOp_string_gtr]
  congr 2
  cases h1 : Op.bytesLess b.toList a.toList with
  | true =>
    have h2 := not_bytesLess_both _ _ h1
    have h3 : (a.toList == b.toList) = false := beq_eq_false_iff_ne.mpr (fun e => by rw [e, bytesLess_irrefl] at h1; cases h1)
    rw [h2, h3]; rfl
  | false =>
    rcases bytesLess_or a.toList b.toList with h2 | h2 | h2
    · rw [h2]; rfl
    · rw [h2]; simp
    · rw [h1] at h2; cases h2

def toV (x : S38) : V := ⟨x.f0, x.f1, x.f2⟩
theorem HasV_of_C {w : World} {A : Option Addr} {l : List S38} (h : Kd.C k38 w A l.length l) : HasV w A (l.map toV) := by
  intro hn
  obtain ⟨ad, rfl, hc⟩ := h.2.2 (by rcases l with _ | _ <;> simp_all)
  have each : ∀ i, i < l.length → w.cell? (ad.add (i * 3)) = some (.int .i64 (rd_T38 l (i : Int)).f0) ∧ w.cell? (ad.add (i * 3 + 1)) = some (.int .i64 (rd_T38 l (i : Int)).f1) ∧ w.cell? (ad.add (i * 3 + 2)) = some (.string (rd_T38 l (i : Int)).f2) := by
    intro i hi
    obtain ⟨c, _, hK, hcell⟩ := hc i _ (List.getElem?_eq_getElem hi)
    obtain rfl := k38_open hK
    have he : rd_T38 l (i : Int) = l[i] := by
      show l.getD (i : Int).toNat z38 = _
      rw [Int.toNat_natCast, List.getD_eq_getElem?_getD, List.getElem?_eq_getElem hi]; rfl
    rw [he]
    exact ⟨hcell 0 _ rfl, hcell 1 _ rfl, hcell 2 _ rfl⟩
  have h0 : 0 < l.length := by rcases l with _ | _ <;> simp_all
  obtain ⟨b, off, spot⟩ := ad
  have hspot : spot = none := by simpa [Addr.add] using World.cell?_spot (each 0 h0).1
  subst hspot
  refine ⟨b, off, rfl, fun i hi => ?_⟩
  rw [List.length_map] at hi
  obtain ⟨g0, g1, g2⟩ := each i hi
  have he : el (l.map toV) i = toV (rd_T38 l (i : Int)) := by
    unfold el
    show (l.map toV).getD i default = toV (l.getD (i : Int).toNat z38)
    rw [Int.toNat_natCast, List.getD_eq_getElem?_getD, List.getD_eq_getElem?_getD, List.getElem?_map, List.getElem?_eq_getElem hi]
    rfl
  have pl : ∀ j, (⟨b, off, none⟩ : Addr).add j = ⟨b, off + j, none⟩ := fun j => by unfold Addr.add; split <;> simp_all
  rw [pl] at g0 g1 g2
  rw [he]
  exact ⟨g0, by rw [← Nat.add_assoc] at g1; exact g1, by rw [← Nat.add_assoc] at g2; exact g2⟩

def value_Rows.f (_k : Nat) (l0 l1 : List S38) : Option Int := some (rowsO (l0.map toV) (l1.map toV))
theorem value_Rows.mono : ∀ a0 a1 k, LeO (value_Rows.f k a0 a1) (value_Rows.f (k + 1) a0 a1) := fun _ _ _ _ h => h
theorem value_Rows.calls (k : Nat) (A0 : Option Addr) (c0 : Nat) (l0 : List (S38)) (A1 : Option Addr) (c1 : Nat) (l1 : List (S38)) (r : Int) (w : World) (hr0 : Kd.C k38 w A0 l0.length l0) (hc0 : l0.length ≤ c0) (hr1 : Kd.C k38 w A1 l1.length l1) (hc1 : l1.length ≤ c1) (h : value_Rows.f k l0 l1 = some r) :
    Calls Tryd.prog 15 #[.slice A0 l0.length c0, .slice A1 l1.length c1] w fun e w' => e = .returned (.int .i64 r) ∧ Below w.heap.size w w' := by
  have h0 := hr0.2.1
  have h1 := hr1.2.1
  have := rows18 A0 A1 (l0.map toV) (l1.map toV) c0 c1 w (HasV_of_C hr0) (HasV_of_C hr1) (by rw [List.length_map]; unfold maxLen; omega) (by rw [List.length_map]; unfold maxLen; omega)
  rw [List.length_map, List.length_map] at this
  obtain rfl := Option.some.inj h
  exact this
end Go.Proofs.YtbibchinimhamaaDoor.SK
