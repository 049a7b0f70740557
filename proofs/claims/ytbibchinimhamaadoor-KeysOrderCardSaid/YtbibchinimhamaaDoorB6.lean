/- bytes.ReplaceAll of the byte 0 by 0, 255 where the text's bytes were made by a conversion; the conversion as a step. -/
import Derived.Test.YtbibchinimhamaaDoorB5
import Derived.Test.YtbibchinimhamaaDoorWLast
import Derived.Test.YtbibchinimhamaaDoorWMore
import Derived.Lib.ConvBytes
namespace Go.Proofs.YtbibchinimhamaaDoor
open Go.RowKit Go.Proofs.YtbibchinimhamaaDoorW.PrintWords
set_option linter.unusedVariables false
set_option linter.unusedSimpArgs false

def repI : List Int → List Int
  | [] => []
  | x :: r => if x = 0 then 0 :: 255 :: repI r else x :: repI r
theorem repI_nums (l : List UInt8) : repI (numsL l) = numsL (rep l) := by
  induction l with
  | nil => rfl
  | cons x l ih =>
    show repI ((x.toNat : Int) :: numsL l) = _
    rw [repI, rep]
    by_cases h : x = 0
    · subst h
      rw [if_pos rfl, if_pos (by simp), ih]; rfl
    · have h2 : ¬ (x.toNat : Int) = 0 := fun e => h (UInt8.toNat_inj.mp (by show x.toNat = 0; omega))
      rw [if_neg h2, if_neg h, ih]; rfl
theorem bytesOf_nums (s : ByteArray) : bytesOf s = numsL s.data.toList := rfl

theorem below_bytes (W : World) (s : ByteArray) : Below W.heap.size W (Lib.bytesWorld W 5 s) := by
  refine ⟨rfl, rfl, rfl, ?_, fun k hk => Lib.bytesWorld_at_old W 5 s k hk⟩
  rw [Lib.bytesWorld_size]; omega

theorem has_bytes (W : World) (s : ByteArray) : HasL (Lib.bytesWorld W 5 s) W.heap.size 0 s.data.toList := by
  intro j x hj
  have hl := (List.getElem?_eq_some_iff.1 hj).1
  rw [Nat.zero_add, Lib.bytesWorld_cell W 5 s j (by simpa using hl), List.getD_eq_getElem?_getD, hj]
  rfl

section
variable {P : Program} {ops : Array Oper} {o : Oper} {rest : List Oper} {a : Act} {Q : Exit → Act → World → Prop} {W : World}
/-- '[]byte(s)' as a step of a walk. -/
theorem conv_event (hgd : o.guard = none) {N p : Tmp} (_hd : o.dst = some N) (ho : o.op = .convert 9 22 (.tmp p)) (s : ByteArray) (hs : a.eval (.tmp p) = .string s)
    (h : ∀ g c w1, HasL w1 g 0 s.data.toList → s.size ≤ c → Below W.heap.size W w1 → wpList Tryd.prog ops Q rest (a.put o.dst (.slice (some ⟨g, 0, none⟩) s.size c)) w1) : wpList Tryd.prog ops Q (o :: rest) a W := by
  have hr := Lib.run_convert_string_bytes (P := Tryd.prog) W 9 22 5 s Tryd.underlying9 Tryd.underlying22 Tryd.underlying5
  refine Kd.event_run hgd (v := .slice (some ⟨W.heap.size, 0, none⟩) s.size (grownCap W s.size 0 5)) (w1 := Lib.bytesWorld W 5 s) ?_ (h _ _ _ (has_bytes W s) ?_ (below_bytes W s))
  · unfold execOp
    simp [ho, hs, hr, Result.andThen]
  · exact grownCap_ge W s.size 0 5
end

/-- A row of the call's own, at its block's head. -/
theorem R_at {w : World} {base : Nat} {ok : Nat → Prop} {v : Value} {x : Int} {xs : List Int} (h : Kd.R (Kd.int .u8) 5 w base ok v (x :: xs)) : ∃ g cap, v = .slice (some ⟨g, 0, none⟩) (xs.length + 1) cap ∧ ∀ j y, (x :: xs)[j]? = some y → w.cell? ⟨g, j, none⟩ = some (.int .u8 y) := by
  obtain ⟨inner, ho⟩ := Kd.R_own h
  obtain ⟨A, c, he, hl, hC⟩ := Kd.R_reads h
  rcases ho.2 with ⟨_, h2⟩ | ⟨g, cap, cur, hv, hg, hh, hle, hm, hsz, htk⟩
  · simp at h2
  refine ⟨g, cap, by rw [hv]; simp, fun j y hj => ?_⟩
  have hA : A = some ⟨g, 0, none⟩ := by
    rw [hv] at he
    injection he with h1 _ _
    exact h1.symm
  obtain ⟨ad, e1, hc⟩ := (Kd.reads_of_C (enc := Value.int .u8) (d := (0 : Int)) (h1 := fun _ => rfl) hC).2.2 (by simp)
  rw [hA] at e1
  injection e1 with e1
  subst e1
  have hl := (List.getElem?_eq_some_iff.1 hj).1
  have := hc j hl
  rw [List.getD_eq_getElem?_getD, hj] at this
  rw [show (⟨g, 0, none⟩ : Addr).add j = ⟨g, j, none⟩ by unfold Addr.add; split <;> simp_all] at this
  exact this

theorem R_of_own {w : World} {base : Nat} {v : Value} {l : List UInt8} (h : w.ownsRow base 5 1 v l.length (nv l)) : Kd.R (Kd.int .u8) 5 w base (fun _ => True) v (numsL l) := by
  refine ⟨fun _ _ => trivial, nv l, ?_, ?_⟩
  · rw [numsL_length]; exact h
  · refine ⟨by rw [nv_length, numsL_length]; show l.length = l.length * 1; omega, fun j p hj => ?_⟩
    rw [numsL, List.getElem?_map] at hj
    obtain ⟨x, hx, rfl⟩ := Option.map_eq_some_iff.1 hj
    have hl := (List.getElem?_eq_some_iff.1 hx).1
    show ((nv l).drop (j * 1)).take 1 = [.int .u8 (x.toNat : Int)]
    rw [Nat.mul_one, nv, ← List.map_drop, ← List.map_take, List.drop_eq_getElem_cons hl, (List.getElem?_eq_some_iff.1 hx).2]
    rfl

theorem replaceAll_text (g c0 : Nat) (s : ByteArray) (v1 v2 : Value) {b1 b2 : Nat} {ok1 ok2 : Nat → Prop} (w : World) (hr0 : HasL w g 0 s.data.toList) (hc0 : s.size ≤ c0) (hs : s.size ≤ 1000)
    (h1 : Kd.R (Kd.int .u8) 5 w b1 ok1 v1 [0]) (h2 : Kd.R (Kd.int .u8) 5 w b2 ok2 v2 [0, 255]) :
    Calls Tryd.prog 18 #[.slice (some ⟨g, 0, none⟩) s.size c0, v1, v2] w fun e w' => ∃ v0_, e = .returned v0_ ∧ Kd.R (Kd.int .u8) 5 w' w.heap.size (fun _ => True) v0_ (repI (bytesOf s)) ∧ Below w.heap.size w w' := by
  obtain ⟨g1, d1, rfl, hc1⟩ := R_at h1
  obtain ⟨g2, d2, rfl, hc2⟩ := R_at h2
  have hl : s.data.toList.length = s.size := by simp
  refine (replaceAll18 g s.size c0 g1 g2 d1 d2 s.data.toList w hl hs hc0 hr0 (hc1 0 0 rfl) (fun j x hj => ?_)).mono ?_
  · rw [Nat.zero_add]
    refine hc2 j _ ?_
    match j, hj with
    | 0, hj => simp at hj; subst hj; rfl
    | 1, hj => simp at hj; subst hj; rfl
    | j + 2, hj => simp at hj
  · rintro e w' ⟨v, rfl, ho, hb⟩
    refine ⟨v, rfl, ?_, hb⟩
    rw [bytesOf_nums, repI_nums]
    exact R_of_own ho
end Go.Proofs.YtbibchinimhamaaDoor
