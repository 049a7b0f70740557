/- wainscotlaw17.Theirs: a program, as the package has it. -/
import Derived.Test.YtbibchinimhamaaP
import Derived.Deep.AppendLies
import Derived.Deep.RegionLaw
import Derived.ProofKit
namespace Go.Proofs.Ytbibchinimhamaa
open Go.RowKit

def iCells (x : I) : List Value := [.string x.op, .int .i64 x.a, .int .i64 x.b, .int .i64 x.c, .int .i64 x.v.k, .int .i64 x.v.n, .string x.v.s]
def cellsI (xs : List I) : List Value := xs.flatMap iCells
theorem cellsI_take {xs : List I} {k : Nat} (hk : k < xs.length) : cellsI (xs.take (k + 1)) = cellsI (xs.take k) ++ iCells (ei xs k) := by
  have e : ei xs k = xs[k] := by simp [ei, hk]
  rw [List.take_succ_eq_append_getElem hk, e]
  simp only [cellsI, List.flatMap_append, List.flatMap_cons, List.flatMap_nil, List.append_nil]
theorem grownBy_set (w : World) (b i : Nat) (u : Value) : w.grownBy (w.setCell ⟨b, i, none⟩ u) (some b) :=
  ⟨rfl, rfl, rfl, by simp [World.setCell], fun k _ hne => Below.heap_setCell _ _ _ _ (fun e => hne (by rw [e]))⟩
theorem Try.info55 : (Try.prog.info? 55).map (fun i => (i.zero, i.size, i.bytes)) = some (some (.agg #[.string ⟨#[]⟩, .int .i64 0, .int .i64 0, .int .i64 0, .int .i64 0, .int .i64 0, .string ⟨#[]⟩]), 7, 72) := by kernel_rfl

/-- What the loop holds: the box of the program that came in, the result's block, the block of the program that is made, its code's row. -/
structure T12 (w wr : World) (A : Option Addr) (xs : List I) (c : Nat) (regs : Int) (k : Nat) (v : Value) : Prop where
  hp : PBox wr w.heap.size (.slice A xs.length c) regs
  hr : wr.heap[w.heap.size + 1]? = some (.cells #[.slice none 0 0, .int .i64 0] 29 (0, 0))
  ho : wr.heap[w.heap.size + 1 + 1]? = some (.cells #[v, .int .i64 regs] 29 (0, 0))
  hown : wr.ownsRow (w.heap.size + 3) 55 7 v k (cellsI (xs.take k))
  hb : Below w.heap.size w wr
  hs : w.heap.size + 3 ≤ wr.heap.size

theorem own_ne {w : World} {base : Nat} {e : TypeId} {size : Nat} {v : Value} {n : Nat} {xs : List Value} (h : w.ownsRow base e size v n xs) {b : Nat} (hb : b < base) : some b ≠ v.ownBlock := by
  rcases h.2 with ⟨rfl, _⟩ | ⟨g, cap, cur, rfl, hg, _⟩
  · simp [Value.ownBlock]
  · simp [Value.ownBlock]; omega
theorem own_ge {w : World} {base : Nat} {e : TypeId} {size : Nat} {v : Value} {n : Nat} {xs : List Value} (h : w.ownsRow base e size v n xs) {b : Nat} (hb : v.ownBlock = some b) : base ≤ b := by
  rcases Nat.lt_or_ge b base with h1 | h1
  · exact absurd hb.symm (own_ne h h1)
  · exact h1
theorem cell_of_out {w : World} {g : Nat} {v u : Value} {t : TypeId} (h : w.heap[g]? = some (.cells #[v, u] t (0, 0))) : w.cell? ⟨g, 0, none⟩ = some v ∧ w.cell? ⟨g, 1, none⟩ = some u ∧ w.frozen? ⟨g, 0, none⟩ = false ∧ w.frozen? ⟨g, 1, none⟩ = false := by
  refine ⟨?_, ?_, ?_, ?_⟩ <;> simp [World.cell?, World.frozen?, h]

theorem T12.start (w : World) (A : Option Addr) (xs : List I) (c : Nat) (regs : Int) :
    T12 w (((w.alloc (.cells #[.slice A xs.length c, .int .i64 regs] 24)).alloc (.cells #[.slice none 0 0, .int .i64 0] 29)).alloc (.cells #[.slice none 0 0, .int .i64 regs] 29)) A xs c regs 0 (.slice none 0 0) := by
  refine ⟨?_, ?_, ?_, ?_, by go_grown, by simp⟩
  · exact ((PBox.new w (.slice A xs.length c) regs 24).below (by go_grown))
  · have h := heap_alloc_new (w.alloc (.cells #[.slice A xs.length c, .int .i64 regs] 24)) (.cells #[.slice none 0 0, .int .i64 0] 29)
    simp only [World.size_alloc] at h
    rw [Below.heap_alloc _ _ _ (by simp)]
    exact h
  · have h := heap_alloc_new ((w.alloc (.cells #[.slice A xs.length c, .int .i64 regs] 24)).alloc (.cells #[.slice none 0 0, .int .i64 0] 29)) (.cells #[.slice none 0 0, .int .i64 regs] 29)
    simpa only [World.size_alloc] using h
  · exact World.ownsRow_nil _ _ _ _

theorem T12.step {w wr w1 : World} {A : Option Addr} {xs : List I} {c : Nat} {regs : Int} {k g cap : Nat} {v : Value} {X : Obj} (h : T12 w wr A xs c regs k v) (hk : k < xs.length)
    (hown1 : w1.ownsRow (w.heap.size + 3) 55 7 (.slice (some ⟨g, 0, none⟩) (k + 1) cap) (k + 1) (cellsI (xs.take k) ++ iCells (ei xs k)))
    (hgrow : ((wr.alloc X).drew).grownBy w1 v.ownBlock) :
    T12 w (w1.setCell ⟨w.heap.size + 1 + 1, 0, none⟩ (.slice (some ⟨g, 0, none⟩) (k + 1) cap)) A xs c regs (k + 1) (.slice (some ⟨g, 0, none⟩) (k + 1) cap) := by
  have hs := h.hs
  have hsz : wr.heap.size + 1 ≤ w1.heap.size := by have := hgrow.size; simpa using this
  have old : ∀ b, b < w.heap.size + 3 → b ≠ w.heap.size + 1 + 1 → (w1.setCell ⟨w.heap.size + 1 + 1, 0, none⟩ (.slice (some ⟨g, 0, none⟩) (k + 1) cap)).heap[b]? = wr.heap[b]? := by
    intro b hb hne
    rw [Below.heap_setCell _ _ _ _ hne, hgrow.block b (by simp; omega) (own_ne h.hown hb)]
    exact Below.heap_alloc wr X b (by omega)
  have ho1 : w1.heap[w.heap.size + 1 + 1]? = some (.cells #[v, .int .i64 regs] 29 (0, 0)) := by
    rw [hgrow.block _ (by simp; omega) (own_ne h.hown (by omega))]
    exact (Below.heap_alloc wr X _ (by omega)).trans h.ho
  refine ⟨?_, ?_, ?_, ?_, ?_, ?_⟩
  · exact ⟨(World.cell?_of_block (w := wr) (a := ⟨w.heap.size, 0, none⟩) (old _ (by simp) (by simp; omega))).trans h.hp.1, (World.cell?_of_block (w := wr) (a := ⟨w.heap.size, 1, none⟩) (old _ (by simp) (by simp; omega))).trans h.hp.2⟩
  · exact (old _ (by omega) (by omega)).trans h.hr
  · simp [World.setCell, Array.getElem?_modify, ho1]
  · rw [cellsI_take hk]
    exact hown1.kept (grownBy_set _ _ _ _) (.inr (fun e => own_ne hown1 (b := w.heap.size + 1 + 1) (by omega) e.symm))
  · refine Below.setCell ?_ (by simp; omega) _
    refine Below.grown (h.hb.alloc h.hb.size X).drew hgrow (by simp; omega) (fun b hb => ?_)
    have := own_ge h.hown hb
    omega
  · simp [World.setCell]; omega
theorem T12.out {w wr w1 : World} {A : Option Addr} {xs : List I} {c : Nat} {regs : Int} {k : Nat} {v : Value} {X : Obj} (h : T12 w wr A xs c regs k v)
    (hgrow : ((wr.alloc X).drew).grownBy w1 v.ownBlock) : w1.cell? ⟨w.heap.size + 1 + 1, 0, none⟩ = some v ∧ w1.frozen? ⟨w.heap.size + 1 + 1, 0, none⟩ = false := by
  have hs := h.hs
  have ho1 : w1.heap[w.heap.size + 1 + 1]? = some (.cells #[v, .int .i64 regs] 29 (0, 0)) := by
    rw [hgrow.block _ (by simp; omega) (own_ne h.hown (by omega))]
    exact (Below.heap_alloc wr X _ (by omega)).trans h.ho
  exact ⟨(cell_of_out ho1).1, (cell_of_out ho1).2.2.1⟩

theorem cellsI_at : ∀ (xs : List I) (i j : Nat), i < xs.length → j < 7 → (cellsI xs)[i * 7 + j]? = (iCells (ei xs i))[j]?
  | [], i, j, hi, _ => absurd hi (by simp)
  | x :: xs, 0, j, _, hj => by
    have h : cellsI (x :: xs) = iCells x ++ cellsI xs := by simp [cellsI]
    rw [h, List.getElem?_append_left (by simp [iCells]; omega)]
    simp [ei]
  | x :: xs, i + 1, j, hi, hj => by
    have h : cellsI (x :: xs) = iCells x ++ cellsI xs := by simp [cellsI]
    rw [h, List.getElem?_append_right (by simp [iCells]; omega)]
    have e : (i + 1) * 7 + j - (iCells x).length = i * 7 + j := by simp [iCells]; omega
    rw [e, cellsI_at xs i j (by simpa using hi) hj]
    rfl
theorem own_hasI {w : World} {base : Nat} {v : Value} {xs : List I} (h : w.ownsRow base 55 7 v xs.length (cellsI xs)) : ∃ A c, v = .slice A xs.length c ∧ HasI w A xs := by
  rcases Nat.eq_zero_or_pos xs.length with h0 | h0
  · rcases h.2 with ⟨rfl, _⟩ | ⟨g, cap, cur, rfl, _⟩
    · exact ⟨none, 0, by rw [h0], fun hn => absurd (List.length_eq_zero_iff.1 h0) hn⟩
    · exact ⟨_, _, rfl, fun hn => absurd (List.length_eq_zero_iff.1 h0) hn⟩
  · obtain ⟨g, cap, rfl, _, _⟩ := h.form h0
    refine ⟨_, _, rfl, fun _ => ⟨g, 0, rfl, fun i hi => ?_⟩⟩
    have hc : ∀ j u, (iCells (ei xs i))[j]? = some u → j < 7 → w.cell? ⟨g, 0 + i * 7 + j, none⟩ = some u := by
      intro j u hu hj
      have := h.cells (g := g) rfl (i * 7 + j) u ((cellsI_at xs i j hi hj).trans hu)
      rwa [Go.WideShapes.add_plain, ← Nat.add_assoc] at this
    exact ⟨hc 0 _ rfl (by omega), hc 1 _ rfl (by omega), hc 2 _ rfl (by omega), hc 3 _ rfl (by omega), hc 4 _ rfl (by omega), hc 5 _ rfl (by omega), hc 6 _ rfl (by omega)⟩

def Made (xs : List I) (regs : Int) (w : World) (e : Ending) (w' : World) : Prop :=
  ∃ A' c', e = .returned (.agg #[.slice A' xs.length c', .int .i64 regs]) ∧ HasI w' A' xs ∧ Below w.heap.size w w'

set_option maxHeartbeats 1000000 in
theorem theirs12 (A : Option Addr) (xs : List I) (c : Nat) (regs : Int) (w : World) (hx : HasI w A xs) (hl : xs.length ≤ 1100) :
    Calls Try.prog 12 #[.agg #[.slice A xs.length c, .int .i64 regs]] w (Made xs regs w) := by
  have HX := Lib.hid hx
  clear hx
  obtain ⟨i0, hi0, hz0, hz1, hz2⟩ := info_parts Try.info55
  have I0 := Lib.hid hi0
  have I1 := Lib.hid hz0
  have I2 := Lib.hid hz1
  have I3 := Lib.hid hz2
  clear hi0 hz0 hz1 hz2
  go_enter Try.func12, Try.ntmps12
  go_wp2
  go_loopw [11] (fun i wr => ∃ (k : Nat) (v : Value), k ≤ xs.length ∧ i = .int .i64 k ∧ Hid (T12 w wr A xs c regs k v)) (fun i _ => xs.length - (intOf i).toNat)
  case atStart => exact ⟨0, _, Nat.zero_le _, rfl, T12.start _ _ _ _ _⟩
  case round =>
    obtain ⟨k, v, hk, rfl, HT⟩ := hrel
    obtain ⟨p0, p1⟩ := HT.out.hp
    obtain ⟨o0, o1, of0, of1⟩ := cell_of_out HT.out.ho
    have z1 := lt_of_cell p0
    have z2 := lt_of_cell o0
    by_cases hkx : k < xs.length
    · obtain ⟨b, o, rfl, hc⟩ := (HX.out.below HT.out.hb) (by intro h; subst h; simp at hkx)
      obtain ⟨x0, x1, x2, x3, x4, x5, x6⟩ := hc k hkx
      have z3 := lt_of_cell x0
      clear hc
      go_wp2_with fail
      go_region_law (refine step_append_lies _ (by rfl) _ _ _ (by rfl) (w.heap.size + 3) 55 i0 _ 7 72 Try.underlying27 I0.out I1.out I2.out I3.out rfl (by omega) v k (cellsI (xs.take k)) (by rfl) ((HT.out.hown.alloc _).drew) ⟨wr.heap.size, 0, none⟩ 1 1 (iCells (ei xs k)) (by rfl) (by rfl) (World.news_of_block (cs := #[.string (ei xs k).op, .int .i64 (ei xs k).a, .int .i64 (ei xs k).b, .int .i64 (ei xs k).c, .int .i64 (ei xs k).v.k, .int .i64 (ei xs k).v.n, .string (ei xs k).v.s]) (t := 55) (fr := (0, 0)) (heap_alloc_new wr _)) (by simp [iCells, Value.oneCell']) (by omega) (by unfold maxLen; omega) (by omega) (by have := HT.out.hs; simp; omega) (wr.heap.size + 1) (by simp) ?_; intro g cap w1 hown1 hgrow hat hlt; obtain ⟨q0, qf⟩ := HT.out.out hgrow)
      all_goals
        have HT1 := Lib.hid (HT.out.step hkx hown1 hgrow)
        clear HT hown1 hgrow hat hlt x0 x1 x2 x3 x4 x5 x6 o0 o1 of0 of1
        go_wp2
        go_roundw
        case rel => exact ⟨k + 1, _, by omega, by go_num, HT1⟩
        case measure => simp [intOf]; omega
    · obtain rfl : k = xs.length := by omega
      obtain ⟨r0, r1, rf0, rf1⟩ := cell_of_out HT.out.hr
      have ho : wr.ownsRow (w.heap.size + 3) 55 7 v xs.length (cellsI xs) := by have := HT.out.hown; rwa [List.take_length] at this
      have HO := Lib.hid ho
      obtain ⟨A', c', rfl, _⟩ := own_hasI ho
      clear ho
      go_wp2
      refine bodyPost_ret (v := .agg #[.slice A' xs.length c', .int .i64 regs]) (by simp [results, Try.results12, go_sem, r0, r1]) rfl ⟨A', c', rfl, ?_, ?_⟩
      · have h1 := HO.out.kept ((grownBy_set wr (w.heap.size + 1) 0 (.slice A' xs.length c'))) (.inr (fun e => own_ne HO.out (b := w.heap.size + 1) (by omega) e.symm))
        have h2 := h1.kept ((grownBy_set _ (w.heap.size + 1) 1 (.int .i64 regs))) (.inr (fun e => own_ne HO.out (b := w.heap.size + 1) (by omega) e.symm))
        obtain ⟨A2, c2, e2, hI⟩ := own_hasI h2
        simp only [Value.slice.injEq] at e2
        rw [← e2.1] at hI
        exact hI
      · exact (HT.out.hb.setCell (p := ⟨w.heap.size + 1, 0, none⟩) (by simp) _).setCell (p := ⟨w.heap.size + 1, 1, none⟩) (by simp) _
end Go.Proofs.Ytbibchinimhamaa
