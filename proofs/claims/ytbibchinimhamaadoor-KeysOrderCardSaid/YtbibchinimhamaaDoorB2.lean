/- bytes.Replace of the byte 0 by 0, 255, all of them, walked. -/
import Derived.Test.YtbibchinimhamaaDoorB1
import Derived.Test.YtbibchinimhamaaDoorWMore
import Derived.StillTail
import Derived.StillTailTactics
import Derived.Laws.MakeOwn
import Derived.Deep.LoopGhost
import Derived.KernelRfl
import Derived.Deep.AppendLies
import Derived.Laws.Slices
namespace Go.Proofs.YtbibchinimhamaaDoor
open Go.RowKit Go.Proofs.YtbibchinimhamaaDoorW.PrintWords
set_option linter.unusedVariables false
set_option linter.unusedSimpArgs false

def nv (l : List UInt8) : List Value := l.map fun b => Value.int .u8 (b.toNat : Int)
theorem nv_length (l : List UInt8) : (nv l).length = l.length := by simp [nv]
theorem nv_append (a b : List UInt8) : nv (a ++ b) = nv a ++ nv b := by simp [nv]
theorem nv_one (l : List UInt8) : ∀ v ∈ nv l, v.oneCell' = true := by
  intro v hv
  obtain ⟨x, _, rfl⟩ := List.mem_map.1 hv
  rfl
theorem splice_fill (A cs : List Value) (n : Nat) (z : Value) (h : cs.length ≤ n) : splice (A ++ List.replicate n z) A.length cs = (A ++ cs) ++ List.replicate (n - cs.length) z := by
  unfold splice
  rw [List.take_left, List.drop_append, List.drop_eq_nil_of_le (by omega), List.nil_append, show A.length + cs.length - A.length = cs.length by omega, List.drop_replicate, List.append_assoc]

theorem info5' : (Tryd.prog.info? 5).map (fun i => (i.zero, i.size, i.bytes)) = some (some (.int .u8 0), 1, 1) := by kernel_rfl
theorem size5 : (Tryd.prog.info? 5).map (·.size) = some 1 := by kernel_rfl

/-- The row that is filled: the bytes so far, then zeros. -/
def rowOf (acc : List UInt8) (N : Nat) : List Value := nv acc ++ List.replicate (N - acc.length) (.int .u8 0)
theorem rowOf_length (acc : List UInt8) (N : Nat) (h : acc.length ≤ N) : (rowOf acc N).length = N := by simp [rowOf, nv_length]; omega
theorem rowOf_splice (acc cs : List UInt8) (N : Nat) (h : acc.length + cs.length ≤ N) : splice (rowOf acc N) acc.length (nv cs) = rowOf (acc ++ cs) N := by
  have := splice_fill (nv acc) (nv cs) (N - acc.length) (.int .u8 0) (by rw [nv_length]; omega)
  rw [nv_length, nv_length] at this
  unfold rowOf
  rw [this, nv_append, List.length_append, show N - acc.length - cs.length = N - (acc.length + cs.length) by omega]
theorem rowOf_made (N : Nat) : madeCells (Value.int .u8 0).cells (N * 1) = (rowOf [] N).toArray := by
  apply Array.toList_inj.1
  simp [rowOf, nv, madeCells, Value.cells]
  apply List.ext_getElem
  · simp
  · intro i h1 h2
    simp [Nat.mod_one]

set_option maxHeartbeats 4000000 in
set_option maxRecDepth 1000000 in
theorem replace25_none (b n c b2 b3 d2 d3 : Nat) (l : List UInt8) (w : World) (hl : l.length = n) (hn : n ≤ 1000) (hc : HasL w b 0 l) (hc2 : w.cell? ⟨b2, 0, none⟩ = some (.int .u8 0)) (h0 : l.count 0 = 0) :
    Calls Tryd.prog 25 #[.slice (some ⟨b, 0, none⟩) n c, .slice (some ⟨b2, 0, none⟩) 1 d2, .slice (some ⟨b3, 0, none⟩) 2 d3, .int .i64 (-1)] w fun e w' => ∃ v, e = .returned v ∧ w'.ownsRow w.heap.size 5 1 v (rep l).length (nv (rep l)) ∧ Below w.heap.size w w' := by
  have hcon := count33 b n c b2 d2 l w hl hc hc2
  rw [h0] at hcon
  rw [rep_clean h0]
  obtain ⟨i0, hi, hz0, hz1, hz2⟩ := info_parts info5'
  have HC := Aside0.mk hc
  clear hc
  go_enter Tryd.func25, Tryd.ntmps25
  go_wp2_with (first | (go_at_call 33; refine hcon.mono ?_; rintro e w' ⟨rfl, hw_⟩; subst w') | (at_builtin; refine wpList_append_own _ rfl _ _ 22 rfl w.heap.size 5 i0 (.int .u8 0) 1 1 Tryd.underlying22 hi hz0 hz1 hz2 (by rfl) (by omega) (.slice none 0 0) 0 [] rfl ⟨rfl, .inl ⟨rfl, rfl⟩⟩ ⟨b, 0, none⟩ n c (nv l) rfl ?qc1 ?qc2 ?qc3 ?qc4 ?qc5 ?qc6 ?_))
  case qc1 => rw [nv_length]; omega
  case qc2 =>
    intro j u hj
    rw [nv, List.getElem?_map] at hj
    obtain ⟨x, hx, rfl⟩ := Option.map_eq_some_iff.1 hj
    have := HC.out j x hx
    rw [Nat.zero_add] at this
    first
      | exact this
      | (rw [show (⟨b, 0, none⟩ : Addr).add j = ⟨b, j, none⟩ by unfold Addr.add; split <;> simp_all]; exact this)
  case qc3 => exact nv_one l
  case qc4 => unfold maxLen; omega
  case qc5 => omega
  case qc6 => simp
  intro v' w1 hown hgrow hnil
  go_wp2
  go_ret
  refine ⟨v', rfl, by simpa [hl] using hown, ?_⟩
  exact (Below.refl _ w).grown hgrow (by simp) (by intro k hk; simp [Value.ownBlock] at hk)
end Go.Proofs.YtbibchinimhamaaDoor
