/- bytes.Replace of the byte 0 by 0, 255, where there is one: the walk. -/
import Derived.Test.YtbibchinimhamaaDoorB3
import Derived.Lib.Hide
import Derived.Test.YtbibchinimhamaaDoorWLast
namespace Go.Proofs.YtbibchinimhamaaDoor
open Go.RowKit Go.Proofs.YtbibchinimhamaaDoorW.PrintWords Go.Proofs.YtbibchinimhamaaDoorW.PrintLast Go.Proofs.YtbibchinimhamaaDoorW.PrintMore
set_option linter.unusedVariables false
set_option linter.unusedSimpArgs false

theorem cut_mid (b n c i j : Nat) (h : i ≤ j) (hj : j ≤ n) (hi' : i < n) (hnc : n ≤ c) (W : World) : (Instr.slice 22 (.slice (some ⟨b, 0, none⟩) n c) (some (.int .i64 (i : Int))) (some (.int .i64 (j : Int))) none).run Tryd.prog W = .ok (.slice (some ⟨b, i, none⟩) (j - i) (c - i)) W := by
  obtain ⟨i0, hi, _, hsz, _⟩ := info_parts info5'
  have hel : Tryd.prog.elem 22 = 5 := by simp [Program.elem, Tryd.underlying22]
  have hu : Tryd.prog.underlying 22 = some (.slice (Tryd.prog.elem 22)) := by rw [hel]; exact Tryd.underlying22
  rw [run_slice_lh W 22 _ n c hu .i64 .i64 i j (by omega) (by omega) (by omega), hel]
  have hne : ¬ c = i := by omega
  simp [sizeOf, typeInfo, hi, hsz, sliced, Result.andThen, hne, Addr.add]
  try (intro h0; subst h0; rfl)


theorem copy_fill (g N B : Nat) (acc cs : List UInt8) (b o sl sc : Nat) (wr w0 : World) (A A2 : Option Addr) (hg : wr.heap[g]? = some (.cells (rowOf acc N).toArray 5 (0, 0))) (hcs : HasL wr b o cs) (hsl : cs.length = sl)
    (hfit : acc.length + cs.length ≤ N) (hb : Below B w0 wr) (hB : B ≤ g) (hA : 0 < cs.length → A = some ⟨g, acc.length, none⟩) (hA2 : 0 < cs.length → A2 = some ⟨b, o, none⟩) :
    ∃ wr', (Builtin.copy_ #[22, 22] 3 #[.slice A (N - acc.length) (N - acc.length), .slice A2 sl sc]).run Tryd.prog wr = .ok (.int .i64 (cs.length : Int)) wr' ∧
      wr'.heap[g]? = some (.cells (rowOf (acc ++ cs) N).toArray 5 (0, 0)) ∧ Below B w0 wr' := by
  by_cases h0 : cs.length = 0
  · obtain rfl : cs = [] := List.eq_nil_of_length_eq_zero h0
    refine ⟨wr, ?_, by simpa using hg, hb⟩
    exact run_copy_none (P := Tryd.prog) wr 22 22 3 5 A A2 _ _ sl sc Tryd.underlying22 size5 (by subst hsl; simp)
  · rw [hA (by omega), hA2 (by omega)]
    have hrun := run_copy_row (P := Tryd.prog) wr 22 22 3 5 g acc.length (N - acc.length) (N - acc.length) ⟨b, o, none⟩ sl sc (rowOf acc N).toArray 5 (nv cs) Tryd.underlying22 size5 hg
      (by rw [nv_length, hsl]; exact (Nat.min_eq_left (by omega)).symm) hcs.src (by rw [nv_length]; simp [rowOf_length acc N (by omega)]; omega) (nv_one cs)
    refine ⟨_, by rw [hrun, nv_length]; rfl, ?_, below_setRow hb hB _⟩
    rw [setRow_heap wr g _ _ 5 _ hg]
    have h2 := rowOf_splice acc cs N hfit
    unfold splice at h2
    rw [nv_length] at h2
    simp only [List.append_assoc, nv_length]
    rw [h2]

theorem heap_drew {w : World} {g : Nat} {o : Obj} (h : w.heap[g]? = some o) : w.drew.heap[g]? = some o := h

set_option maxHeartbeats 8000000 in
set_option maxRecDepth 1000000 in
theorem replace25_some (b n c b2 b3 d2 d3 : Nat) (l : List UInt8) (w : World) (hl : l.length = n) (hn : n ≤ 1000) (hnc : n ≤ c) (hc : HasL w b 0 l) (hc2 : w.cell? ⟨b2, 0, none⟩ = some (.int .u8 0))
    (h30 : HasL w b3 0 [0, 255]) (m : Nat) (hm : l.count 0 = m) (hm0 : 0 < m) :
    Calls Tryd.prog 25 #[.slice (some ⟨b, 0, none⟩) n c, .slice (some ⟨b2, 0, none⟩) 1 d2, .slice (some ⟨b3, 0, none⟩) 2 d3, .int .i64 (-1)] w fun e w' => ∃ v, e = .returned v ∧ w'.ownsRow w.heap.size 5 1 v (rep l).length (nv (rep l)) ∧ Below w.heap.size w w' := by
  have hcon := count33 b n c b2 d2 l w hl hc hc2
  rw [hm] at hcon
  have hmn : m ≤ n := by rw [← hm, ← hl]; exact List.count_le_length
  obtain ⟨N, hN⟩ : ∃ N, N = n + m := ⟨_, rfl⟩
  have HN : Aside0 (N = n + m) := ⟨hN⟩
  have hmk : ∀ W, (Instr.makeSlice 22 (.int .i64 ((n : Int) + (m : Int))) (.int .i64 ((n : Int) + (m : Int)))).run Tryd.prog W = .ok (.slice (some ⟨W.heap.size, 0, none⟩) N N) (W.alloc (.cells (rowOf [] N).toArray 5)) := fun W => by
    have h := made_run N (by omega) W
    rwa [show ((N : Nat) : Int) = (n : Int) + (m : Int) by omega] at h
  have mz : ((m : Int) == 0) = false := beq_eq_false_iff_ne.2 (by omega)
  have HC := Aside0.mk hc
  have H3 := Aside0.mk h30
  have HL := Aside0.mk hl
  have HM := Aside0.mk hm
  clear hc h30 hl hm hN
  go_enter Tryd.func25, Tryd.ntmps25
  go_wp2_with (first | (go_at_call 33; refine hcon.mono ?_; rintro e w' ⟨rfl, hw_⟩; subst w'))
  go_loopg [11, 12, 49] m (fun g s11 s12 s49 wr => ∃ (done rest : List UInt8) (i D W0 : Nat), g = m - i ∧ i ≤ m ∧ s49 = .int .i64 (i : Int) ∧ s12 = .int .i64 (D : Int) ∧ s11 = .int .i64 (W0 : Int) ∧ D = done.length ∧ W0 = (rep done).length ∧ Hid (l = done ++ rest) ∧ Hid (rest.count 0 = m - i) ∧ Hid (wr.heap[w.heap.size]? = some (.cells (rowOf (rep done) N).toArray 5 (0, 0))) ∧ Hid (Below w.heap.size w wr))
  case atStart =>
    refine ⟨[], l, 0, 0, 0, rfl, Nat.zero_le _, rfl, rfl, rfl, rfl, rfl, rfl, HM.out, ?_, ?_⟩
    · exact heap_alloc_new w _
    · exact (Below.refl _ w).alloc (Nat.le_refl _) _
  case round =>
    obtain ⟨done, rest, i, D, W0, rfl, hi, rfl, rfl, rfl, hD, hW0, HE, HR, HG, HB⟩ := hrel
    have hlen : D + rest.length = n := by rw [← HL.out, HE.out, List.length_append, hD]
    have hcd : done.count 0 = i := by
      have h1 := HM.out
      rw [HE.out, List.count_append, HR.out] at h1
      omega
    have hW : W0 = D + i := by rw [hW0, rep_length, hcd, hD]
    have hNv := HN.out
    by_cases him : i < m
    · obtain ⟨pre, post, hrest, hpre, hix, hpost⟩ := index_split rest (by rw [HR.out]; omega)
      have hpl : pre.length + (post.length + 1) = rest.length := by rw [hrest]; simp
      obtain ⟨p, hp⟩ : ∃ p, p = pre.length := ⟨_, rfl⟩
      rw [← hp] at hpl hix
      have hDn : D < n := by omega
      have hCw := HC.out.below HB.out
      have hrs : HasL wr b D rest := by
        have := hCw.drop D
        have hdr : l.drop D = rest := by rw [HE.out, hD, List.drop_left]
        rwa [hdr] at this
      have hc2w : wr.cell? ⟨b2, 0, none⟩ = some (.int .u8 0) := (HB.out.cell (World.block_lt_of_cell? w _ hc2)).trans hc2
      have hcon2 := index34 b D (n - D) (c - D) b2 d2 rest wr (by omega) hrs hc2w
      rw [hix] at hcon2
      have hct := cut_tail b n c D hDn hnc
      have hctT := cut_tail w.heap.size N N W0 (by omega) (Nat.le_refl _)
      have hcm : ∀ W, (Instr.slice 22 (.slice (some ⟨b, 0, none⟩) n c) (some (.int .i64 (D : Int))) (some (.int .i64 ((D : Int) + (p : Int)))) none).run Tryd.prog W = .ok (.slice (some ⟨b, D, none⟩) p (c - D)) W := fun W => by
        have h := cut_mid b n c D (D + p) (by omega) (by omega) hDn hnc W
        rwa [show ((D + p : Nat) : Int) = (D : Int) + (p : Int) by omega, show D + p - D = p by omega] at h
      have hctT2 : ∀ W, (Instr.slice 22 (.slice (some ⟨w.heap.size, 0, none⟩) N N) (some (.int .i64 ((W0 : Int) + (p : Int)))) none none).run Tryd.prog W = .ok (.slice (some ⟨w.heap.size, W0 + p, none⟩) (N - (W0 + p)) (N - (W0 + p))) W := fun W => by
        have h := cut_tail w.heap.size N N (W0 + p) (by omega) (Nat.le_refl _) W
        rwa [show ((W0 + p : Nat) : Int) = (W0 : Int) + (p : Int) by omega] at h
      have hpr : HasL wr.drew b D pre := by
        have h : HasL wr b D (pre ++ 0 :: post) := by rw [← hrest]; exact hrs
        exact h.pre.drew
      obtain ⟨w2, hr1, hg2, hb2⟩ := copy_fill w.heap.size N w.heap.size (rep done) pre b D p (c - D) wr.drew w (some ⟨w.heap.size, W0, none⟩) (some ⟨b, D, none⟩) (heap_drew HG.out) hpr hp.symm (by omega) HB.out.drew (Nat.le_refl _) (fun _ => by rw [hW0]) (fun _ => rfl)
      obtain ⟨w3, hr2, hg3, hb3⟩ := copy_fill w.heap.size N w.heap.size (rep done ++ pre) [0, 255] b3 0 2 d3 w2 w (some ⟨w.heap.size, W0 + p, none⟩) (some ⟨b3, 0, none⟩) hg2 (H3.out.below hb2) rfl (by rw [List.length_append]; simp; omega) hb2 (Nat.le_refl _) (fun _ => by rw [List.length_append, hW0, hp]) (fun _ => rfl)
      rw [← hW0, ← hp] at hr1
      rw [List.length_append, ← hW0, ← hp, show ([0, 255] : List UInt8).length = 2 from rfl] at hr2
      have HG3 := Lib.hid hg3
      have HB3 := Lib.hid hb3
      clear hg2 hb2 hg3 hb3 hpr hrs hCw HG HB
      have hlt : decide ((i : Int) < (m : Int)) = true := decide_eq_true (by omega)
      have q1 : D ≤ 1000 := by omega
      have q2 : p ≤ 1000 := by omega
      have q3 : W0 ≤ 2000 := by omega
      have q4 : i ≤ 1000 := by omega
      have hw1 : wrap64 ((W0 : Int) + (p : Int)) = (W0 : Int) + (p : Int) := by unfold wrap64; omega
      have FD := Lib.hid hD
      have FW := Lib.hid hW
      have FW0 := Lib.hid hW0
      have Fp := Lib.hid hp
      have Frest := Lib.hid hrest
      have Fpre := Lib.hid hpre
      have Fpost := Lib.hid hpost
      have Fim := Lib.hid him
      clear hD hW hW0 hp hrest hpre hpost hpl hix hlen hcd hNv him hi hDn
      go_wp2_with (first | (go_at_call 34; refine hcon2.mono ?_; rintro e w' ⟨rfl, hw_⟩; subst w'))
      refine start_ (n := 11) (S := fun w' => True) (ds := []) #[false, false, false, false, false, false, false, false, false, false, false] (by kernel_rfl) rfl rfl trivial (fun hHeld => ?_)
      refine pure_ (i := 0) (N := some 58) (v := ?_) (a' := ?_) #[true, false, false, false, false, false, false, false, false, false, false] rfl rfl (by kernel_rfl) (fun _ _ _ h => h) (Or.inl ⟨by rfl, ?_⟩) ?_ ?_
      rotate_left
      · intro w'
        go_simp
        with_reducible rfl
      rotate_left
      · simp only [Act.put, List.setIfInBounds_toArray, List.set_cons_zero, List.set_cons_succ, i64_w, i32_w]
        rfl
      refine pure_ (i := 1) (N := some 59) (v := ?_) (a' := ?_) #[true, true, false, false, false, false, false, false, false, false, false] rfl rfl (by kernel_rfl) (fun _ _ _ h => h) (Or.inl ⟨by rfl, ?_⟩) ?_ ?_
      rotate_left
      · intro w'
        go_simp
        with_reducible rfl
      rotate_left
      · simp only [Act.put, List.setIfInBounds_toArray, List.set_cons_zero, List.set_cons_succ, i64_w, i32_w]
        rfl
      refine pure_ (i := 2) (N := some 60) (v := ?_) (a' := ?_) #[true, true, true, false, false, false, false, false, false, false, false] rfl rfl (by kernel_rfl) (fun _ _ _ h => h) (Or.inl ⟨by rfl, ?_⟩) ?_ ?_
      rotate_left
      · intro w'
        go_simp
        with_reducible rfl
      rotate_left
      · simp only [Act.put, List.setIfInBounds_toArray, List.set_cons_zero, List.set_cons_succ, i64_w, i32_w]
        rfl
      refine pure_ (i := 3) (N := some 61) (v := ?_) (a' := ?_) #[true, true, true, true, false, false, false, false, false, false, false] rfl rfl (by kernel_rfl) (fun _ _ _ h => h) (Or.inl ⟨by rfl, ?_⟩) ?_ ?_
      rotate_left
      · intro w'
        go_simp
        with_reducible rfl
      rotate_left
      · simp only [Act.put, List.setIfInBounds_toArray, List.set_cons_zero, List.set_cons_succ, i64_w, i32_w]
        rfl
      refine pure_ (i := 4) (N := some 62) (v := ?_) (a' := ?_) #[true, true, true, true, true, false, false, false, false, false, false] rfl rfl (by kernel_rfl) (fun _ _ _ h => h) (Or.inl ⟨by rfl, ?_⟩) ?_ ?_
      rotate_left
      · intro w'
        go_simp
        with_reducible rfl
      rotate_left
      · simp only [Act.put, List.setIfInBounds_toArray, List.set_cons_zero, List.set_cons_succ, i64_w, i32_w]
        rfl
      refine pure_ (i := 5) (N := some 63) (v := ?_) (a' := ?_) #[true, true, true, true, true, true, false, false, false, false, false] rfl rfl (by kernel_rfl) (fun _ _ _ h => h) (Or.inl ⟨by rfl, ?_⟩) ?_ ?_
      rotate_left
      · intro w'
        go_simp
        with_reducible rfl
      rotate_left
      · simp only [Act.put, List.setIfInBounds_toArray, List.set_cons_zero, List.set_cons_succ, i64_w, i32_w]
        rfl
      refine pure_ (i := 6) (N := some 64) (v := ?_) (a' := ?_) #[true, true, true, true, true, true, true, false, false, false, false] rfl rfl (by kernel_rfl) (fun _ _ _ h => h) (Or.inl ⟨by rfl, ?_⟩) ?_ ?_
      rotate_left
      · intro w'
        go_simp
        with_reducible rfl
      rotate_left
      · simp only [Act.put, List.setIfInBounds_toArray, List.set_cons_zero, List.set_cons_succ, i64_w, i32_w]
        rfl
      refine pure_ (i := 7) (N := some 65) (v := ?_) (a' := ?_) #[true, true, true, true, true, true, true, true, false, false, false] rfl rfl (by kernel_rfl) (fun _ _ _ h => h) (Or.inl ⟨by rfl, ?_⟩) ?_ ?_
      rotate_left
      · intro w'
        go_simp
        with_reducible rfl
      rotate_left
      · simp only [Act.put, List.setIfInBounds_toArray, List.set_cons_zero, List.set_cons_succ, i64_w, i32_w]
        rfl
      refine one_ (i := 8) (N := some 66) #[true, true, true, true, true, true, true, true, true, false, false] rfl rfl (by kernel_rfl) (by decide) (fun K hK => ?_)
      rw [if_pos (by rfl)]
      refine Lib.wp_copy_run _ _ _ 22 22 rfl _ _ rfl rfl hr1 ?_
      refine hK.out _ _ trivial (fun hHeld2 => ?_)
      clear hK K
      refine norm_ (a' := ?_) ?_ ?_
      rotate_left
      · show Act.put _ (some 66) _ = _
        simp only [Act.put, List.setIfInBounds_toArray, List.set_cons_zero, List.set_cons_succ, i64_w, i32_w]
        rfl
      refine pure_ (i := 9) (N := some 67) (v := ?_) (a' := ?_) #[true, true, true, true, true, true, true, true, true, true, false] rfl rfl (by kernel_rfl) (fun _ _ _ h => h) (Or.inl ⟨by rfl, ?_⟩) ?_ ?_
      rotate_left
      · intro w'
        go_simp
        with_reducible rfl
      rotate_left
      · simp only [Act.put, List.setIfInBounds_toArray, List.set_cons_zero, List.set_cons_succ, i64_w, i32_w]
        rfl
      refine pure_ (i := 10) (N := some 11) (v := ?_) (a' := ?_) #[true, true, true, true, true, true, true, true, true, true, true] rfl rfl (by kernel_rfl) (fun _ _ _ h => h) (Or.inl ⟨by rfl, ?_⟩) ?_ ?_
      rotate_left
      · intro w'
        go_simp
        with_reducible rfl
      rotate_left
      · simp only [Act.put, List.setIfInBounds_toArray, List.set_cons_zero, List.set_cons_succ, i64_w, i32_w]
        rfl
      refine done_ (by kernel_rfl) ?_
      go_wp2_with (at_builtin; first | refine Lib.wpList_copy_run _ rfl _ _ 22 22 rfl _ _ rfl rfl hr2 ?_)
      go_roundg (m - (i + 1))
      case measure => have := Fim.out; omega
      case rel =>
        have hsum : done.length + pre.length + 1 = D + p + 1 := by rw [← FD.out, ← Fp.out]
        refine ⟨done ++ pre ++ [0], post, i + 1, D + p + 1, W0 + p + 2, rfl, Fim.out, ?_, ?_, ?_, ?_, ?_, ?_, ?_, ?_, HB3⟩
        · go_num
        · go_num
        · go_num
        · simp; omega
        · rw [rep_append, rep_append, rep_clean Fpre.out, List.length_append, List.length_append, ← FW0.out, ← Fp.out]; rfl
        · show l = _
          rw [HE.out, Frest.out]; simp
        · show post.count 0 = _
          have h1 := Fpost.out
          have h2 := HR.out
          have h3 := Fim.out
          omega
        · show w3.heap[w.heap.size]? = _
          rw [rep_append, rep_append, rep_clean Fpre.out]
          exact HG3.out
    · obtain rfl : i = m := by omega
      have hcl : rest.count 0 = 0 := by have := HR.out; omega
      obtain ⟨R, hR⟩ : ∃ R, R = rest.length := ⟨_, rfl⟩
      rw [← hR] at hlen
      obtain ⟨SA, hSA, hcS⟩ := cut_end b n c D (by omega) hnc w
      obtain ⟨TA, hTA, hcT⟩ := cut_end w.heap.size N N W0 (by omega) (Nat.le_refl _) w
      have hCw := HC.out.below HB.out
      have hrs : HasL wr.drew b D rest := by
        have := hCw.drop D
        have hdr : l.drop D = rest := by rw [HE.out, hD, List.drop_left]
        rw [hdr] at this
        exact this.drew
      have hRn : n - D = R := by omega
      obtain ⟨w2, hr1, hg2, hb2⟩ := copy_fill w.heap.size N w.heap.size (rep done) rest b D (n - D) (c - D) wr.drew w TA SA (heap_drew HG.out) hrs (by omega) (by omega) HB.out.drew (Nat.le_refl _) (fun h => by rw [← hW0]; exact hTA (by omega)) (fun h => hSA (by omega))
      rw [← hW0, ← hR] at hr1
      have hrl : rep done ++ rest = rep l := by rw [HE.out, rep_append, rep_clean hcl]
      rw [hrl] at hg2
      have hlenl : (rep l).length = N := by rw [rep_length, HL.out, HM.out, HN.out]
      have hcF : ∀ W, (Instr.slice 22 (.slice (some ⟨w.heap.size, 0, none⟩) N N) (some (.int .i64 0)) (some (.int .i64 ((W0 : Int) + (R : Int)))) none).run Tryd.prog W = .ok (.slice (some ⟨w.heap.size, 0, none⟩) N N) W := fun W => by
        have h := cut_mid w.heap.size N N 0 N (by omega) (Nat.le_refl _) (by omega) (Nat.le_refl _) W
        rwa [show ((N : Nat) : Int) = (W0 : Int) + (R : Int) by omega] at h
      have HG2 := Lib.hid hg2
      have HB2 := Lib.hid hb2
      have FL := Lib.hid hlenl
      have q1 : D ≤ 1000 := by omega
      have q2 : R ≤ 1000 := by omega
      have q3 : W0 ≤ 2000 := by omega
      have q5 := Lib.hid (show N ≤ 2000 by omega)
      have hw1 : wrap64 ((W0 : Int) + (R : Int)) = (W0 : Int) + (R : Int) := by unfold wrap64; omega
      clear hg2 hb2 hlenl hrs hCw HG HB hTA hSA hrl hcl hR hD hW hW0 hcd hlen hRn hNv hi
      go_wp2
      refine start_ (n := 10) (S := fun w' => True) (ds := []) #[false, false, false, false, false, false, false, false, false, false] (by kernel_rfl) rfl rfl trivial (fun hHeld => ?_)
      refine pure_ (i := 0) (N := some 120) (v := ?_) (a' := ?_) #[true, false, false, false, false, false, false, false, false, false] rfl rfl (by kernel_rfl) (fun _ _ _ h => h) (Or.inl ⟨by rfl, ?_⟩) ?_ ?_
      rotate_left
      · intro w'
        go_simp
        with_reducible rfl
      rotate_left
      · simp only [Act.put, List.setIfInBounds_toArray, List.set_cons_zero, List.set_cons_succ, i64_w, i32_w]
        rfl
      refine pure_ (i := 1) (N := some 121) (v := ?_) (a' := ?_) #[true, true, false, false, false, false, false, false, false, false] rfl rfl (by kernel_rfl) (fun _ _ _ h => h) (Or.inl ⟨by rfl, ?_⟩) ?_ ?_
      rotate_left
      · intro w'
        go_simp
        with_reducible rfl
      rotate_left
      · simp only [Act.put, List.setIfInBounds_toArray, List.set_cons_zero, List.set_cons_succ, i64_w, i32_w]
        rfl
      refine pure_ (i := 2) (N := some 122) (v := ?_) (a' := ?_) #[true, true, true, false, false, false, false, false, false, false] rfl rfl (by kernel_rfl) (fun _ _ _ h => h) (Or.inl ⟨by rfl, ?_⟩) ?_ ?_
      rotate_left
      · intro w'
        go_simp
        with_reducible rfl
      rotate_left
      · simp only [Act.put, List.setIfInBounds_toArray, List.set_cons_zero, List.set_cons_succ, i64_w, i32_w]
        rfl
      refine pure_ (i := 3) (N := some 123) (v := ?_) (a' := ?_) #[true, true, true, true, false, false, false, false, false, false] rfl rfl (by kernel_rfl) (fun _ _ _ h => h) (Or.inl ⟨by rfl, ?_⟩) ?_ ?_
      rotate_left
      · intro w'
        go_simp
        with_reducible rfl
      rotate_left
      · simp only [Act.put, List.setIfInBounds_toArray, List.set_cons_zero, List.set_cons_succ, i64_w, i32_w]
        rfl
      refine pure_ (i := 4) (N := some 124) (v := ?_) (a' := ?_) #[true, true, true, true, true, false, false, false, false, false] rfl rfl (by kernel_rfl) (fun _ _ _ h => h) (Or.inl ⟨by rfl, ?_⟩) ?_ ?_
      rotate_left
      · intro w'
        go_simp
        with_reducible rfl
      rotate_left
      · simp only [Act.put, List.setIfInBounds_toArray, List.set_cons_zero, List.set_cons_succ, i64_w, i32_w]
        rfl
      refine pure_ (i := 5) (N := some 125) (v := ?_) (a' := ?_) #[true, true, true, true, true, true, false, false, false, false] rfl rfl (by kernel_rfl) (fun _ _ _ h => h) (Or.inl ⟨by rfl, ?_⟩) ?_ ?_
      rotate_left
      · intro w'
        go_simp
        with_reducible rfl
      rotate_left
      · simp only [Act.put, List.setIfInBounds_toArray, List.set_cons_zero, List.set_cons_succ, i64_w, i32_w]
        rfl
      refine pure_ (i := 6) (N := some 126) (v := ?_) (a' := ?_) #[true, true, true, true, true, true, true, false, false, false] rfl rfl (by kernel_rfl) (fun _ _ _ h => h) (Or.inl ⟨by rfl, ?_⟩) ?_ ?_
      rotate_left
      · intro w'
        go_simp
        with_reducible rfl
      rotate_left
      · simp only [Act.put, List.setIfInBounds_toArray, List.set_cons_zero, List.set_cons_succ, i64_w, i32_w]
        rfl
      refine one_ (i := 7) (N := some 127) #[true, true, true, true, true, true, true, true, false, false] rfl rfl (by kernel_rfl) (by decide) (fun K hK => ?_)
      rw [if_pos (by rfl)]
      refine Lib.wp_copy_run _ _ _ 22 22 rfl _ _ rfl rfl hr1 ?_
      refine hK.out _ _ trivial (fun hHeld2 => ?_)
      clear hK K
      refine norm_ (a' := ?_) ?_ ?_
      rotate_left
      · show Act.put _ (some 127) _ = _
        simp only [Act.put, List.setIfInBounds_toArray, List.set_cons_zero, List.set_cons_succ, i64_w, i32_w]
        rfl
      refine pure_ (i := 8) (N := some 128) (v := ?_) (a' := ?_) #[true, true, true, true, true, true, true, true, true, false] rfl rfl (by kernel_rfl) (fun _ _ _ h => h) (Or.inl ⟨by rfl, ?_⟩) ?_ ?_
      rotate_left
      · intro w'
        go_simp
        with_reducible rfl
      rotate_left
      · simp only [Act.put, List.setIfInBounds_toArray, List.set_cons_zero, List.set_cons_succ, i64_w, i32_w]
        rfl
      refine pure_ (i := 9) (N := some 11) (v := ?_) (a' := ?_) #[true, true, true, true, true, true, true, true, true, true] rfl rfl (by kernel_rfl) (fun _ _ _ h => h) (Or.inl ⟨by rfl, ?_⟩) ?_ ?_
      rotate_left
      · intro w'
        go_simp
        with_reducible rfl
      rotate_left
      · simp only [Act.put, List.setIfInBounds_toArray, List.set_cons_zero, List.set_cons_succ, i64_w, i32_w]
        rfl
      refine done_ (by kernel_rfl) ?_
      go_wp2
      go_ret
      refine ⟨_, rfl, ⟨by rw [nv_length]; omega, .inr ⟨w.heap.size, N, (rowOf (rep l) N).toArray, by rw [FL.out]; rfl, Nat.le_refl _, HG2.out, by rw [FL.out]; exact Nat.le_refl _, by have := q5.out; unfold maxLen; omega, by simp [rowOf_length (rep l) N (by rw [FL.out]; exact Nat.le_refl _)], ?_⟩⟩, HB2.out⟩
      have h5 := FL.out
      simp [rowOf, nv_length, h5]
      exact List.take_of_length_le (by rw [nv_length, h5]; exact Nat.le_refl _)
end Go.Proofs.YtbibchinimhamaaDoor
