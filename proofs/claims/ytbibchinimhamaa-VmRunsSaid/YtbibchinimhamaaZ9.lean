/- vm.Run. -/
import Derived.Test.YtbibchinimhamaaZ8
import Derived.Laws.MakeOwn
import Derived.Laws.Entries
namespace Go.Proofs.Ytbibchinimhamaa
set_option linter.unusedVariables false
set_option linter.unusedSimpArgs false
open Go.RowKit

theorem run_make_rowN {P : Program} (t e : TypeId) (i : TypeInfo) (z : Value) (ht : P.underlying t = some (.slice e)) (hi : P.info? e = some i) (hz : i.zero = some z)
    (kl kc : IntKind) (n c : Nat) (hnc : n ≤ c) (hbytes : i.bytes * c ≤ 281474976710656) (h63 : c ≤ 9223372036854775807) (w : World) :
    (Instr.makeSlice t (.int kl (n : Int)) (.int kc (c : Int))).run P w = .ok (.slice (some ⟨w.heap.size, 0, none⟩) n c) (w.alloc (.cells (madeCells z.cells (c * i.size)) e)) := by
  have hb : (i.bytes : Int) * (c : Int) ≤ 281474976710656 := by
    have h : ((i.bytes * c : Nat) : Int) ≤ 281474976710656 := by omega
    rwa [Int.natCast_mul] at h
  have hr := run_make (P := P) w t e i z ht hi hz kl kc n c (by omega) (by omega) hb (by omega)
  simp only [Int.toNat_natCast] at hr
  exact hr
theorem Try.info68 : (Try.prog.info? 68).map (fun i => (i.zero, i.size, i.bytes)) = some (some (.agg #[.int .i64 0, .int .i64 0, .string ⟨#[]⟩, .int .i64 0]), 4, 40) := by kernel_rfl
theorem Try.make66 (n : Nat) (hn : n ≤ 65536) (w : World) : (Instr.makeSlice 66 (.int .i64 (n : Int)) (.int .i64 (n : Int))).run Try.prog w =
    .ok (.slice (some ⟨w.heap.size, 0, none⟩) n n) (w.alloc (.cells (madeCells #[.int .i64 0, .int .i64 0, .string ⟨#[]⟩, .int .i64 0] (n * 4)) 68)) := by
  have hi := Try.info68
  cases h : Try.prog.info? 68 with
  | none => rw [h] at hi; exact absurd hi (by simp)
  | some i =>
    rw [h] at hi
    simp only [Option.map_some, Option.some.injEq, Prod.mk.injEq] at hi
    have hr := run_make_rowN (P := Try.prog) 66 68 i _ (by kernel_rfl) h hi.1 .i64 .i64 n n (Nat.le_refl _) (by rw [hi.2.2]; omega) (by omega) w
    rw [hr, hi.2.1]
    rfl


theorem sound_of {regs : Int} {xs : List I} (h : formedO regs xs = true) : (1 ≤ xs.length ∧ xs.length ≤ 1000 ∧ 1 ≤ regs ∧ regs ≤ 1000) ∧ ∀ k, k < xs.length → soundO regs xs.length k (ei xs k) = true := by
  unfold formedO at h
  simp only [Bool.and_eq_true, decide_eq_true_eq] at h
  refine ⟨⟨h.1.1.1.1, h.1.1.1.2, h.1.1.2, h.1.2⟩, fun k hk => ?_⟩
  have h2 := h.2
  unfold allSound at h2
  exact List.all_eq_true.1 h2 k (List.mem_range.2 hk)
theorem copy_b {n k : Nat} {xs : List I} (hso : soundO n xs.length k (ei xs k) = true) : (ei xs k).b.toNat < n ∨ ¬ (ei xs k).op.toList = [99, 111, 112, 121] := by
  by_cases h : (ei xs k).op.toList = [99, 111, 112, 121]
  · simp [soundO, jumpB, namedB, shapeO, reg, h] at hso
    exact .inl (by omega)
  · exact .inr h

/-- What holds at a jump. -/
def J32 (w : World) (A : Option Addr) (R : List (List V)) (cR : Nat) (X : Option Addr) (xs : List I) (c n : Nat) (res : V × Int × Int) (a : Act) (wr : World) : Prop :=
  ∃ (g k : Nat) (e : Int) (fv : Nat → V) (ft : Nat → Int), F32 w A R.length cR g n k e a ∧ M32 w X xs c n g fv ft wr ∧ k ≤ xs.length ∧ (∀ i, i < n → (fv i).wf) ∧ ((e = 0 ∧ goO R xs k fv ft = res) ∨ (¬ e = 0 ∧ (zV, 0, e) = res))
def at32 (a : Act) : Nat := match a.tmps.getD 9 undef with
  | .int _ q => q.toNat
  | _ => 0
theorem F32.at {w : World} {A : Option Addr} {len cR g n k : Nat} {e : Int} {a : Act} (h : F32 w A len cR g n k e a) : at32 a = k := by
  unfold at32; rw [h.s9]; simp

theorem round32 {w : World} {A : Option Addr} {R : List (List V)} {cR : Nat} {X : Option Addr} {xs : List I} {c n : Nat} {res : V × Int × Int} (hx : HasI w X xs) (hf : formedO n xs = true)
    (hxv : ∀ i, i < xs.length → (ei xs i).v.wf) (hR : HasR w A R) (hRl : R.length ≤ maxLen) (hw : wfR R) {a : Act} {wr : World} (hJ : J32 w A R cR X xs c n res a wr) :
    body32.wp Try.prog (Exit.jump 0 (fun a' w' => J32 w A R cR X xs c n res a' w' ∧ xs.length - at32 a' < xs.length - at32 a) (bodyPost Try.prog Try.f32 (post32 w res))) a wr := by
  obtain ⟨⟨h1, h2, h3, h4⟩, hso⟩ := sound_of hf
  obtain ⟨g, k, e, fv, ft, hF, hM, hk, hwf, hr⟩ := hJ
  rcases hr with ⟨rfl, hr⟩ | ⟨he, rfl⟩
  · by_cases hkx : k < xs.length
    · have hon := step_on (R := R) (fv := fv) (ft := ft) hkx (hso k hkx)
      refine step32 hF hM hx hkx h2 (hso k hkx) hwf hR hRl hw (fun a' w' hF' hM' => ⟨⟨g, _, _, _, _, hF', hM', hon.2, step_wf hw (hxv k hkx) hwf (copy_b (hso k hkx)), ?_⟩, ?_⟩)
      · rw [go_step hso hkx] at hr
        by_cases he : (stepO R k (ei xs k) fv ft).1 = 0
        · rw [if_pos he] at hr
          exact .inl ⟨he, hr⟩
        · rw [if_neg he] at hr
          exact .inr ⟨he, hr⟩
      · rw [hF.at, hF'.at]
        omega
    · obtain rfl : k = xs.length := by omega
      rw [go_end] at hr
      subst hr
      exact end32 hF hM (by omega) (by omega)
  · exact out32 hF hM he

theorem jump_mono {l : Nat} {J J' : Act → World → Prop} {Q : Exit → Act → World → Prop} (h : ∀ a w, J a w → J' a w) : ∀ e a w, Exit.jump l J Q e a w → Exit.jump l J' Q e a w := by
  intro e a w hj
  cases e with
  | goto l' => exact ⟨hj.1, h _ _ hj.2⟩
  | _ => exact hj
theorem wp_skip_seq {P : Program} {c : Code} {Q : Exit → Act → World → Prop} {a : Act} {w : World} (h : c.wp P Q a w) : (Code.seq .skip c).wp P Q a w := by
  apply wp_seq_k
  intro K hK
  apply wp_skip
  exact hK _ _ h
theorem M32.congr {w wr : World} {X : Option Addr} {xs : List I} {c n g : Nat} {fv : Nat → V} {ft ft' : Nat → Int} (h : M32 w X xs c n g fv ft wr) (he : ∀ i, i < n → ft i = ft' i) : M32 w X xs c n g fv ft' wr := by
  refine ⟨h.hp, h.ho, ?_, h.hg, h.hb⟩
  obtain ⟨arr, q1, q2⟩ := h.hr
  exact ⟨arr, q1, fun i hi => by rw [← he i hi]; exact q2 i hi⟩

theorem upd_two (k i : Nat) : upd (fun j => if j < k then (2 : Int) else 0) k 2 i = if i < k + 1 then 2 else 0 := by
  unfold upd
  by_cases h : i = k
  · subst h; simp
  · rw [if_neg h]
    show (if i < k then (2 : Int) else 0) = _
    by_cases h2 : i < k
    · rw [if_pos h2, if_pos (by omega)]
    · rw [if_neg h2, if_neg (by omega)]

def resO (R : List (List V)) (xs : List I) : V × Int × Int := goO R xs 0 (fun _ => zV) (fun _ => 2)
set_option maxRecDepth 1000000 in
set_option maxHeartbeats 2000000 in
theorem vm32_not (A : Option Addr) (len cR : Nat) (X : Option Addr) (xs : List I) (c : Nat) (regs : Int) (w : World) (hx : HasI w X xs) (hl : xs.length ≤ maxLen) (hs : ∀ i, i < xs.length → (ei xs i).v.s.size ≤ maxLen) (hf : formedO regs xs = false) :
    Calls Try.prog 32 #[.agg #[.slice X xs.length c, .int .i64 regs], .slice A len cR] w (post32 w (zV, 0, 1)) := by
  have HX := Lib.hid hx
  have HSZ := Lib.hid hs
  clear hx hs
  go_enter Try.func32, Try.ntmps32
  go_wp2_with fail
  go_step3
  go_wp2_with fail
  refine (formed11 X xs c regs _ (HX.out.below (by go_grown)) hl HSZ.out).mono ?_
  rw [hf]
  rintro e w1 ⟨rfl, hb1⟩
  have HO := Lib.hid ((Own.new (w.alloc (.cells #[.slice X xs.length c, .int .i64 regs] 29)) zV).below hb1)
  simp only [World.size_alloc] at HO
  have HB := Lib.hid (Below.trans (by go_grown : Below w.heap.size w _) (hb1.mono (by simp; omega)))
  clear hb1
  obtain ⟨s0, s1, s2⟩ := HO.out.box
  have f0 := HO.out.free 0
  have f1 := HO.out.free 1
  have f2 := HO.out.free 2
  go_wp2
  rw [Exit.noGoto_ret]
  refine bodyPost_ret (v := .tuple #[V.val zV, .int .i64 0, .int .i64 1]) (by simp [results, Try.results32, go_sem, zV, s0, s1, s2]) rfl ⟨rfl, ?_⟩
  exact below3 HB.out (by omega) _ _ _

set_option maxRecDepth 1000000 in
set_option maxHeartbeats 2000000 in
theorem vm32_formed (A : Option Addr) (R : List (List V)) (cR : Nat) (X : Option Addr) (xs : List I) (c : Nat) (n : Nat) (w : World) (hx : HasI w X xs) (hl : xs.length ≤ maxLen) (hs : ∀ i, i < xs.length → (ei xs i).v.wf) (hf : formedO n xs = true)
    (hR : HasR w A R) (hRl : R.length ≤ maxLen) (hw : wfR R) :
    Calls Try.prog 32 #[.agg #[.slice X xs.length c, .int .i64 n], .slice A R.length cR] w (post32 w (resO R xs)) := by
  have hn := (sound_of hf).1
  have HX := Lib.hid hx
  have HSZ := Lib.hid hs
  have HL := Lib.hid hl
  have HROUND := Lib.hid (fun a wr => round32 (res := resO R xs) (cR := cR) (c := c) hx hf hs hR hRl hw (a := a) (wr := wr))
  clear hx hs hl hR hRl hw
  have hmk := fun W => Try.make66 n (by omega) W
  go_enter Try.func32, Try.ntmps32
  go_wp2_with fail
  refine wp_scope_jumps 0 (J32 w A R cR X xs c n (resO R xs)) (fun a _ => xs.length - at32 a) rfl ?_ ?_
  · go_wp2_with fail
    refine (formed11 X xs c n _ (HX.out.below (by go_grown)) HL.out (fun i hi => (HSZ.out i hi).2.2)).mono ?_
    rw [hf]
    rintro e w1 ⟨rfl, hb1⟩
    have HO := Lib.hid ((Own.new (w.alloc (.cells #[.slice X xs.length c, .int .i64 n] 29)) zV).below hb1)
    simp only [World.size_alloc] at HO
    have HP := Lib.hid ((PBox.new w (.slice X xs.length c) n 29).below (by go_grown : Below _ _ (((w.alloc (.cells #[.slice X xs.length c, .int .i64 n] 29)).alloc (.cells #[.int .i64 0, .int .i64 0, .string ⟨#[]⟩] 33)))) |>.below hb1)
    have HB := Lib.hid (Below.trans (by go_grown : Below w.heap.size w _) (hb1.mono (by simp; omega)))
    have hz : w.heap.size + 2 ≤ w1.heap.size := by have := hb1.size; simpa using this
    clear hb1
    obtain ⟨p0, p1⟩ := HP.out
    have HM0 := Lib.hid (show M32 w X xs c n w1.heap.size (fun _ => zV) (fun _ => 0) (w1.alloc (.cells (madeCells #[.int .i64 0, .int .i64 0, .string ⟨#[]⟩, .int .i64 0] (n * 4)) 68)) from
      ⟨HP.out.below (by go_grown), HO.out.below (by go_grown), RegB.made w1 n, hz, HB.out.trans (by go_grown)⟩)
    clear HO HP HB
    obtain ⟨W, hW⟩ : ∃ W, W = w1.alloc (.cells (madeCells #[.int .i64 0, .int .i64 0, .string ⟨#[]⟩, .int .i64 0] (n * 4)) 68) := ⟨_, rfl⟩
    go_wp2_with fail
    rw [← hW] at HM0 ⊢
    generalize w1.heap.size = g at *
    clear hW hz hmk p0 p1
    go_loopw [22] (fun i wr => ∃ k : Nat, k ≤ n ∧ i = .int .i64 k ∧ Hid (M32 w X xs c n g (fun _ => zV) (fun j => if j < k then 2 else 0) wr)) (fun i _ => n - (intOf i).toNat)
    case atStart => exact ⟨0, Nat.zero_le _, rfl, HM0⟩
    case round =>
      obtain ⟨k, hk, rfl, HM⟩ := hrel
      by_cases hkn : k < n
      · obtain ⟨r0, r1, r2, r3⟩ := HM.out.hr.cells (i := k) hkn
        have g0 := HM.out.hr.free
        have i0 : (0 : Int) ≤ (k : Int) := by omega
        have i1 : (k : Int) < (n : Int) := by omega
        go_wp2
        go_roundw
        case rel => exact ⟨k + 1, by omega, by go_num, Lib.hid ((HM.out.setT k 2).congr (fun i _ => upd_two k i))⟩
        case measure => simp [intOf]; omega
      · obtain rfl : k = n := by omega
        have HM1 := Lib.hid (HM.out.congr (ft' := fun _ => 2) (fun i hi => if_pos hi))
        clear HM
        go_wp2
        go_step3
        simp only [Exit.then]
        apply_assumption
        refine Code.wp_mono (jump_mono (fun _ _ h => h.1)) (HROUND.out _ _ ⟨g, 0, 0, fun _ => zV, fun _ => 2, ⟨rfl, rfl, rfl, rfl, rfl, rfl, rfl, rfl⟩, HM1.out, Nat.zero_le _, fun _ _ => zV_wf, .inl ⟨rfl, rfl⟩⟩)
  · intro a w' hJ
    exact wp_skip_seq (HROUND.out a w' hJ)
end Go.Proofs.Ytbibchinimhamaa
