/- The reference's FormedProgram. -/
import Derived.Test.YtbibchinimhamaaP
namespace Go.Proofs.Ytbibchinimhamaa
open Go.RowKit

set_option maxRecDepth 100000 in
set_option maxHeartbeats 4000000 in
theorem formed13 (A : Option Addr) (xs : List I) (c : Nat) (regs : Int) (w : World) (hx : HasI w A xs) (hl : xs.length ≤ maxLen) (hs : ∀ i, i < xs.length → (ei xs i).v.s.size ≤ maxLen) :
    Calls Try.prog 13 #[.agg #[.slice A xs.length c, .int .i64 regs]] w fun e w' => e = .returned (.bool (formedO regs xs)) ∧ Below w.heap.size w w' := by
  have HL := Lib.hid hl
  unfold maxLen at hl
  have HX := Lib.hid hx
  have HSZ := Lib.hid hs
  clear hx hs
  by_cases hb : 1 ≤ xs.length ∧ xs.length ≤ 1000 ∧ 1 ≤ regs ∧ regs ≤ 1000
  · have HF := Lib.hid (formedO_is hb)
    obtain ⟨h1, h2, h3, h4⟩ := hb
    go_enter Try.func13, Try.ntmps13
    go_wp2
    go_loopw [29] (fun i wr => ∃ k : Nat, k ≤ xs.length ∧ i = .int .i64 k ∧ Hid (soundTo regs xs k) ∧ Hid (Below w.heap.size w wr) ∧ Hid (PBox wr w.heap.size (.slice A xs.length c) regs)) (fun i _ => xs.length - (intOf i).toNat)
    case atStart => exact ⟨0, Nat.zero_le _, rfl, soundTo_zero _ _, Lib.hid (by go_grown), PBox.new _ _ _ _⟩
    case round =>
      obtain ⟨k, hk, rfl, HS, HB, HP⟩ := hrel
      obtain ⟨p0, p1⟩ := HP.out
      by_cases hkx : k < xs.length
      · obtain ⟨b, o, hA, hc⟩ := (HX.out.below HB.out) (by intro h; subst h; simp at hkx)
        obtain ⟨x0, x1, x2, x3, x4, x5, x6⟩ := hc k hkx
        have hsz := HSZ.out k hkx
        have z1 := lt_of_cell x0
        clear hc
        subst hA
        generalize hxe : ei xs k = x at *
        have HE := Lib.hid hxe
        clear hxe
        -- CASES
        by_cases h1 : x.op.toList = [99, 111, 110, 115, 116]
        · have hsh := shape_of_const h1
          obtain ⟨n1, n2⟩ := named_of hsh (by decide)
          have HSH := Lib.hid hsh
          have HN1 := Lib.hid n1
          have HN2 := Lib.hid n2
          clear n1 n2
          go_wp2_with fail
          refine (formed20 x.v _ hsz).mono ?_
          rintro e w1 ⟨rfl, hb1⟩
          have hg : Below wr.heap.size wr (wr.alloc (.cells #[.string x.op, .int .i64 x.a, .int .i64 x.b, .int .i64 x.c, .int .i64 x.v.k, .int .i64 x.v.n, .string x.v.s] 57)) := by go_grown
          have HB1 := Lib.hid ((HB.out.trans (hg.mono HB.out.size)).trans (hb1.mono (by simp; have := HB.out.size; omega)))
          have HP1 := Lib.hid ((HP.out.below hg).below hb1)
          have HI1 := Lib.hid ((IBox.new wr x 57).below hb1)
          clear hg hb1 HB HP p0 p1 x0 x1 x2 x3 x4 x5 x6 z1
          obtain ⟨p0, p1⟩ := HP1.out
          obtain ⟨x0, x1, x2, x3, x4, x5, x6⟩ := HI1.out
          cases hf : fmd x.v with
          | false =>
            go_wp2
            go_ret
            have hso : soundO regs xs.length k x = false := by simp [soundO, hf]
            exact ⟨ret_bool (HF.out.trans (allSound_no hkx (by rw [HE.out]; exact hso))).symm, HB1.out⟩
          | true =>
            go_wp2_with (go_at_call 35; refine (shape35 _ _).mono ?_; rintro e w' ⟨rfl, rfl⟩)
            all_goals first
              | (go_ret
                 have hso : soundO regs xs.length k x = false := by (have n1 := HN1.out; have n2 := HN2.out; simp_all [soundO, jumpB, zeroB, reg]; try omega)
                 exact ⟨ret_bool (HF.out.trans (allSound_no hkx (by rw [HE.out]; exact hso))).symm, HB1.out⟩)
              | (go_roundw
                 case rel =>
                   have hso : soundO regs xs.length k x = true := by (have n1 := HN1.out; have n2 := HN2.out; simp_all [soundO, jumpB, zeroB, reg]; try omega)
                   exact ⟨k + 1, by omega, by go_num, Lib.hid (soundTo_succ HS.out (by rw [HE.out]; exact hso)), HB1, HP1⟩
                 case measure => simp [intOf]; omega)
        have c1 := beq_eq_false_iff_ne.2 h1
        have H1 := Lib.hid h1
        clear h1
        cases hz : zeroB x.v with
        | false =>
          have hso : soundO regs xs.length k x = false := by simp [soundO, hz, c1]
          have HSO := Lib.hid (HF.out.trans (allSound_no hkx (by rw [HE.out]; exact hso))).symm
          have HZ := Lib.hid hz
          clear hso hz
          go_wp2_with fail
          all_goals first
            | (go_ret; exact ⟨ret_bool HSO.out, HB.out.alloc HB.out.size _⟩)
            | (have hz := HZ.out; exfalso; simp_all [zeroB]; done)
        | true =>
          obtain ⟨v1, v2, v3⟩ := zero_of hz
          clear hz
          obtain ⟨xo, xa, xb, xc, ⟨xk, xn, xs'⟩⟩ := x
          simp only at v1 v2 v3 x0 x1 x2 x3 x4 x5 x6 hsz
          subst v1 v2
          obtain rfl : xs' = ⟨#[]⟩ := toList_inj (by rw [v3]; simp)
          clear v3
          have hf : fmd zV = true := by simp [fmd, zV]
          have HE' : Hid (ei xs k = ⟨xo, xa, xb, xc, zV⟩) := HE
          clear HE
          have HE := HE'
          clear HE'
          by_cases h2 : xo.toList = [102, 97, 108, 115, 101]
          · have e1 := H1.out
            clear e1
            go_wp2_with fail
            refine (formed20 zV _ hsz).mono ?_
            rintro e w1 ⟨rfl, hb1⟩
            have hg : Below wr.heap.size wr (wr.alloc (.cells #[.string xo, .int .i64 xa, .int .i64 xb, .int .i64 xc, .int .i64 0, .int .i64 0, .string ⟨#[]⟩] 57)) := by go_grown
            have HB1 := Lib.hid ((HB.out.trans (hg.mono HB.out.size)).trans (hb1.mono (by simp; have := HB.out.size; omega)))
            have HP1 := Lib.hid ((HP.out.below hg).below hb1)
            have HI1 := Lib.hid ((IBox.new wr ⟨xo, xa, xb, xc, zV⟩ 57).below hb1)
            clear hg hb1 HB HP p0 p1 x0 x1 x2 x3 x4 x5 x6 z1
            obtain ⟨p0, p1⟩ := HP1.out
            obtain ⟨x0, x1, x2, x3, x4, x5, x6⟩ := HI1.out
            simp only [zV] at x0 x1 x2 x3 x4 x5 x6
            go_wp2_with (go_at_call 35; refine (shape35 _ _).mono ?_; rintro e w' ⟨rfl, rfl⟩)
            all_goals first
              | (go_ret
                 have hso : soundO regs xs.length k ⟨xo, xa, xb, xc, zV⟩ = false := by (simp_all [soundO, jumpB, zeroB, reg, zV]; try omega)
                 exact ⟨ret_bool (HF.out.trans (allSound_no hkx (by rw [HE.out]; exact hso))).symm, HB1.out⟩)
              | (go_roundw
                 case rel =>
                   have hso : soundO regs xs.length k ⟨xo, xa, xb, xc, zV⟩ = true := by (simp_all [soundO, jumpB, zeroB, reg, zV]; try omega)
                   exact ⟨k + 1, by omega, by go_num, Lib.hid (soundTo_succ HS.out (by rw [HE.out]; exact hso)), HB1, HP1⟩
                 case measure => simp [intOf]; omega)
          by_cases h3 : xo.toList = [116, 114, 117, 101]
          · have e1 := H1.out
            clear e1
            go_wp2_with fail
            refine (formed20 zV _ hsz).mono ?_
            rintro e w1 ⟨rfl, hb1⟩
            have hg : Below wr.heap.size wr (wr.alloc (.cells #[.string xo, .int .i64 xa, .int .i64 xb, .int .i64 xc, .int .i64 0, .int .i64 0, .string ⟨#[]⟩] 57)) := by go_grown
            have HB1 := Lib.hid ((HB.out.trans (hg.mono HB.out.size)).trans (hb1.mono (by simp; have := HB.out.size; omega)))
            have HP1 := Lib.hid ((HP.out.below hg).below hb1)
            have HI1 := Lib.hid ((IBox.new wr ⟨xo, xa, xb, xc, zV⟩ 57).below hb1)
            clear hg hb1 HB HP p0 p1 x0 x1 x2 x3 x4 x5 x6 z1
            obtain ⟨p0, p1⟩ := HP1.out
            obtain ⟨x0, x1, x2, x3, x4, x5, x6⟩ := HI1.out
            simp only [zV] at x0 x1 x2 x3 x4 x5 x6
            go_wp2_with (go_at_call 35; refine (shape35 _ _).mono ?_; rintro e w' ⟨rfl, rfl⟩)
            all_goals first
              | (go_ret
                 have hso : soundO regs xs.length k ⟨xo, xa, xb, xc, zV⟩ = false := by (simp_all [soundO, jumpB, zeroB, reg, zV]; try omega)
                 exact ⟨ret_bool (HF.out.trans (allSound_no hkx (by rw [HE.out]; exact hso))).symm, HB1.out⟩)
              | (go_roundw
                 case rel =>
                   have hso : soundO regs xs.length k ⟨xo, xa, xb, xc, zV⟩ = true := by (simp_all [soundO, jumpB, zeroB, reg, zV]; try omega)
                   exact ⟨k + 1, by omega, by go_num, Lib.hid (soundTo_succ HS.out (by rw [HE.out]; exact hso)), HB1, HP1⟩
                 case measure => simp [intOf]; omega)
          by_cases h4 : xo.toList = [99, 111, 108]
          · have hsh := shape_of_col h4
            obtain ⟨n1, n2⟩ := named_of hsh (by decide)
            have HN1 := Lib.hid n1
            have HN2 := Lib.hid n2
            clear n1 n2
            go_wp2_with fail
            refine (formed20 zV _ hsz).mono ?_
            rintro e w1 ⟨rfl, hb1⟩
            have hg : Below wr.heap.size wr (wr.alloc (.cells #[.string xo, .int .i64 xa, .int .i64 xb, .int .i64 xc, .int .i64 0, .int .i64 0, .string ⟨#[]⟩] 57)) := by go_grown
            have HB1 := Lib.hid ((HB.out.trans (hg.mono HB.out.size)).trans (hb1.mono (by simp; have := HB.out.size; omega)))
            have HP1 := Lib.hid ((HP.out.below hg).below hb1)
            have HI1 := Lib.hid ((IBox.new wr ⟨xo, xa, xb, xc, zV⟩ 57).below hb1)
            clear hg hb1 HB HP p0 p1 x0 x1 x2 x3 x4 x5 x6 z1
            obtain ⟨p0, p1⟩ := HP1.out
            obtain ⟨x0, x1, x2, x3, x4, x5, x6⟩ := HI1.out
            simp only [zV] at x0 x1 x2 x3 x4 x5 x6
            go_wp2_with (go_at_call 35; refine (shape35 _ _).mono ?_; rintro e w' ⟨rfl, rfl⟩)
            all_goals first
              | (go_ret
                 have hso : soundO regs xs.length k ⟨xo, xa, xb, xc, zV⟩ = false := by (have n1 := HN1.out; have n2 := HN2.out; simp_all [soundO, jumpB, zeroB, reg, zV]; try omega)
                 exact ⟨ret_bool (HF.out.trans (allSound_no hkx (by rw [HE.out]; exact hso))).symm, HB1.out⟩)
              | (go_roundw
                 case rel =>
                   have hso : soundO regs xs.length k ⟨xo, xa, xb, xc, zV⟩ = true := by (have n1 := HN1.out; have n2 := HN2.out; simp_all [soundO, jumpB, zeroB, reg, zV]; try omega)
                   exact ⟨k + 1, by omega, by go_num, Lib.hid (soundTo_succ HS.out (by rw [HE.out]; exact hso)), HB1, HP1⟩
                 case measure => simp [intOf]; omega)
          have d2 := beq_eq_false_iff_ne.2 h2
          have d3 := beq_eq_false_iff_ne.2 h3
          have d4 := beq_eq_false_iff_ne.2 h4
          have hrest := shape_of_other H1.out h4
          clear h2 h3 h4
          rcases hrest with hsh | hsh | hsh
          · obtain ⟨n1, n2⟩ := named_of hsh (by decide)
            have HN1 := Lib.hid n1
            have HN2 := Lib.hid n2
            clear n1 n2
            go_wp2_with fail
            refine (formed20 zV _ hsz).mono ?_
            rintro e w1 ⟨rfl, hb1⟩
            have hg : Below wr.heap.size wr (wr.alloc (.cells #[.string xo, .int .i64 xa, .int .i64 xb, .int .i64 xc, .int .i64 0, .int .i64 0, .string ⟨#[]⟩] 57)) := by go_grown
            have HB1 := Lib.hid ((HB.out.trans (hg.mono HB.out.size)).trans (hb1.mono (by simp; have := HB.out.size; omega)))
            have HP1 := Lib.hid ((HP.out.below hg).below hb1)
            have HI1 := Lib.hid ((IBox.new wr ⟨xo, xa, xb, xc, zV⟩ 57).below hb1)
            clear hg hb1 HB HP p0 p1 x0 x1 x2 x3 x4 x5 x6 z1
            obtain ⟨p0, p1⟩ := HP1.out
            obtain ⟨x0, x1, x2, x3, x4, x5, x6⟩ := HI1.out
            simp only [zV] at x0 x1 x2 x3 x4 x5 x6
            go_wp2_with (go_at_call 35; refine (shape35 _ _).mono ?_; rintro e w' ⟨rfl, rfl⟩)
            all_goals first
              | (go_ret
                 have hso : soundO regs xs.length k ⟨xo, xa, xb, xc, zV⟩ = false := by (have n1 := HN1.out; have n2 := HN2.out; simp_all [soundO, jumpB, zeroB, reg, zV]; try omega)
                 exact ⟨ret_bool (HF.out.trans (allSound_no hkx (by rw [HE.out]; exact hso))).symm, HB1.out⟩)
              | (go_roundw
                 case rel =>
                   have hso : soundO regs xs.length k ⟨xo, xa, xb, xc, zV⟩ = true := by (have n1 := HN1.out; have n2 := HN2.out; simp_all [soundO, jumpB, zeroB, reg, zV]; try omega)
                   exact ⟨k + 1, by omega, by go_num, Lib.hid (soundTo_succ HS.out (by rw [HE.out]; exact hso)), HB1, HP1⟩
                 case measure => simp [intOf]; omega)
          · obtain ⟨n1, n2⟩ := named_of hsh (by decide)
            have HN1 := Lib.hid n1
            have HN2 := Lib.hid n2
            clear n1 n2
            go_wp2_with fail
            refine (formed20 zV _ hsz).mono ?_
            rintro e w1 ⟨rfl, hb1⟩
            have hg : Below wr.heap.size wr (wr.alloc (.cells #[.string xo, .int .i64 xa, .int .i64 xb, .int .i64 xc, .int .i64 0, .int .i64 0, .string ⟨#[]⟩] 57)) := by go_grown
            have HB1 := Lib.hid ((HB.out.trans (hg.mono HB.out.size)).trans (hb1.mono (by simp; have := HB.out.size; omega)))
            have HP1 := Lib.hid ((HP.out.below hg).below hb1)
            have HI1 := Lib.hid ((IBox.new wr ⟨xo, xa, xb, xc, zV⟩ 57).below hb1)
            clear hg hb1 HB HP p0 p1 x0 x1 x2 x3 x4 x5 x6 z1
            obtain ⟨p0, p1⟩ := HP1.out
            obtain ⟨x0, x1, x2, x3, x4, x5, x6⟩ := HI1.out
            simp only [zV] at x0 x1 x2 x3 x4 x5 x6
            go_wp2_with (go_at_call 35; refine (shape35 _ _).mono ?_; rintro e w' ⟨rfl, rfl⟩)
            all_goals first
              | (go_ret
                 have hso : soundO regs xs.length k ⟨xo, xa, xb, xc, zV⟩ = false := by (have n1 := HN1.out; have n2 := HN2.out; simp_all [soundO, jumpB, zeroB, reg, zV]; try omega)
                 exact ⟨ret_bool (HF.out.trans (allSound_no hkx (by rw [HE.out]; exact hso))).symm, HB1.out⟩)
              | (go_roundw
                 case rel =>
                   have hso : soundO regs xs.length k ⟨xo, xa, xb, xc, zV⟩ = true := by (have n1 := HN1.out; have n2 := HN2.out; simp_all [soundO, jumpB, zeroB, reg, zV]; try omega)
                   exact ⟨k + 1, by omega, by go_num, Lib.hid (soundTo_succ HS.out (by rw [HE.out]; exact hso)), HB1, HP1⟩
                 case measure => simp [intOf]; omega)
          · have n2 := named_none hsh
            have HN2 := Lib.hid n2
            clear n2
            go_wp2_with fail
            refine (formed20 zV _ hsz).mono ?_
            rintro e w1 ⟨rfl, hb1⟩
            have hg : Below wr.heap.size wr (wr.alloc (.cells #[.string xo, .int .i64 xa, .int .i64 xb, .int .i64 xc, .int .i64 0, .int .i64 0, .string ⟨#[]⟩] 57)) := by go_grown
            have HB1 := Lib.hid ((HB.out.trans (hg.mono HB.out.size)).trans (hb1.mono (by simp; have := HB.out.size; omega)))
            have HP1 := Lib.hid ((HP.out.below hg).below hb1)
            have HI1 := Lib.hid ((IBox.new wr ⟨xo, xa, xb, xc, zV⟩ 57).below hb1)
            clear hg hb1 HB HP p0 p1 x0 x1 x2 x3 x4 x5 x6 z1
            obtain ⟨p0, p1⟩ := HP1.out
            obtain ⟨x0, x1, x2, x3, x4, x5, x6⟩ := HI1.out
            simp only [zV] at x0 x1 x2 x3 x4 x5 x6
            go_wp2_with (go_at_call 35; refine (shape35 _ _).mono ?_; rintro e w' ⟨rfl, rfl⟩)
            all_goals first
              | (go_ret
                 have hso : soundO regs xs.length k ⟨xo, xa, xb, xc, zV⟩ = false := by (have n2 := HN2.out; simp_all [soundO, jumpB, zeroB, reg, zV]; try omega)
                 exact ⟨ret_bool (HF.out.trans (allSound_no hkx (by rw [HE.out]; exact hso))).symm, HB1.out⟩)
              | (go_roundw
                 case rel =>
                   have hso : soundO regs xs.length k ⟨xo, xa, xb, xc, zV⟩ = true := by (have n2 := HN2.out; simp_all [soundO, jumpB, zeroB, reg, zV]; try omega)
                   exact ⟨k + 1, by omega, by go_num, Lib.hid (soundTo_succ HS.out (by rw [HE.out]; exact hso)), HB1, HP1⟩
                 case measure => simp [intOf]; omega)
      · obtain rfl : k = xs.length := by omega
        have HY := Lib.hid (HF.out.trans (allSound_yes HS.out))
        go_wp2
        go_ret
        exact ⟨ret_bool HY.out.symm, HB.out⟩
  · have HF := Lib.hid (formedO_not hb)
    have hb' : xs.length < 1 ∨ 1000 < xs.length ∨ regs < 1 ∨ 1000 < regs := by omega
    clear hb
    rcases hb' with h | h | h | h
    all_goals
      go_enter Try.func13, Try.ntmps13
      go_wp2
      all_goals go_ret
      all_goals exact ⟨ret_bool HF.out.symm, by go_grown⟩
end Go.Proofs.Ytbibchinimhamaa
