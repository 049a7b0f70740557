/- code.Formed: an instruction is sound at its place. -/
import Derived.Test.YtbibchinimhamaaN
import Derived.Test.YtbibchinimhamaaK
namespace Go.Proofs.Ytbibchinimhamaa
open Go.RowKit

/-- An instruction. -/
structure I where
  op : ByteArray
  a : Int
  b : Int
  c : Int
  v : V
instance : Inhabited I := ⟨⟨ByteArray.empty, 0, 0, 0, default⟩⟩
def ei (xs : List I) (i : Nat) : I := xs.getD i default
def IAt (w : World) (b o : Nat) (x : I) : Prop :=
  w.cell? ⟨b, o, none⟩ = some (.string x.op) ∧ w.cell? ⟨b, o + 1, none⟩ = some (.int .i64 x.a) ∧ w.cell? ⟨b, o + 2, none⟩ = some (.int .i64 x.b) ∧ w.cell? ⟨b, o + 3, none⟩ = some (.int .i64 x.c) ∧
  w.cell? ⟨b, o + 4, none⟩ = some (.int .i64 x.v.k) ∧ w.cell? ⟨b, o + 5, none⟩ = some (.int .i64 x.v.n) ∧ w.cell? ⟨b, o + 6, none⟩ = some (.string x.v.s)
/-- The slice at A holds the instructions xs. -/
def HasI (w : World) (A : Option Addr) (xs : List I) : Prop :=
  xs ≠ [] → ∃ b o, A = some ⟨b, o, none⟩ ∧ ∀ i, i < xs.length → IAt w b (o + i * 7) (ei xs i)
theorem IAt.below {w w' : World} {b o : Nat} {x : I} (h : IAt w b o x) (hb : Below w.heap.size w w') : IAt w' b o x := by
  have hlt := lt_of_cell h.1
  exact ⟨(hb.cell (p := ⟨b, _, none⟩) hlt).trans h.1, (hb.cell (p := ⟨b, _, none⟩) hlt).trans h.2.1, (hb.cell (p := ⟨b, _, none⟩) hlt).trans h.2.2.1, (hb.cell (p := ⟨b, _, none⟩) hlt).trans h.2.2.2.1,
    (hb.cell (p := ⟨b, _, none⟩) hlt).trans h.2.2.2.2.1, (hb.cell (p := ⟨b, _, none⟩) hlt).trans h.2.2.2.2.2.1, (hb.cell (p := ⟨b, _, none⟩) hlt).trans h.2.2.2.2.2.2⟩
theorem HasI.below {w w' : World} {A : Option Addr} {xs : List I} (h : HasI w A xs) (hb : Below w.heap.size w w') : HasI w' A xs := fun hn => by
  obtain ⟨b, o, e, hc⟩ := h hn
  exact ⟨b, o, e, fun i hi => (hc i hi).below hb⟩
def I.wf (x : I) : Prop := (Lit.int .i64 x.a).wf = true ∧ (Lit.int .i64 x.b).wf = true ∧ (Lit.int .i64 x.c).wf = true ∧ x.op.size ≤ maxLen ∧ x.v.wf

def reg (regs n : Int) : Bool := decide (0 ≤ n) && decide (n < regs)
set_option maxHeartbeats 400000 in
theorem reg55 (n regs : Int) (g : Nat) (w : World) (hc : w.cell? ⟨g, 1, none⟩ = some (.int .i64 regs)) :
    Calls Try.prog 55 #[.int .i64 n, .pointer (some ⟨g, 0, none⟩)] w fun e w' => e = .returned (.bool (reg regs n)) ∧ w = w' := by
  go_enter Try.func55, Try.ntmps55
  go_wp2
  all_goals go_ret
  all_goals exact ⟨ret_bool (by simp [reg, *]; try omega), rfl⟩

def IBox (w : World) (g : Nat) (x : I) : Prop :=
  w.cell? ⟨g, 0, none⟩ = some (.string x.op) ∧ w.cell? ⟨g, 1, none⟩ = some (.int .i64 x.a) ∧ w.cell? ⟨g, 2, none⟩ = some (.int .i64 x.b) ∧ w.cell? ⟨g, 3, none⟩ = some (.int .i64 x.c) ∧
  w.cell? ⟨g, 4, none⟩ = some (.int .i64 x.v.k) ∧ w.cell? ⟨g, 5, none⟩ = some (.int .i64 x.v.n) ∧ w.cell? ⟨g, 6, none⟩ = some (.string x.v.s)
theorem IBox.below {w w' : World} {g : Nat} {x : I} (h : IBox w g x) (hb : Below w.heap.size w w') : IBox w' g x := by
  have hlt := lt_of_cell h.1
  exact ⟨(hb.cell (p := ⟨g, _, none⟩) hlt).trans h.1, (hb.cell (p := ⟨g, _, none⟩) hlt).trans h.2.1, (hb.cell (p := ⟨g, _, none⟩) hlt).trans h.2.2.1, (hb.cell (p := ⟨g, _, none⟩) hlt).trans h.2.2.2.1,
    (hb.cell (p := ⟨g, _, none⟩) hlt).trans h.2.2.2.2.1, (hb.cell (p := ⟨g, _, none⟩) hlt).trans h.2.2.2.2.2.1, (hb.cell (p := ⟨g, _, none⟩) hlt).trans h.2.2.2.2.2.2⟩
theorem IBox.new (w : World) (x : I) (t : TypeId) : IBox (w.alloc (.cells #[.string x.op, .int .i64 x.a, .int .i64 x.b, .int .i64 x.c, .int .i64 x.v.k, .int .i64 x.v.n, .string x.v.s] t)) w.heap.size x := by
  refine ⟨?_, ?_, ?_, ?_, ?_, ?_, ?_⟩ <;> go_simp
def PBox (w : World) (g : Nat) (s : Value) (regs : Int) : Prop := w.cell? ⟨g, 0, none⟩ = some s ∧ w.cell? ⟨g, 1, none⟩ = some (.int .i64 regs)
theorem PBox.below {w w' : World} {g : Nat} {s : Value} {regs : Int} (h : PBox w g s regs) (hb : Below w.heap.size w w') : PBox w' g s regs := by
  have hlt := lt_of_cell h.1
  exact ⟨(hb.cell (p := ⟨g, _, none⟩) hlt).trans h.1, (hb.cell (p := ⟨g, _, none⟩) hlt).trans h.2⟩
theorem PBox.new (w : World) (s : Value) (regs : Int) (t : TypeId) : PBox (w.alloc (.cells #[s, .int .i64 regs] t)) w.heap.size s regs := by
  refine ⟨?_, ?_⟩ <;> go_simp

def jumpB (op : ByteArray) : Bool := op.toList == [102, 97, 108, 115, 101] || op.toList == [116, 114, 117, 101]
def zeroB (v : V) : Bool := decide (v.k = 0) && (decide (v.n = 0) && v.s.toList.isEmpty)
def soundO (regs : Int) (len at_ : Nat) (x : I) : Bool :=
  fmd x.v && (x.op.toList == [99, 111, 110, 115, 116] || zeroB x.v) &&
    (if jumpB x.op then x.a == 0 && reg regs x.b && decide ((at_ : Int) < x.c) && decide (x.c ≤ (len : Int))
     else namedB x.op && reg regs x.a &&
      (if x.op.toList == [99, 111, 108] then decide (0 ≤ x.b) && decide (0 ≤ x.c)
       else if shapeO x.op == 0 then x.b == 0 && x.c == 0
       else if shapeO x.op == 1 then reg regs x.b && x.c == 0
       else reg regs x.b && reg regs x.c))

theorem shape_of_const {op : ByteArray} (h : op.toList = [99, 111, 110, 115, 116]) : shapeO op = 0 := by simp [shapeO, h]
theorem shape_of_col {op : ByteArray} (h : op.toList = [99, 111, 108]) : shapeO op = 0 := by simp [shapeO, h]
theorem shape_of_other {op : ByteArray} (h1 : ¬ op.toList = [99, 111, 110, 115, 116]) (h2 : ¬ op.toList = [99, 111, 108]) : shapeO op = 1 ∨ shapeO op = 2 ∨ shapeO op = -1 := by
  unfold shapeO
  rw [if_neg (by simp [h1, h2])]
  split
  · exact .inl rfl
  · split
    · exact .inr (.inl rfl)
    · exact .inr (.inr rfl)
theorem named_of {op : ByteArray} {n : Int} (h : shapeO op = n) (hn : ¬ n = -1) : namedN op = n ∧ namedB op = true := by
  unfold namedN namedB; rw [h, if_neg hn]; simp [hn]
theorem named_none {op : ByteArray} (h : shapeO op = -1) : namedB op = false := by unfold namedB; rw [h]; rfl
theorem zero_of {v : V} (h : zeroB v = true) : v.k = 0 ∧ v.n = 0 ∧ v.s.toList = [] := by
  unfold zeroB at h; simpa using h

set_option maxHeartbeats 1000000 in
theorem sound34_bad (A : Option Addr) (xs : List I) (c : Nat) (regs : Int) (k : Nat) (w : World) (hx : HasI w A xs) (hk : k < xs.length) (hl : xs.length ≤ maxLen) (hs : (ei xs k).v.s.size ≤ maxLen) (hf : fmd (ei xs k).v = false) :
    Calls Try.prog 34 #[.agg #[.slice A xs.length c, .int .i64 regs], .int .i64 k] w fun e w' => e = .returned (.bool (soundO regs xs.length k (ei xs k))) ∧ Below w.heap.size w w' := by
  unfold maxLen at hl
  have hmf : ∀ (fn : Fn) (first cap : Array Value) (w : World), (Instr.makeFunc fn first cap).run Try.prog w = .ok (.func fn first cap) w := fun _ _ _ _ => rfl
  obtain ⟨b, o, rfl, hc⟩ := hx (by intro h; subst h; simp at hk)
  obtain ⟨x0, x1, x2, x3, x4, x5, x6⟩ := hc k hk
  have z1 := lt_of_cell x0
  clear hc hx
  generalize ei xs k = x at *
  go_enter Try.func34, Try.ntmps34
  go_wp2_with fail
  refine (formed19 x.v _ hs).mono ?_
  rintro e w2 ⟨rfl, hb2⟩
  have HP := Lib.hid ((PBox.new w (.slice (some ⟨b, o, none⟩) xs.length c) regs 29).below (by go_grown : Below _ _ (((w.alloc (.cells #[.slice (some ⟨b, o, none⟩) xs.length c, .int .i64 regs] 29)).alloc (.cells #[.string x.op, .int .i64 x.a, .int .i64 x.b, .int .i64 x.c, .int .i64 x.v.k, .int .i64 x.v.n, .string x.v.s] 55)))) |>.below hb2)
  have HI := Lib.hid ((IBox.new (w.alloc (.cells #[.slice (some ⟨b, o, none⟩) xs.length c, .int .i64 regs] 29)) x 55).below hb2)
  have HW := Lib.hid (Below.trans (by go_grown : Below w.heap.size w _) (hb2.mono (by simp; omega)))
  simp only [World.size_alloc] at HI
  clear hb2 x0 x1 x2 x3 x4 x5 x6 z1
  obtain ⟨p0, p1⟩ := HP.out
  obtain ⟨x0, x1, x2, x3, x4, x5, x6⟩ := HI.out
  go_wp2
  go_ret
  exact ⟨ret_bool (by simp [soundO, hf]), HW.out⟩

set_option maxHeartbeats 1000000 in
theorem sound34_const (A : Option Addr) (xs : List I) (c : Nat) (regs : Int) (k : Nat) (w : World) (hx : HasI w A xs) (hk : k < xs.length) (hl : xs.length ≤ maxLen) (hs : (ei xs k).v.s.size ≤ maxLen) (hf : fmd (ei xs k).v = true) (hop : (ei xs k).op.toList = [99, 111, 110, 115, 116]) :
    Calls Try.prog 34 #[.agg #[.slice A xs.length c, .int .i64 regs], .int .i64 k] w fun e w' => e = .returned (.bool (soundO regs xs.length k (ei xs k))) ∧ Below w.heap.size w w' := by
  unfold maxLen at hl
  have hmf : ∀ (fn : Fn) (first cap : Array Value) (w : World), (Instr.makeFunc fn first cap).run Try.prog w = .ok (.func fn first cap) w := fun _ _ _ _ => rfl
  obtain ⟨b, o, rfl, hc⟩ := hx (by intro h; subst h; simp at hk)
  obtain ⟨x0, x1, x2, x3, x4, x5, x6⟩ := hc k hk
  have z1 := lt_of_cell x0
  clear hc hx
  generalize ei xs k = x at *
  have hsh := shape_of_const hop
  obtain ⟨n1, n2⟩ := named_of hsh (by decide)
  have HS := Lib.hid hsh
  clear hsh
  go_enter Try.func34, Try.ntmps34
  go_wp2_with fail
  refine (formed19 x.v _ hs).mono ?_
  rintro e w2 ⟨rfl, hb2⟩
  have HP := Lib.hid ((PBox.new w (.slice (some ⟨b, o, none⟩) xs.length c) regs 29).below (by go_grown : Below _ _ (((w.alloc (.cells #[.slice (some ⟨b, o, none⟩) xs.length c, .int .i64 regs] 29)).alloc (.cells #[.string x.op, .int .i64 x.a, .int .i64 x.b, .int .i64 x.c, .int .i64 x.v.k, .int .i64 x.v.n, .string x.v.s] 55)))) |>.below hb2)
  have HI := Lib.hid ((IBox.new (w.alloc (.cells #[.slice (some ⟨b, o, none⟩) xs.length c, .int .i64 regs] 29)) x 55).below hb2)
  have HW := Lib.hid (Below.trans (by go_grown : Below w.heap.size w _) (hb2.mono (by simp; omega)))
  simp only [World.size_alloc] at HI
  clear hb2 x0 x1 x2 x3 x4 x5 x6 z1
  obtain ⟨p0, p1⟩ := HP.out
  obtain ⟨x0, x1, x2, x3, x4, x5, x6⟩ := HI.out
  go_wp2_with (first | (go_at_call 56; refine (named56 _ _).mono ?_; rintro e w' ⟨rfl, rfl⟩) | (go_at_call 55; refine (reg55 _ regs w.heap.size _ p1).mono ?_; rintro e w' ⟨rfl, rfl⟩))
  all_goals go_ret
  all_goals have hsh := HS.out
  all_goals exact ⟨ret_bool (by simp_all [soundO, jumpB, zeroB]; try omega), HW.out⟩

set_option maxHeartbeats 1000000 in
theorem sound34_nz (A : Option Addr) (xs : List I) (c : Nat) (regs : Int) (k : Nat) (w : World) (hx : HasI w A xs) (hk : k < xs.length) (hl : xs.length ≤ maxLen) (hs : (ei xs k).v.s.size ≤ maxLen) (hf : fmd (ei xs k).v = true) (hop : ((ei xs k).op.toList == [99, 111, 110, 115, 116]) = false) (hz : zeroB (ei xs k).v = false) :
    Calls Try.prog 34 #[.agg #[.slice A xs.length c, .int .i64 regs], .int .i64 k] w fun e w' => e = .returned (.bool (soundO regs xs.length k (ei xs k))) ∧ Below w.heap.size w w' := by
  unfold maxLen at hl
  have hmf : ∀ (fn : Fn) (first cap : Array Value) (w : World), (Instr.makeFunc fn first cap).run Try.prog w = .ok (.func fn first cap) w := fun _ _ _ _ => rfl
  obtain ⟨b, o, rfl, hc⟩ := hx (by intro h; subst h; simp at hk)
  obtain ⟨x0, x1, x2, x3, x4, x5, x6⟩ := hc k hk
  have z1 := lt_of_cell x0
  clear hc hx
  generalize ei xs k = x at *
  have HZ := Lib.hid hz
  clear hz
  go_enter Try.func34, Try.ntmps34
  go_wp2_with fail
  refine (formed19 x.v _ hs).mono ?_
  rintro e w2 ⟨rfl, hb2⟩
  have HP := Lib.hid ((PBox.new w (.slice (some ⟨b, o, none⟩) xs.length c) regs 29).below (by go_grown : Below _ _ (((w.alloc (.cells #[.slice (some ⟨b, o, none⟩) xs.length c, .int .i64 regs] 29)).alloc (.cells #[.string x.op, .int .i64 x.a, .int .i64 x.b, .int .i64 x.c, .int .i64 x.v.k, .int .i64 x.v.n, .string x.v.s] 55)))) |>.below hb2)
  have HI := Lib.hid ((IBox.new (w.alloc (.cells #[.slice (some ⟨b, o, none⟩) xs.length c, .int .i64 regs] 29)) x 55).below hb2)
  have HW := Lib.hid (Below.trans (by go_grown : Below w.heap.size w _) (hb2.mono (by simp; omega)))
  simp only [World.size_alloc] at HI
  clear hb2 x0 x1 x2 x3 x4 x5 x6 z1
  obtain ⟨p0, p1⟩ := HP.out
  obtain ⟨x0, x1, x2, x3, x4, x5, x6⟩ := HI.out
  go_wp2_with (first | (go_at_call 56; refine (named56 _ _).mono ?_; rintro e w' ⟨rfl, rfl⟩) | (go_at_call 55; refine (reg55 _ regs w.heap.size _ p1).mono ?_; rintro e w' ⟨rfl, rfl⟩))
  all_goals go_ret
  all_goals have hz := HZ.out
  all_goals exact ⟨ret_bool (by simp_all [soundO, jumpB, zeroB]; try omega), HW.out⟩

set_option maxHeartbeats 1000000 in
theorem sound34_false (A : Option Addr) (xs : List I) (c : Nat) (regs : Int) (k : Nat) (w : World) (hx : HasI w A xs) (hk : k < xs.length) (hl : xs.length ≤ maxLen) (hs : (ei xs k).v.s.size ≤ maxLen) (hf : fmd (ei xs k).v = true) (hz : zeroB (ei xs k).v = true) (hop : (ei xs k).op.toList = [102, 97, 108, 115, 101]) :
    Calls Try.prog 34 #[.agg #[.slice A xs.length c, .int .i64 regs], .int .i64 k] w fun e w' => e = .returned (.bool (soundO regs xs.length k (ei xs k))) ∧ Below w.heap.size w w' := by
  unfold maxLen at hl
  have hmf : ∀ (fn : Fn) (first cap : Array Value) (w : World), (Instr.makeFunc fn first cap).run Try.prog w = .ok (.func fn first cap) w := fun _ _ _ _ => rfl
  obtain ⟨b, o, rfl, hc⟩ := hx (by intro h; subst h; simp at hk)
  obtain ⟨x0, x1, x2, x3, x4, x5, x6⟩ := hc k hk
  have z1 := lt_of_cell x0
  clear hc hx
  generalize ei xs k = x at *
  have HZ := Lib.hid hz
  clear hz
  go_enter Try.func34, Try.ntmps34
  go_wp2_with fail
  refine (formed19 x.v _ hs).mono ?_
  rintro e w2 ⟨rfl, hb2⟩
  have HP := Lib.hid ((PBox.new w (.slice (some ⟨b, o, none⟩) xs.length c) regs 29).below (by go_grown : Below _ _ (((w.alloc (.cells #[.slice (some ⟨b, o, none⟩) xs.length c, .int .i64 regs] 29)).alloc (.cells #[.string x.op, .int .i64 x.a, .int .i64 x.b, .int .i64 x.c, .int .i64 x.v.k, .int .i64 x.v.n, .string x.v.s] 55)))) |>.below hb2)
  have HI := Lib.hid ((IBox.new (w.alloc (.cells #[.slice (some ⟨b, o, none⟩) xs.length c, .int .i64 regs] 29)) x 55).below hb2)
  have HW := Lib.hid (Below.trans (by go_grown : Below w.heap.size w _) (hb2.mono (by simp; omega)))
  simp only [World.size_alloc] at HI
  clear hb2 x0 x1 x2 x3 x4 x5 x6 z1
  obtain ⟨p0, p1⟩ := HP.out
  obtain ⟨x0, x1, x2, x3, x4, x5, x6⟩ := HI.out
  obtain ⟨v1, v2, v3⟩ := zero_of HZ.out
  go_wp2_with (first | (go_at_call 56; refine (named56 _ _).mono ?_; rintro e w' ⟨rfl, rfl⟩) | (go_at_call 55; refine (reg55 _ regs w.heap.size _ p1).mono ?_; rintro e w' ⟨rfl, rfl⟩))
  all_goals go_ret
  all_goals exact ⟨ret_bool (by simp_all [soundO, jumpB, zeroB]; try omega), HW.out⟩

set_option maxHeartbeats 1000000 in
theorem sound34_true (A : Option Addr) (xs : List I) (c : Nat) (regs : Int) (k : Nat) (w : World) (hx : HasI w A xs) (hk : k < xs.length) (hl : xs.length ≤ maxLen) (hs : (ei xs k).v.s.size ≤ maxLen) (hf : fmd (ei xs k).v = true) (hz : zeroB (ei xs k).v = true) (hop : (ei xs k).op.toList = [116, 114, 117, 101]) :
    Calls Try.prog 34 #[.agg #[.slice A xs.length c, .int .i64 regs], .int .i64 k] w fun e w' => e = .returned (.bool (soundO regs xs.length k (ei xs k))) ∧ Below w.heap.size w w' := by
  unfold maxLen at hl
  have hmf : ∀ (fn : Fn) (first cap : Array Value) (w : World), (Instr.makeFunc fn first cap).run Try.prog w = .ok (.func fn first cap) w := fun _ _ _ _ => rfl
  obtain ⟨b, o, rfl, hc⟩ := hx (by intro h; subst h; simp at hk)
  obtain ⟨x0, x1, x2, x3, x4, x5, x6⟩ := hc k hk
  have z1 := lt_of_cell x0
  clear hc hx
  generalize ei xs k = x at *
  have HZ := Lib.hid hz
  clear hz
  go_enter Try.func34, Try.ntmps34
  go_wp2_with fail
  refine (formed19 x.v _ hs).mono ?_
  rintro e w2 ⟨rfl, hb2⟩
  have HP := Lib.hid ((PBox.new w (.slice (some ⟨b, o, none⟩) xs.length c) regs 29).below (by go_grown : Below _ _ (((w.alloc (.cells #[.slice (some ⟨b, o, none⟩) xs.length c, .int .i64 regs] 29)).alloc (.cells #[.string x.op, .int .i64 x.a, .int .i64 x.b, .int .i64 x.c, .int .i64 x.v.k, .int .i64 x.v.n, .string x.v.s] 55)))) |>.below hb2)
  have HI := Lib.hid ((IBox.new (w.alloc (.cells #[.slice (some ⟨b, o, none⟩) xs.length c, .int .i64 regs] 29)) x 55).below hb2)
  have HW := Lib.hid (Below.trans (by go_grown : Below w.heap.size w _) (hb2.mono (by simp; omega)))
  simp only [World.size_alloc] at HI
  clear hb2 x0 x1 x2 x3 x4 x5 x6 z1
  obtain ⟨p0, p1⟩ := HP.out
  obtain ⟨x0, x1, x2, x3, x4, x5, x6⟩ := HI.out
  obtain ⟨v1, v2, v3⟩ := zero_of HZ.out
  go_wp2_with (first | (go_at_call 56; refine (named56 _ _).mono ?_; rintro e w' ⟨rfl, rfl⟩) | (go_at_call 55; refine (reg55 _ regs w.heap.size _ p1).mono ?_; rintro e w' ⟨rfl, rfl⟩))
  all_goals go_ret
  all_goals exact ⟨ret_bool (by simp_all [soundO, jumpB, zeroB]; try omega), HW.out⟩

set_option maxHeartbeats 1000000 in
theorem sound34_col (A : Option Addr) (xs : List I) (c : Nat) (regs : Int) (k : Nat) (w : World) (hx : HasI w A xs) (hk : k < xs.length) (hl : xs.length ≤ maxLen) (hs : (ei xs k).v.s.size ≤ maxLen) (hf : fmd (ei xs k).v = true) (hz : zeroB (ei xs k).v = true) (hop : (ei xs k).op.toList = [99, 111, 108]) :
    Calls Try.prog 34 #[.agg #[.slice A xs.length c, .int .i64 regs], .int .i64 k] w fun e w' => e = .returned (.bool (soundO regs xs.length k (ei xs k))) ∧ Below w.heap.size w w' := by
  unfold maxLen at hl
  have hmf : ∀ (fn : Fn) (first cap : Array Value) (w : World), (Instr.makeFunc fn first cap).run Try.prog w = .ok (.func fn first cap) w := fun _ _ _ _ => rfl
  obtain ⟨b, o, rfl, hc⟩ := hx (by intro h; subst h; simp at hk)
  obtain ⟨x0, x1, x2, x3, x4, x5, x6⟩ := hc k hk
  have z1 := lt_of_cell x0
  clear hc hx
  generalize ei xs k = x at *
  have HZ := Lib.hid hz
  clear hz
  have hsh := shape_of_col hop
  obtain ⟨n1, n2⟩ := named_of hsh (by decide)
  have HS := Lib.hid hsh
  clear hsh
  go_enter Try.func34, Try.ntmps34
  go_wp2_with fail
  refine (formed19 x.v _ hs).mono ?_
  rintro e w2 ⟨rfl, hb2⟩
  have HP := Lib.hid ((PBox.new w (.slice (some ⟨b, o, none⟩) xs.length c) regs 29).below (by go_grown : Below _ _ (((w.alloc (.cells #[.slice (some ⟨b, o, none⟩) xs.length c, .int .i64 regs] 29)).alloc (.cells #[.string x.op, .int .i64 x.a, .int .i64 x.b, .int .i64 x.c, .int .i64 x.v.k, .int .i64 x.v.n, .string x.v.s] 55)))) |>.below hb2)
  have HI := Lib.hid ((IBox.new (w.alloc (.cells #[.slice (some ⟨b, o, none⟩) xs.length c, .int .i64 regs] 29)) x 55).below hb2)
  have HW := Lib.hid (Below.trans (by go_grown : Below w.heap.size w _) (hb2.mono (by simp; omega)))
  simp only [World.size_alloc] at HI
  clear hb2 x0 x1 x2 x3 x4 x5 x6 z1
  obtain ⟨p0, p1⟩ := HP.out
  obtain ⟨x0, x1, x2, x3, x4, x5, x6⟩ := HI.out
  obtain ⟨v1, v2, v3⟩ := zero_of HZ.out
  go_wp2_with (first | (go_at_call 56; refine (named56 _ _).mono ?_; rintro e w' ⟨rfl, rfl⟩) | (go_at_call 55; refine (reg55 _ regs w.heap.size _ p1).mono ?_; rintro e w' ⟨rfl, rfl⟩))
  all_goals go_ret
  all_goals have hsh := HS.out
  all_goals exact ⟨ret_bool (by simp_all [soundO, jumpB, zeroB]; try omega), HW.out⟩

set_option maxHeartbeats 1000000 in
theorem sound34_one (A : Option Addr) (xs : List I) (c : Nat) (regs : Int) (k : Nat) (w : World) (hx : HasI w A xs) (hk : k < xs.length) (hl : xs.length ≤ maxLen) (hs : (ei xs k).v.s.size ≤ maxLen) (hf : fmd (ei xs k).v = true) (hz : zeroB (ei xs k).v = true) (hop : ((ei xs k).op.toList == [99, 111, 110, 115, 116]) = false) (hj1 : ((ei xs k).op.toList == [102, 97, 108, 115, 101]) = false) (hj2 : ((ei xs k).op.toList == [116, 114, 117, 101]) = false) (hcol : ((ei xs k).op.toList == [99, 111, 108]) = false) (hsh : shapeO (ei xs k).op = 1) :
    Calls Try.prog 34 #[.agg #[.slice A xs.length c, .int .i64 regs], .int .i64 k] w fun e w' => e = .returned (.bool (soundO regs xs.length k (ei xs k))) ∧ Below w.heap.size w w' := by
  unfold maxLen at hl
  have hmf : ∀ (fn : Fn) (first cap : Array Value) (w : World), (Instr.makeFunc fn first cap).run Try.prog w = .ok (.func fn first cap) w := fun _ _ _ _ => rfl
  obtain ⟨b, o, rfl, hc⟩ := hx (by intro h; subst h; simp at hk)
  obtain ⟨x0, x1, x2, x3, x4, x5, x6⟩ := hc k hk
  have z1 := lt_of_cell x0
  clear hc hx
  generalize ei xs k = x at *
  have HZ := Lib.hid hz
  clear hz
  obtain ⟨n1, n2⟩ := named_of hsh (by decide)
  have HS := Lib.hid hsh
  clear hsh
  go_enter Try.func34, Try.ntmps34
  go_wp2_with fail
  refine (formed19 x.v _ hs).mono ?_
  rintro e w2 ⟨rfl, hb2⟩
  have HP := Lib.hid ((PBox.new w (.slice (some ⟨b, o, none⟩) xs.length c) regs 29).below (by go_grown : Below _ _ (((w.alloc (.cells #[.slice (some ⟨b, o, none⟩) xs.length c, .int .i64 regs] 29)).alloc (.cells #[.string x.op, .int .i64 x.a, .int .i64 x.b, .int .i64 x.c, .int .i64 x.v.k, .int .i64 x.v.n, .string x.v.s] 55)))) |>.below hb2)
  have HI := Lib.hid ((IBox.new (w.alloc (.cells #[.slice (some ⟨b, o, none⟩) xs.length c, .int .i64 regs] 29)) x 55).below hb2)
  have HW := Lib.hid (Below.trans (by go_grown : Below w.heap.size w _) (hb2.mono (by simp; omega)))
  simp only [World.size_alloc] at HI
  clear hb2 x0 x1 x2 x3 x4 x5 x6 z1
  obtain ⟨p0, p1⟩ := HP.out
  obtain ⟨x0, x1, x2, x3, x4, x5, x6⟩ := HI.out
  obtain ⟨v1, v2, v3⟩ := zero_of HZ.out
  go_wp2_with (first | (go_at_call 56; refine (named56 _ _).mono ?_; rintro e w' ⟨rfl, rfl⟩) | (go_at_call 55; refine (reg55 _ regs w.heap.size _ p1).mono ?_; rintro e w' ⟨rfl, rfl⟩))
  all_goals go_ret
  all_goals have hsh := HS.out
  all_goals exact ⟨ret_bool (by simp_all [soundO, jumpB, zeroB]; try omega), HW.out⟩

set_option maxHeartbeats 1000000 in
theorem sound34_two (A : Option Addr) (xs : List I) (c : Nat) (regs : Int) (k : Nat) (w : World) (hx : HasI w A xs) (hk : k < xs.length) (hl : xs.length ≤ maxLen) (hs : (ei xs k).v.s.size ≤ maxLen) (hf : fmd (ei xs k).v = true) (hz : zeroB (ei xs k).v = true) (hop : ((ei xs k).op.toList == [99, 111, 110, 115, 116]) = false) (hj1 : ((ei xs k).op.toList == [102, 97, 108, 115, 101]) = false) (hj2 : ((ei xs k).op.toList == [116, 114, 117, 101]) = false) (hcol : ((ei xs k).op.toList == [99, 111, 108]) = false) (hsh : shapeO (ei xs k).op = 2) :
    Calls Try.prog 34 #[.agg #[.slice A xs.length c, .int .i64 regs], .int .i64 k] w fun e w' => e = .returned (.bool (soundO regs xs.length k (ei xs k))) ∧ Below w.heap.size w w' := by
  unfold maxLen at hl
  have hmf : ∀ (fn : Fn) (first cap : Array Value) (w : World), (Instr.makeFunc fn first cap).run Try.prog w = .ok (.func fn first cap) w := fun _ _ _ _ => rfl
  obtain ⟨b, o, rfl, hc⟩ := hx (by intro h; subst h; simp at hk)
  obtain ⟨x0, x1, x2, x3, x4, x5, x6⟩ := hc k hk
  have z1 := lt_of_cell x0
  clear hc hx
  generalize ei xs k = x at *
  have HZ := Lib.hid hz
  clear hz
  obtain ⟨n1, n2⟩ := named_of hsh (by decide)
  have HS := Lib.hid hsh
  clear hsh
  go_enter Try.func34, Try.ntmps34
  go_wp2_with fail
  refine (formed19 x.v _ hs).mono ?_
  rintro e w2 ⟨rfl, hb2⟩
  have HP := Lib.hid ((PBox.new w (.slice (some ⟨b, o, none⟩) xs.length c) regs 29).below (by go_grown : Below _ _ (((w.alloc (.cells #[.slice (some ⟨b, o, none⟩) xs.length c, .int .i64 regs] 29)).alloc (.cells #[.string x.op, .int .i64 x.a, .int .i64 x.b, .int .i64 x.c, .int .i64 x.v.k, .int .i64 x.v.n, .string x.v.s] 55)))) |>.below hb2)
  have HI := Lib.hid ((IBox.new (w.alloc (.cells #[.slice (some ⟨b, o, none⟩) xs.length c, .int .i64 regs] 29)) x 55).below hb2)
  have HW := Lib.hid (Below.trans (by go_grown : Below w.heap.size w _) (hb2.mono (by simp; omega)))
  simp only [World.size_alloc] at HI
  clear hb2 x0 x1 x2 x3 x4 x5 x6 z1
  obtain ⟨p0, p1⟩ := HP.out
  obtain ⟨x0, x1, x2, x3, x4, x5, x6⟩ := HI.out
  obtain ⟨v1, v2, v3⟩ := zero_of HZ.out
  go_wp2_with (first | (go_at_call 56; refine (named56 _ _).mono ?_; rintro e w' ⟨rfl, rfl⟩) | (go_at_call 55; refine (reg55 _ regs w.heap.size _ p1).mono ?_; rintro e w' ⟨rfl, rfl⟩))
  all_goals go_ret
  all_goals have hsh := HS.out
  all_goals exact ⟨ret_bool (by simp_all [soundO, jumpB, zeroB]; try omega), HW.out⟩

set_option maxHeartbeats 1000000 in
theorem sound34_none (A : Option Addr) (xs : List I) (c : Nat) (regs : Int) (k : Nat) (w : World) (hx : HasI w A xs) (hk : k < xs.length) (hl : xs.length ≤ maxLen) (hs : (ei xs k).v.s.size ≤ maxLen) (hf : fmd (ei xs k).v = true) (hz : zeroB (ei xs k).v = true) (hop : ((ei xs k).op.toList == [99, 111, 110, 115, 116]) = false) (hj1 : ((ei xs k).op.toList == [102, 97, 108, 115, 101]) = false) (hj2 : ((ei xs k).op.toList == [116, 114, 117, 101]) = false) (hsh : shapeO (ei xs k).op = -1) :
    Calls Try.prog 34 #[.agg #[.slice A xs.length c, .int .i64 regs], .int .i64 k] w fun e w' => e = .returned (.bool (soundO regs xs.length k (ei xs k))) ∧ Below w.heap.size w w' := by
  unfold maxLen at hl
  have hmf : ∀ (fn : Fn) (first cap : Array Value) (w : World), (Instr.makeFunc fn first cap).run Try.prog w = .ok (.func fn first cap) w := fun _ _ _ _ => rfl
  obtain ⟨b, o, rfl, hc⟩ := hx (by intro h; subst h; simp at hk)
  obtain ⟨x0, x1, x2, x3, x4, x5, x6⟩ := hc k hk
  have z1 := lt_of_cell x0
  clear hc hx
  generalize ei xs k = x at *
  have HZ := Lib.hid hz
  clear hz
  have n2 := named_none hsh
  have HS := Lib.hid hsh
  clear hsh
  go_enter Try.func34, Try.ntmps34
  go_wp2_with fail
  refine (formed19 x.v _ hs).mono ?_
  rintro e w2 ⟨rfl, hb2⟩
  have HP := Lib.hid ((PBox.new w (.slice (some ⟨b, o, none⟩) xs.length c) regs 29).below (by go_grown : Below _ _ (((w.alloc (.cells #[.slice (some ⟨b, o, none⟩) xs.length c, .int .i64 regs] 29)).alloc (.cells #[.string x.op, .int .i64 x.a, .int .i64 x.b, .int .i64 x.c, .int .i64 x.v.k, .int .i64 x.v.n, .string x.v.s] 55)))) |>.below hb2)
  have HI := Lib.hid ((IBox.new (w.alloc (.cells #[.slice (some ⟨b, o, none⟩) xs.length c, .int .i64 regs] 29)) x 55).below hb2)
  have HW := Lib.hid (Below.trans (by go_grown : Below w.heap.size w _) (hb2.mono (by simp; omega)))
  simp only [World.size_alloc] at HI
  clear hb2 x0 x1 x2 x3 x4 x5 x6 z1
  obtain ⟨p0, p1⟩ := HP.out
  obtain ⟨x0, x1, x2, x3, x4, x5, x6⟩ := HI.out
  obtain ⟨v1, v2, v3⟩ := zero_of HZ.out
  go_wp2_with (first | (go_at_call 56; refine (named56 _ _).mono ?_; rintro e w' ⟨rfl, rfl⟩) | (go_at_call 55; refine (reg55 _ regs w.heap.size _ p1).mono ?_; rintro e w' ⟨rfl, rfl⟩))
  all_goals go_ret
  all_goals have hsh := HS.out
  all_goals exact ⟨ret_bool (by simp_all [soundO, jumpB, zeroB]; try omega), HW.out⟩

theorem sound34 (A : Option Addr) (xs : List I) (c : Nat) (regs : Int) (k : Nat) (w : World) (hx : HasI w A xs) (hk : k < xs.length) (hl : xs.length ≤ maxLen) (hs : (ei xs k).v.s.size ≤ maxLen) :
    Calls Try.prog 34 #[.agg #[.slice A xs.length c, .int .i64 regs], .int .i64 k] w fun e w' => e = .returned (.bool (soundO regs xs.length k (ei xs k))) ∧ Below w.heap.size w w' := by
  cases hf : fmd (ei xs k).v with
  | false => exact sound34_bad A xs c regs k w hx hk hl hs hf
  | true =>
    by_cases h1 : (ei xs k).op.toList = [99, 111, 110, 115, 116]
    · exact sound34_const A xs c regs k w hx hk hl hs hf h1
    have n1 := beq_eq_false_iff_ne.2 h1
    cases hz : zeroB (ei xs k).v with
    | false => exact sound34_nz A xs c regs k w hx hk hl hs hf n1 hz
    | true =>
      by_cases h2 : (ei xs k).op.toList = [102, 97, 108, 115, 101]
      · exact sound34_false A xs c regs k w hx hk hl hs hf hz h2
      by_cases h3 : (ei xs k).op.toList = [116, 114, 117, 101]
      · exact sound34_true A xs c regs k w hx hk hl hs hf hz h3
      by_cases h4 : (ei xs k).op.toList = [99, 111, 108]
      · exact sound34_col A xs c regs k w hx hk hl hs hf hz h4
      rcases shape_of_other h1 h4 with h5 | h5 | h5
      · exact sound34_one A xs c regs k w hx hk hl hs hf hz n1 (beq_eq_false_iff_ne.2 h2) (beq_eq_false_iff_ne.2 h3) (beq_eq_false_iff_ne.2 h4) h5
      · exact sound34_two A xs c regs k w hx hk hl hs hf hz n1 (beq_eq_false_iff_ne.2 h2) (beq_eq_false_iff_ne.2 h3) (beq_eq_false_iff_ne.2 h4) h5
      · exact sound34_none A xs c regs k w hx hk hl hs hf hz n1 (beq_eq_false_iff_ne.2 h2) (beq_eq_false_iff_ne.2 h3) h5
end Go.Proofs.Ytbibchinimhamaa
