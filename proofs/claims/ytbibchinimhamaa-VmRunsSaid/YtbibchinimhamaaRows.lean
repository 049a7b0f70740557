/-
  No cell of these rows narrows 'for every input' (looked for: loops, veiled, ifaces, maps, wideKeys, modest, calm, conditions, laid).
  DERIVED. THE GIVEN ROWS OF THIS SEAT. 7 by the template 'for every input the law returns true; each argument reads behind the call as it read before'; 0 by the template 'total and deterministic' (their statements: YtbibchinimhamaaTotals.lean).
  GIVEN WITH THE SEED: the statements are not yours to turn. If you find one false, say at which input.
  Laid BY PROGRAM, IN A SANDBOX (cutbox-rows.mjs): the forced cells as the released guide's own fill.sh prints them over the translation 25766bab1ebaed02… (all of the seat's roots in one cut). By AI agents, Wed Nov 11 2026. No macro, syntax, notation, axiom, sorry.
-/
import Derived.Test.YtbibchinimhamaaChecked
import GoSem.Claim
import GoSem.ClaimJoined
import GoSem.ClaimMapViews
import Derived.JoinedTies
import Derived.KernelRfl
namespace Go.Proofs.Ytbibchinimhamaa
/- THE CELL 'sum', in the pinned program and in every row, IS THE sha256 OF THE DUMP (.gsa) THAT YtbibchinimhamaaProg.lean LOADS. Nothing in Lean hashes anything: it is a label: what it is worth is what the hold of that sum in a sandbox is worth. -/
noncomputable def Try.pinned : Pinned := { name := "ytbibchinimhamaa", sum := "25766bab1ebaed028aa8728749c52d2c34d26b22e7230ab1c8c641d2e2337e65", checked := Try.checked }
namespace Rows
def none {H : Type} : Left H := { results := [], args := [] }

/-- 'wainscotlaw17.CodeForms': WHATEVER THE INPUT: true; the input reads as it did. -/
def codeFormsSpec : ChangeSpec := { name := "codeForms", fn := fun _ => fun
  | [d] => { results := [.lit (.bool true)], args := [d] }
  | _ => none }
def codeFormsRow : OpenClaim := { program := "ytbibchinimhamaa", sum := "25766bab1ebaed028aa8728749c52d2c34d26b22e7230ab1c8c641d2e2337e65", func := "wainscot/wainscotlaw17.CodeForms", spec := "codeForms", unfollowed := true, recurses := true, apart := false }
def CodeFormsSaid : Prop := codeFormsRow.holds Try.pinned (OpenSpec.ofChange codeFormsSpec)

/-- ITS FALSE NEIGHBOUR: 'it returns false'. Refute it at one input. -/
def codeFormsWrong : ChangeSpec := { name := "codeForms", fn := fun _ => fun
  | [d] => { results := [.lit (.bool false)], args := [d] }
  | _ => none }
def CodeFormsWrongFalsely : Prop := codeFormsRow.holds Try.pinned (OpenSpec.ofChange codeFormsWrong)

/-- 'wainscotlaw01.ValueCompares': WHATEVER THE INPUT: true; the input reads as it did. -/
def valueComparesSpec : ChangeSpec := { name := "valueCompares", fn := fun _ => fun
  | [d1, d2, d3] => { results := [.lit (.bool true)], args := [d1, d2, d3] }
  | _ => none }
def valueComparesRow : OpenClaim := { program := "ytbibchinimhamaa", sum := "25766bab1ebaed028aa8728749c52d2c34d26b22e7230ab1c8c641d2e2337e65", func := "wainscot/wainscotlaw01.ValueCompares", spec := "valueCompares", apart := false }
def ValueComparesSaid : Prop := valueComparesRow.holds Try.pinned (OpenSpec.ofChange valueComparesSpec)

/-- ITS FALSE NEIGHBOUR: 'it returns false'. Refute it at one input. -/
def valueComparesWrong : ChangeSpec := { name := "valueCompares", fn := fun _ => fun
  | [d1, d2, d3] => { results := [.lit (.bool false)], args := [d1, d2, d3] }
  | _ => none }
def ValueComparesWrongFalsely : Prop := valueComparesRow.holds Try.pinned (OpenSpec.ofChange valueComparesWrong)

/-- 'wainscotlaw01.ValueOrders': WHATEVER THE INPUT: true; the input reads as it did. -/
def valueOrdersSpec : ChangeSpec := { name := "valueOrders", fn := fun _ => fun
  | [d1, d2, d3, d4] => { results := [.lit (.bool true)], args := [d1, d2, d3, d4] }
  | _ => none }
def valueOrdersRow : OpenClaim := { program := "ytbibchinimhamaa", sum := "25766bab1ebaed028aa8728749c52d2c34d26b22e7230ab1c8c641d2e2337e65", func := "wainscot/wainscotlaw01.ValueOrders", spec := "valueOrders", unfollowed := true, recurses := true, apart := false }
def ValueOrdersSaid : Prop := valueOrdersRow.holds Try.pinned (OpenSpec.ofChange valueOrdersSpec)

/-- ITS FALSE NEIGHBOUR: 'it returns false'. Refute it at one input. -/
def valueOrdersWrong : ChangeSpec := { name := "valueOrders", fn := fun _ => fun
  | [d1, d2, d3, d4] => { results := [.lit (.bool false)], args := [d1, d2, d3, d4] }
  | _ => none }
def ValueOrdersWrongFalsely : Prop := valueOrdersRow.holds Try.pinned (OpenSpec.ofChange valueOrdersWrong)

/-- 'wainscotlaw01.ValueLogic': WHATEVER THE INPUT: true; the input reads as it did. -/
def valueLogicSpec : ChangeSpec := { name := "valueLogic", fn := fun _ => fun
  | [d1, d2, d3] => { results := [.lit (.bool true)], args := [d1, d2, d3] }
  | _ => none }
def valueLogicRow : OpenClaim := { program := "ytbibchinimhamaa", sum := "25766bab1ebaed028aa8728749c52d2c34d26b22e7230ab1c8c641d2e2337e65", func := "wainscot/wainscotlaw01.ValueLogic", spec := "valueLogic", apart := false }
def ValueLogicSaid : Prop := valueLogicRow.holds Try.pinned (OpenSpec.ofChange valueLogicSpec)

/-- ITS FALSE NEIGHBOUR: 'it returns false'. Refute it at one input. -/
def valueLogicWrong : ChangeSpec := { name := "valueLogic", fn := fun _ => fun
  | [d1, d2, d3] => { results := [.lit (.bool false)], args := [d1, d2, d3] }
  | _ => none }
def ValueLogicWrongFalsely : Prop := valueLogicRow.holds Try.pinned (OpenSpec.ofChange valueLogicWrong)

/-- 'wainscotlaw01.ValueReckons': WHATEVER THE INPUT: true; the input reads as it did. -/
def valueReckonsSpec : ChangeSpec := { name := "valueReckons", fn := fun _ => fun
  | [d1, d2, d3] => { results := [.lit (.bool true)], args := [d1, d2, d3] }
  | _ => none }
def valueReckonsRow : OpenClaim := { program := "ytbibchinimhamaa", sum := "25766bab1ebaed028aa8728749c52d2c34d26b22e7230ab1c8c641d2e2337e65", func := "wainscot/wainscotlaw01.ValueReckons", spec := "valueReckons", apart := false }
def ValueReckonsSaid : Prop := valueReckonsRow.holds Try.pinned (OpenSpec.ofChange valueReckonsSpec)

/-- ITS FALSE NEIGHBOUR: 'it returns false'. Refute it at one input. -/
def valueReckonsWrong : ChangeSpec := { name := "valueReckons", fn := fun _ => fun
  | [d1, d2, d3] => { results := [.lit (.bool false)], args := [d1, d2, d3] }
  | _ => none }
def ValueReckonsWrongFalsely : Prop := valueReckonsRow.holds Try.pinned (OpenSpec.ofChange valueReckonsWrong)

/-- 'wainscotlaw01.ValueBack': WHATEVER THE INPUT: true; the input reads as it did. -/
def valueBackSpec : ChangeSpec := { name := "valueBack", fn := fun _ => fun
  | [d1, d2] => { results := [.lit (.bool true)], args := [d1, d2] }
  | _ => none }
def valueBackRow : OpenClaim := { program := "ytbibchinimhamaa", sum := "25766bab1ebaed028aa8728749c52d2c34d26b22e7230ab1c8c641d2e2337e65", func := "wainscot/wainscotlaw01.ValueBack", spec := "valueBack", apart := false }
def ValueBackSaid : Prop := valueBackRow.holds Try.pinned (OpenSpec.ofChange valueBackSpec)

/-- ITS FALSE NEIGHBOUR: 'it returns false'. Refute it at one input. -/
def valueBackWrong : ChangeSpec := { name := "valueBack", fn := fun _ => fun
  | [d1, d2] => { results := [.lit (.bool false)], args := [d1, d2] }
  | _ => none }
def ValueBackWrongFalsely : Prop := valueBackRow.holds Try.pinned (OpenSpec.ofChange valueBackWrong)

/-- 'wainscotlaw18.VmRuns': WHATEVER THE INPUT: true; the input reads as it did. -/
def vmRunsSpec : ChangeSpec := { name := "vmRuns", fn := fun _ => fun
  | [d1, d2] => { results := [.lit (.bool true)], args := [d1, d2] }
  | _ => none }
def vmRunsRow : OpenClaim := { program := "ytbibchinimhamaa", sum := "25766bab1ebaed028aa8728749c52d2c34d26b22e7230ab1c8c641d2e2337e65", func := "wainscot/wainscotlaw18.VmRuns", spec := "vmRuns", unfollowed := true, recurses := true, apart := false }
def VmRunsSaid : Prop := vmRunsRow.holds Try.pinned (OpenSpec.ofChange vmRunsSpec)

/-- ITS FALSE NEIGHBOUR: 'it returns false'. Refute it at one input. -/
def vmRunsWrong : ChangeSpec := { name := "vmRuns", fn := fun _ => fun
  | [d1, d2] => { results := [.lit (.bool false)], args := [d1, d2] }
  | _ => none }
def VmRunsWrongFalsely : Prop := vmRunsRow.holds Try.pinned (OpenSpec.ofChange vmRunsWrong)

/- THE SECOND FORM. 'bulk': how many values and letters a reading holds, each counted each time it is reached (what is shared counts as often as it is met; a slice's spare places count too). A statement '..UptoSaid' is the law's where the arguments, and the package variables that the reading takes, are together of bulk at most 1048576: NARROWER than '..Said'. Prove '..Said' where nothing that the law and all that it calls make is longer than what came in: it says more and counts as full. Else prove '..UptoSaid'. A law counts once. -/
mutual
def uptoBulk {H : Type} : DataW H → Nat
  | .lit (.string bytes) => bytes.length + 1
  | .lit _ => 1
  | .nil => 1
  | .ptr d => uptoBulk d + 1
  | .slice elems spare => uptoBulkAll elems + uptoBulkAll spare + 1
  | .agg parts => uptoBulkAll parts + 1
  | .iface _ d => uptoBulk d + 1
  | .map entries => uptoBulkEntries entries + 1
  | .held _ => 1
def uptoBulkAll {H : Type} : List (DataW H) → Nat
  | [] => 0
  | d :: r => uptoBulk d + uptoBulkAll r
def uptoBulkEntries {H : Type} : List (Lit × DataW H) → Nat
  | [] => 0
  | x :: r => uptoBulkEntry x + uptoBulkEntries r
def uptoBulkEntry {H : Type} : Lit × DataW H → Nat
  | (.string bytes, d) => bytes.length + uptoBulk d + 1
  | (_, d) => uptoBulk d + 1
 end
def uptoSmall : (H : Type) → List (DataW H) → Bool := fun _ ds => decide (uptoBulkAll ds ≤ 1048576)
def OpenSpec.upto (s : _root_.Go.ChangeSpec) : _root_.Go.OpenSpec := { _root_.Go.OpenSpec.ofChange s with cond := some uptoSmall }

/-- 'wainscotlaw17.CodeForms', WHERE WHAT IT READS IS OF BULK AT MOST 1048576: true; the input reads as it did. -/
def codeFormsUptoRow : OpenClaim := { program := "ytbibchinimhamaa", sum := "25766bab1ebaed028aa8728749c52d2c34d26b22e7230ab1c8c641d2e2337e65", func := "wainscot/wainscotlaw17.CodeForms", spec := "codeForms", unfollowed := true, recurses := true, apart := false, narrowed := true }
def CodeFormsUptoSaid : Prop := codeFormsUptoRow.holds Try.pinned (OpenSpec.upto codeFormsSpec)

/-- 'wainscotlaw01.ValueCompares', WHERE WHAT IT READS IS OF BULK AT MOST 1048576: true; the input reads as it did. -/
def valueComparesUptoRow : OpenClaim := { program := "ytbibchinimhamaa", sum := "25766bab1ebaed028aa8728749c52d2c34d26b22e7230ab1c8c641d2e2337e65", func := "wainscot/wainscotlaw01.ValueCompares", spec := "valueCompares", apart := false, narrowed := true }
def ValueComparesUptoSaid : Prop := valueComparesUptoRow.holds Try.pinned (OpenSpec.upto valueComparesSpec)

/-- 'wainscotlaw01.ValueOrders', WHERE WHAT IT READS IS OF BULK AT MOST 1048576: true; the input reads as it did. -/
def valueOrdersUptoRow : OpenClaim := { program := "ytbibchinimhamaa", sum := "25766bab1ebaed028aa8728749c52d2c34d26b22e7230ab1c8c641d2e2337e65", func := "wainscot/wainscotlaw01.ValueOrders", spec := "valueOrders", unfollowed := true, recurses := true, apart := false, narrowed := true }
def ValueOrdersUptoSaid : Prop := valueOrdersUptoRow.holds Try.pinned (OpenSpec.upto valueOrdersSpec)

/-- 'wainscotlaw01.ValueLogic', WHERE WHAT IT READS IS OF BULK AT MOST 1048576: true; the input reads as it did. -/
def valueLogicUptoRow : OpenClaim := { program := "ytbibchinimhamaa", sum := "25766bab1ebaed028aa8728749c52d2c34d26b22e7230ab1c8c641d2e2337e65", func := "wainscot/wainscotlaw01.ValueLogic", spec := "valueLogic", apart := false, narrowed := true }
def ValueLogicUptoSaid : Prop := valueLogicUptoRow.holds Try.pinned (OpenSpec.upto valueLogicSpec)

/-- 'wainscotlaw01.ValueReckons', WHERE WHAT IT READS IS OF BULK AT MOST 1048576: true; the input reads as it did. -/
def valueReckonsUptoRow : OpenClaim := { program := "ytbibchinimhamaa", sum := "25766bab1ebaed028aa8728749c52d2c34d26b22e7230ab1c8c641d2e2337e65", func := "wainscot/wainscotlaw01.ValueReckons", spec := "valueReckons", apart := false, narrowed := true }
def ValueReckonsUptoSaid : Prop := valueReckonsUptoRow.holds Try.pinned (OpenSpec.upto valueReckonsSpec)

/-- 'wainscotlaw01.ValueBack', WHERE WHAT IT READS IS OF BULK AT MOST 1048576: true; the input reads as it did. -/
def valueBackUptoRow : OpenClaim := { program := "ytbibchinimhamaa", sum := "25766bab1ebaed028aa8728749c52d2c34d26b22e7230ab1c8c641d2e2337e65", func := "wainscot/wainscotlaw01.ValueBack", spec := "valueBack", apart := false, narrowed := true }
def ValueBackUptoSaid : Prop := valueBackUptoRow.holds Try.pinned (OpenSpec.upto valueBackSpec)

/-- 'wainscotlaw18.VmRuns', WHERE WHAT IT READS IS OF BULK AT MOST 1048576: true; the input reads as it did. -/
def vmRunsUptoRow : OpenClaim := { program := "ytbibchinimhamaa", sum := "25766bab1ebaed028aa8728749c52d2c34d26b22e7230ab1c8c641d2e2337e65", func := "wainscot/wainscotlaw18.VmRuns", spec := "vmRuns", unfollowed := true, recurses := true, apart := false, narrowed := true }
def VmRunsUptoSaid : Prop := vmRunsUptoRow.holds Try.pinned (OpenSpec.upto vmRunsSpec)

end Rows
end Go.Proofs.Ytbibchinimhamaa
