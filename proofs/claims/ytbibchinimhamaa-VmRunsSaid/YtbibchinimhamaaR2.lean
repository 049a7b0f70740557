/- The reference's Run: the loop's exit. -/
import Derived.Test.YtbibchinimhamaaR1
namespace Go.Proofs.Ytbibchinimhamaa
set_option linter.unusedVariables false
set_option linter.unusedSimpArgs false
open Go.RowKit

set_option maxRecDepth 1000000 in
set_option maxHeartbeats 2000000 in
theorem end33 {w : World} {A : Option Addr} {len cR gv gt n c : Nat} {a : Act} {X : Option Addr} {xs : List I} {fv : Nat → V} {ft : Nat → Int} {wr : World} {J : Act → World → Prop} {Q : Exit → Act → World → Prop}
    (hF : F33 w A len cR gv gt n xs.length a) (hM : M33 w X xs c n gv gt fv ft wr) (hQ : ∀ a' w', F33 w A len cR gv gt n xs.length a' → M33 w X xs c n gv gt fv ft w' → Q (.exit 2) a' w') :
    body33.wp Try.prog (Exit.then J Q) a wr := by
  have HM := Lib.hid hM
  clear hM
  obtain ⟨p0, p1⟩ := HM.out.hp
  obtain ⟨u, rfl⟩ := hF.lit
  clear hF
  have HQ := Lib.hid hQ
  clear hQ
  conv => arg 2; whnf
  go_wp2
  exact HQ.out _ _ ⟨rfl, rfl, rfl, rfl, rfl, rfl, rfl, rfl⟩ HM.out
end Go.Proofs.Ytbibchinimhamaa
