/- bytes.ReplaceAll of the byte 0 by 0, 255, walked. -/
import Derived.Test.YtbibchinimhamaaDoorB4
namespace Go.Proofs.YtbibchinimhamaaDoor
open Go.RowKit Go.Proofs.YtbibchinimhamaaDoorW.PrintWords

set_option maxHeartbeats 2000000 in
set_option maxRecDepth 1000000 in
theorem replaceAll18 (b n c b2 b3 d2 d3 : Nat) (l : List UInt8) (w : World) (hl : l.length = n) (hn : n ≤ 1000) (hnc : n ≤ c) (hc : HasL w b 0 l) (hc2 : w.cell? ⟨b2, 0, none⟩ = some (.int .u8 0))
    (h30 : HasL w b3 0 [0, 255]) :
    Calls Tryd.prog 18 #[.slice (some ⟨b, 0, none⟩) n c, .slice (some ⟨b2, 0, none⟩) 1 d2, .slice (some ⟨b3, 0, none⟩) 2 d3] w fun e w' => ∃ v, e = .returned v ∧ w'.ownsRow w.heap.size 5 1 v (rep l).length (nv (rep l)) ∧ Below w.heap.size w w' := by
  have hcon : Calls Tryd.prog 25 #[.slice (some ⟨b, 0, none⟩) n c, .slice (some ⟨b2, 0, none⟩) 1 d2, .slice (some ⟨b3, 0, none⟩) 2 d3, .int .i64 (-1)] w fun e w' => ∃ v, e = .returned v ∧ w'.ownsRow w.heap.size 5 1 v (rep l).length (nv (rep l)) ∧ Below w.heap.size w w' := by
    by_cases h0 : l.count 0 = 0
    · exact replace25_none b n c b2 b3 d2 d3 l w hl hn hc hc2 h0
    · exact replace25_some b n c b2 b3 d2 d3 l w hl hn hnc hc hc2 h30 (l.count 0) rfl (by omega)
  have HX := Aside0.mk (And.intro hc h30)
  clear hc h30
  go_enter Tryd.func18, Tryd.ntmps18
  go_wp2_with (go_at_call 25; refine hcon.mono ?_; rintro e w' ⟨v_, rfl, ho_, hb_⟩; have HO_ := Aside0.mk ho_; have HB_ := Aside0.mk hb_; clear ho_ hb_)
  go_ret
  exact ⟨_, rfl, HO_.out, HB_.out⟩
end Go.Proofs.YtbibchinimhamaaDoor
