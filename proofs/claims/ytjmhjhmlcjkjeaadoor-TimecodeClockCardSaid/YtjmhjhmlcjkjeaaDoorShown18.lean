/- A part of a proof: see the text's own remark. No conditions beyond its theorems' own. -/
import Derived.Test.YtjmhjhmlcjkjeaaDoorNumber18
import Derived.Test.YtjmhjhmlcjkjeaaDoorQTTimecodeNumbersx1
/-! the law's shown, walked -/
namespace Go.Proofs.YtjmhjhmlcjkjeaaDoor.Tab
open Go.RowKit Go.Proofs.YtjmhjhmlcjkjeaaDoorW.PrintWords Go.Proofs.YtjmhjhmlcjkjeaaDoorW.PrintLast Go.Proofs.YtjmhjhmlcjkjeaaDoorW.PrintMore
set_option linter.unusedVariables false
set_option linter.unusedSimpArgs false
theorem name_shown : QTTimecodeNumbers.timecode_Name.f 4 1800 = some (⟨#[48, 48, 58, 48, 49, 58, 48, 48, 59, 48, 50]⟩, 0) := by decide +kernel
theorem num_shown : numF 7 ⟨#[48, 48, 58, 48, 49, 58, 48, 48, 59, 48, 52]⟩ = (3600, 0, 0) := by decide +kernel
set_option maxHeartbeats 1600000 in
set_option maxRecDepth 100000 in
theorem shown_calls (w : World) (hG : TabAt w) : Calls Tryd.prog 9 #[] w fun e w' => e = .returned (.bool true) ∧ Below w.heap.size w w' := by
  go_enter Tryd.func9, Tryd.ntmps9
  go_wp2_with (fail)
  refine (QTTimecodeNumbers.timecode_Name.calls 4 1800 _ _ _ hG name_shown).mono ?_
  rintro e w1 ⟨rfl, hb1⟩
  have HB1 := Aside0.mk hb1
  clear hb1
  go_wp2_with (fail)
  refine (number_calls 7 _ (by decide) 3600 0 0 num_shown _ (hG.below HB1.out)).mono ?_
  rintro e w2 ⟨hb2, ⟨_, rfl⟩ | ⟨h0, _⟩⟩
  · have HB2 := Aside0.mk (below_step HB1.out hb2)
    clear hb2
    go_wp2
    go_ret
    exact ⟨rfl, HB2.out⟩
  · exact absurd rfl h0
end Go.Proofs.YtjmhjhmlcjkjeaaDoor.Tab
