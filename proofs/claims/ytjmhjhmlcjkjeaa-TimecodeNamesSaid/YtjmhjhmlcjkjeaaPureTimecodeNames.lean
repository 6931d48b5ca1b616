/- The layer timecode's errors and rates have the document's numbers: the law TimecodeNames is true. No conditions. -/
import Derived.Test.YtjmhjhmlcjkjeaaPTimecodeNamesx1
namespace Go.Proofs.Ytjmhjhmlcjkjeaa.Pure
open Go.RowKit Go.Proofs.Ytjmhjhmlcjkjeaa.PTimecodeNames Go.Proofs.YtjmhjhmlcjkjeaaW.PrintWords Go.Proofs.YtjmhjhmlcjkjeaaW.PrintLast

/-- YOURS: dailieslaw18_TimecodeNames.f  = some true
What it reaches (each with k first where it has rounds; `.mono`: more rounds tell the same; `.l0`, ..: its loops, with `.mono_l`): dailieslaw18_num.f, dailieslaw18_TimecodeNames.f -/
theorem TimecodeNames : dailieslaw18_TimecodeNames.Pure := by
  rfl

end Go.Proofs.Ytjmhjhmlcjkjeaa.Pure
