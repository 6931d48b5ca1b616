/- The layer farm's errors, limits and states have the document's numbers: the law FarmNames is true. No conditions. -/
import Derived.Test.YtjmhjhmlcjkjeaaPFarmNamesx1
namespace Go.Proofs.Ytjmhjhmlcjkjeaa.Pure
open Go.RowKit Go.Proofs.Ytjmhjhmlcjkjeaa.PFarmNames Go.Proofs.YtjmhjhmlcjkjeaaW.PrintWords Go.Proofs.YtjmhjhmlcjkjeaaW.PrintLast

/-- YOURS: dailieslaw21_FarmNames.f  = some true
What it reaches (each with k first where it has rounds; `.mono`: more rounds tell the same; `.l0`, ..: its loops, with `.mono_l`): dailieslaw21_num.f, dailieslaw21_FarmNames.f -/
theorem FarmNames : dailieslaw21_FarmNames.Pure := by
  rfl

end Go.Proofs.Ytjmhjhmlcjkjeaa.Pure
