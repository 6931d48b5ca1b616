/- The layer crc's error has the document's number: the law CrcNames is true. No conditions. -/
import Derived.Test.YtjaafdjgogpbdaaPCrcNamesx1
namespace Go.Proofs.Ytjaafdjgogpbdaa.Pure
open Go.RowKit Go.Proofs.Ytjaafdjgogpbdaa.PCrcNames Go.Proofs.YtjaafdjgogpbdaaW.PrintWords Go.Proofs.YtjaafdjgogpbdaaW.PrintLast

/-- YOURS: dailieslaw03_CrcNames.f  = some true
What it reaches (each with k first where it has rounds; `.mono`: more rounds tell the same; `.l0`, ..: its loops, with `.mono_l`): dailieslaw03_num.f, dailieslaw03_CrcNames.f -/
theorem CrcNames : dailieslaw03_CrcNames.Pure := by
  rfl

end Go.Proofs.Ytjaafdjgogpbdaa.Pure
