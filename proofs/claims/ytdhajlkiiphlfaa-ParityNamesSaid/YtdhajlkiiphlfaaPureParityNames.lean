/- The layer parity's constants and errors are the document's: the law ParityNames is true. No conditions. -/
import Derived.Test.YtdhajlkiiphlfaaPParityNamesx1
namespace Go.Proofs.Ytdhajlkiiphlfaa.Pure
open Go.RowKit Go.Proofs.Ytdhajlkiiphlfaa.PParityNames Go.Proofs.YtdhajlkiiphlfaaW.PrintWords Go.Proofs.YtdhajlkiiphlfaaW.PrintLast

/-- YOURS: dailieslaw05_ParityNames.f  = some true
What it reaches (each with k first where it has rounds; `.mono`: more rounds tell the same; `.l0`, ..: its loops, with `.mono_l`): dailieslaw05_ParityNames.f -/
theorem ParityNames : dailieslaw05_ParityNames.Pure := by
  rfl

end Go.Proofs.Ytdhajlkiiphlfaa.Pure
