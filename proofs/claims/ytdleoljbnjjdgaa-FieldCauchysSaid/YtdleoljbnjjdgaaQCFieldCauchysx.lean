-- Printed by a program of this session (wrap.py) over the kit's print.py, with hand-proved contracts among its functions.
import Derived.Test.YtdleoljbnjjdgaaQCFieldCauchysx0
import Derived.Test.YtdleoljbnjjdgaaQCFieldCauchysx1
import Derived.Test.YtdleoljbnjjdgaaQCFieldCauchysx2
namespace Go.Proofs.Ytdleoljbnjjdgaa.QCFieldCauchys
open Go.RowKit Go.Proofs.YtdleoljbnjjdgaaW.PrintWords Go.Proofs.YtdleoljbnjjdgaaW.PrintLast Go.Proofs.YtdleoljbnjjdgaaW.PrintMore
attribute [local go_sem] max2_int min2_int max_two min_two max_three min_three max_four min_four   -- for this text's walks alone
set_option linter.unusedVariables false
set_option linter.unusedSimpArgs false

end Go.Proofs.Ytdleoljbnjjdgaa.QCFieldCauchys
