-- Printed by a program of this session (wrap.py) over the kit's print.py, with hand-proved contracts among its functions.
import Derived.Test.YtdhajlkiiphlfaaQBaseParityWidex0
import Derived.Test.YtdhajlkiiphlfaaQBaseParityWidex1
import Derived.Test.YtdhajlkiiphlfaaQBaseParityWidex2
import Derived.Test.YtdhajlkiiphlfaaQBaseParityWidex3
import Derived.Test.YtdhajlkiiphlfaaQBaseParityWidex4
namespace Go.Proofs.Ytdhajlkiiphlfaa.QBaseParityWide
open Go.RowKit Go.Proofs.YtdhajlkiiphlfaaW.PrintWords Go.Proofs.YtdhajlkiiphlfaaW.PrintLast Go.Proofs.YtdhajlkiiphlfaaW.PrintMore
attribute [local go_sem] max2_int min2_int max_two min_two max_three min_three max_four min_four   -- for this text's walks alone
set_option linter.unusedVariables false
set_option linter.unusedSimpArgs false

end Go.Proofs.Ytdhajlkiiphlfaa.QBaseParityWide
