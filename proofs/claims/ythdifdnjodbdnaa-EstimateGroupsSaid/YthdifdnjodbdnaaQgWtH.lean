-- Laid by myprint.py (a program of this session's, over the kit's printer and with functions proved by hand)
import Derived.Test.YthdifdnjodbdnaaTy
import Derived.Test.YthdifdnjodbdnaaWt
namespace Go.Proofs.Ythdifdnjodbdnaa.Q
open Go.RowKit Go.Proofs.YthdifdnjodbdnaaW.PrintWords Go.Proofs.YthdifdnjodbdnaaW.PrintLast Go.Proofs.YthdifdnjodbdnaaW.PrintMore
attribute [local go_sem] max2_int min2_int max_two min_two max_three min_three max_four min_four   -- for this text's walks alone
set_option linter.unusedVariables false
set_option linter.unusedSimpArgs false

/-! ### sleuthlaw25_weighted: function 13 -/

end Go.Proofs.Ythdifdnjodbdnaa.Q
