-- Laid by myprint.py (a program of this session's, over the kit's printer and with functions proved by hand)
import Derived.Test.YtcjgmofgfblmnaaTy
import Derived.Test.YtcjgmofgfblmnaaPw
import Derived.Test.YtcjgmofgfblmnaaQgChg
import Derived.Test.YtcjgmofgfblmnaaQgKnown
import Derived.Test.YtcjgmofgfblmnaaQgHlc
import Derived.Test.YtcjgmofgfblmnaaQgSiz
import Derived.Test.YtcjgmofgfblmnaaQgSleuthlaw45Size
namespace Go.Proofs.Ytcjgmofgfblmnaa.Q
open Go.RowKit Go.Proofs.YtcjgmofgfblmnaaW.PrintWords Go.Proofs.YtcjgmofgfblmnaaW.PrintLast Go.Proofs.YtcjgmofgfblmnaaW.PrintMore
attribute [local go_sem] max2_int min2_int max_two min_two max_three min_three max_four min_four   -- for this text's walks alone
set_option linter.unusedVariables false
set_option linter.unusedSimpArgs false

attribute [local go_sem high] eqA41
abbrev T99995 : Bool := true
abbrev F99995 : Bool := false
abbrev A99995_0 : Array Bool := #[F99995, F99995, F99995, F99995, F99995, F99995, F99995, F99995, F99995, F99995, F99995, F99995]
abbrev A99995_1 : Array Bool := #[T99995, F99995, F99995, F99995, F99995, F99995, F99995, F99995, F99995, F99995, F99995, F99995]
abbrev A99995_2 : Array Bool := #[T99995, T99995, F99995, F99995, F99995, F99995, F99995, F99995, F99995, F99995, F99995, F99995]
abbrev A99995_3 : Array Bool := #[T99995, T99995, T99995, F99995, F99995, F99995, F99995, F99995, F99995, F99995, F99995, F99995]
abbrev A99995_4 : Array Bool := #[T99995, T99995, T99995, T99995, F99995, F99995, F99995, F99995, F99995, F99995, F99995, F99995]
abbrev A99995_5 : Array Bool := #[T99995, T99995, T99995, T99995, F99995, T99995, F99995, F99995, F99995, F99995, F99995, F99995]
abbrev A99995_6 : Array Bool := #[T99995, T99995, T99995, T99995, F99995, T99995, T99995, F99995, F99995, F99995, F99995, F99995]
abbrev A99995_7 : Array Bool := #[T99995, T99995, T99995, T99995, F99995, T99995, T99995, T99995, F99995, F99995, F99995, F99995]
abbrev A99995_8 : Array Bool := #[T99995, T99995, T99995, T99995, F99995, T99995, T99995, T99995, T99995, F99995, F99995, F99995]
abbrev A99995_9 : Array Bool := #[T99995, T99995, T99995, T99995, T99995, T99995, T99995, T99995, T99995, F99995, F99995, F99995]
abbrev A99995_10 : Array Bool := #[T99995, T99995, T99995, T99995, T99995, T99995, T99995, T99995, T99995, T99995, F99995, F99995]
abbrev A99995_11 : Array Bool := #[T99995, T99995, T99995, T99995, T99995, T99995, T99995, T99995, T99995, T99995, T99995, F99995]
abbrev A99995_12 : Array Bool := #[T99995, T99995, T99995, T99995, T99995, T99995, T99995, T99995, T99995, T99995, T99995, T99995]
abbrev A99995_13 : Array Bool := #[F99995, F99995, F99995, F99995, F99995, F99995, F99995, F99995, F99995, F99995, F99995, F99995, F99995, F99995, F99995, F99995, F99995, F99995]
abbrev A99995_14 : Array Bool := #[T99995, F99995, F99995, F99995, F99995, F99995, F99995, F99995, F99995, F99995, F99995, F99995, F99995, F99995, F99995, F99995, F99995, F99995]
abbrev A99995_15 : Array Bool := #[T99995, T99995, F99995, F99995, F99995, F99995, F99995, F99995, F99995, F99995, F99995, F99995, F99995, F99995, F99995, F99995, F99995, F99995]
abbrev A99995_16 : Array Bool := #[T99995, T99995, T99995, F99995, F99995, F99995, F99995, F99995, F99995, F99995, F99995, F99995, F99995, F99995, F99995, F99995, F99995, F99995]
abbrev A99995_17 : Array Bool := #[T99995, T99995, T99995, T99995, F99995, F99995, F99995, F99995, F99995, F99995, F99995, F99995, F99995, F99995, F99995, F99995, F99995, F99995]
abbrev A99995_18 : Array Bool := #[T99995, T99995, T99995, T99995, T99995, F99995, F99995, F99995, F99995, F99995, F99995, F99995, F99995, F99995, F99995, F99995, F99995, F99995]
abbrev A99995_19 : Array Bool := #[T99995, T99995, T99995, T99995, T99995, T99995, F99995, F99995, F99995, F99995, F99995, F99995, F99995, F99995, F99995, F99995, F99995, F99995]
abbrev A99995_20 : Array Bool := #[T99995, T99995, T99995, T99995, T99995, T99995, T99995, F99995, F99995, F99995, F99995, F99995, F99995, F99995, F99995, F99995, F99995, F99995]
abbrev A99995_21 : Array Bool := #[T99995, T99995, T99995, T99995, T99995, T99995, T99995, T99995, F99995, F99995, F99995, F99995, F99995, F99995, F99995, F99995, F99995, F99995]
abbrev A99995_22 : Array Bool := #[T99995, T99995, T99995, T99995, T99995, T99995, T99995, T99995, F99995, T99995, F99995, F99995, F99995, F99995, F99995, F99995, F99995, F99995]
abbrev A99995_23 : Array Bool := #[T99995, T99995, T99995, T99995, T99995, T99995, T99995, T99995, F99995, T99995, T99995, F99995, F99995, F99995, F99995, F99995, F99995, F99995]
abbrev A99995_24 : Array Bool := #[T99995, T99995, T99995, T99995, T99995, T99995, T99995, T99995, F99995, T99995, T99995, T99995, F99995, F99995, F99995, F99995, F99995, F99995]
abbrev A99995_25 : Array Bool := #[T99995, T99995, T99995, T99995, T99995, T99995, T99995, T99995, F99995, T99995, T99995, T99995, T99995, F99995, F99995, F99995, F99995, F99995]
abbrev A99995_26 : Array Bool := #[T99995, T99995, T99995, T99995, T99995, T99995, T99995, T99995, F99995, T99995, T99995, T99995, T99995, F99995, F99995, F99995, T99995, F99995]
abbrev A99995_27 : Array Bool := #[T99995, T99995, T99995, T99995, T99995, T99995, T99995, T99995, T99995, T99995, T99995, T99995, T99995, F99995, F99995, F99995, T99995, F99995]
abbrev A99995_28 : Array Bool := #[T99995, T99995, T99995, T99995, T99995, T99995, T99995, T99995, T99995, T99995, T99995, T99995, T99995, T99995, F99995, F99995, T99995, F99995]
abbrev A99995_29 : Array Bool := #[T99995, T99995, T99995, T99995, T99995, T99995, T99995, T99995, T99995, T99995, T99995, T99995, T99995, T99995, T99995, F99995, T99995, F99995]
abbrev A99995_30 : Array Bool := #[T99995, T99995, T99995, T99995, T99995, T99995, T99995, T99995, T99995, T99995, T99995, T99995, T99995, T99995, T99995, T99995, T99995, F99995]
abbrev A99995_31 : Array Bool := #[T99995, T99995, T99995, T99995, T99995, T99995, T99995, T99995, T99995, T99995, T99995, T99995, T99995, T99995, T99995, T99995, T99995, T99995]
abbrev A99995_32 : Array Bool := #[F99995, F99995, F99995, F99995, F99995, F99995, F99995, F99995, F99995, F99995, F99995, F99995, F99995, F99995, F99995, F99995, F99995, F99995, F99995, F99995, F99995, F99995, F99995]
abbrev A99995_33 : Array Bool := #[T99995, F99995, F99995, F99995, F99995, F99995, F99995, F99995, F99995, F99995, F99995, F99995, F99995, F99995, F99995, F99995, F99995, F99995, F99995, F99995, F99995, F99995, F99995]
abbrev A99995_34 : Array Bool := #[T99995, T99995, F99995, F99995, F99995, F99995, F99995, F99995, F99995, F99995, F99995, F99995, F99995, F99995, F99995, F99995, F99995, F99995, F99995, F99995, F99995, F99995, F99995]
abbrev A99995_35 : Array Bool := #[T99995, T99995, T99995, F99995, F99995, F99995, F99995, F99995, F99995, F99995, F99995, F99995, F99995, F99995, F99995, F99995, F99995, F99995, F99995, F99995, F99995, F99995, F99995]
abbrev A99995_36 : Array Bool := #[T99995, T99995, T99995, F99995, F99995, T99995, F99995, F99995, F99995, F99995, F99995, F99995, F99995, F99995, F99995, F99995, F99995, F99995, F99995, F99995, F99995, F99995, F99995]
abbrev A99995_37 : Array Bool := #[T99995, T99995, T99995, F99995, F99995, T99995, T99995, F99995, F99995, F99995, F99995, F99995, F99995, F99995, F99995, F99995, F99995, F99995, F99995, F99995, F99995, F99995, F99995]
abbrev A99995_38 : Array Bool := #[T99995, T99995, T99995, F99995, F99995, T99995, T99995, T99995, F99995, F99995, F99995, F99995, F99995, F99995, F99995, F99995, F99995, F99995, F99995, F99995, F99995, F99995, F99995]
abbrev A99995_39 : Array Bool := #[T99995, T99995, T99995, T99995, F99995, T99995, T99995, T99995, F99995, F99995, F99995, F99995, F99995, F99995, F99995, F99995, F99995, F99995, F99995, F99995, F99995, F99995, F99995]
abbrev A99995_40 : Array Bool := #[T99995, T99995, T99995, T99995, F99995, T99995, T99995, T99995, T99995, F99995, F99995, F99995, F99995, F99995, F99995, F99995, F99995, F99995, F99995, F99995, F99995, F99995, F99995]
abbrev A99995_41 : Array Bool := #[T99995, T99995, T99995, T99995, T99995, T99995, T99995, T99995, T99995, F99995, F99995, F99995, F99995, F99995, F99995, F99995, F99995, F99995, F99995, F99995, F99995, F99995, F99995]
abbrev A99995_42 : Array Bool := #[T99995, T99995, T99995, T99995, T99995, T99995, T99995, T99995, T99995, T99995, F99995, F99995, F99995, F99995, F99995, F99995, F99995, F99995, F99995, F99995, F99995, F99995, F99995]
abbrev A99995_43 : Array Bool := #[T99995, T99995, T99995, T99995, T99995, T99995, T99995, T99995, T99995, T99995, T99995, F99995, F99995, F99995, F99995, F99995, F99995, F99995, F99995, F99995, F99995, F99995, F99995]
abbrev A99995_44 : Array Bool := #[T99995, T99995, T99995, T99995, T99995, T99995, T99995, T99995, T99995, T99995, T99995, T99995, F99995, F99995, F99995, F99995, F99995, F99995, F99995, F99995, F99995, F99995, F99995]
abbrev A99995_45 : Array Bool := #[T99995, T99995, T99995, T99995, T99995, T99995, T99995, T99995, T99995, T99995, T99995, T99995, T99995, F99995, F99995, F99995, F99995, F99995, F99995, F99995, F99995, F99995, F99995]
abbrev A99995_46 : Array Bool := #[T99995, T99995, T99995, T99995, T99995, T99995, T99995, T99995, T99995, T99995, T99995, T99995, T99995, T99995, F99995, F99995, F99995, F99995, F99995, F99995, F99995, F99995, F99995]
abbrev A99995_47 : Array Bool := #[T99995, T99995, T99995, T99995, T99995, T99995, T99995, T99995, T99995, T99995, T99995, T99995, T99995, T99995, T99995, F99995, F99995, F99995, F99995, F99995, F99995, F99995, F99995]
abbrev A99995_48 : Array Bool := #[T99995, T99995, T99995, T99995, T99995, T99995, T99995, T99995, T99995, T99995, T99995, T99995, T99995, T99995, T99995, T99995, F99995, F99995, F99995, F99995, F99995, F99995, F99995]
abbrev A99995_49 : Array Bool := #[T99995, T99995, T99995, T99995, T99995, T99995, T99995, T99995, T99995, T99995, T99995, T99995, T99995, T99995, T99995, T99995, T99995, F99995, F99995, F99995, F99995, F99995, F99995]
abbrev A99995_50 : Array Bool := #[T99995, T99995, T99995, T99995, T99995, T99995, T99995, T99995, T99995, T99995, T99995, T99995, T99995, T99995, T99995, T99995, T99995, T99995, F99995, F99995, F99995, F99995, F99995]
abbrev A99995_51 : Array Bool := #[T99995, T99995, T99995, T99995, T99995, T99995, T99995, T99995, T99995, T99995, T99995, T99995, T99995, T99995, T99995, T99995, T99995, T99995, T99995, F99995, F99995, F99995, F99995]
abbrev A99995_52 : Array Bool := #[T99995, T99995, T99995, T99995, T99995, T99995, T99995, T99995, T99995, T99995, T99995, T99995, T99995, T99995, T99995, T99995, T99995, T99995, T99995, T99995, F99995, F99995, F99995]
abbrev A99995_53 : Array Bool := #[T99995, T99995, T99995, T99995, T99995, T99995, T99995, T99995, T99995, T99995, T99995, T99995, T99995, T99995, T99995, T99995, T99995, T99995, T99995, T99995, T99995, F99995, F99995]
abbrev A99995_54 : Array Bool := #[T99995, T99995, T99995, T99995, T99995, T99995, T99995, T99995, T99995, T99995, T99995, T99995, T99995, T99995, T99995, T99995, T99995, T99995, T99995, T99995, T99995, T99995, F99995]
abbrev A99995_55 : Array Bool := #[T99995, T99995, T99995, T99995, T99995, T99995, T99995, T99995, T99995, T99995, T99995, T99995, T99995, T99995, T99995, T99995, T99995, T99995, T99995, T99995, T99995, T99995, T99995]
abbrev A99995_56 : Array Bool := #[T99995, T99995, T99995, T99995, T99995, T99995, T99995, T99995, T99995, T99995, T99995, T99995, T99995, T99995, T99995, F99995, F99995, T99995, F99995, F99995, F99995, F99995, F99995]
abbrev A99995_57 : Array Bool := #[T99995, T99995, T99995, T99995, T99995, T99995, T99995, T99995, T99995, T99995, T99995, T99995, T99995, T99995, T99995, F99995, F99995, T99995, T99995, F99995, F99995, F99995, F99995]
abbrev A99995_58 : Array Bool := #[T99995, T99995, T99995, T99995, T99995, T99995, T99995, T99995, T99995, T99995, T99995, T99995, T99995, T99995, T99995, F99995, F99995, T99995, T99995, T99995, F99995, F99995, F99995]
abbrev A99995_59 : Array Bool := #[T99995, T99995, T99995, T99995, T99995, T99995, T99995, T99995, T99995, T99995, T99995, T99995, T99995, T99995, T99995, F99995, F99995, T99995, T99995, T99995, T99995, F99995, F99995]
abbrev A99995_60 : Array Bool := #[T99995, T99995, T99995, T99995, T99995, T99995, T99995, T99995, T99995, T99995, T99995, T99995, T99995, T99995, T99995, T99995, F99995, T99995, T99995, T99995, T99995, F99995, F99995]
abbrev A99995_61 : Array Bool := #[F99995, F99995, F99995, F99995, F99995, F99995, F99995, F99995, F99995, F99995, F99995, F99995, F99995, F99995, F99995]
abbrev A99995_62 : Array Bool := #[T99995, F99995, F99995, F99995, F99995, F99995, F99995, F99995, F99995, F99995, F99995, F99995, F99995, F99995, F99995]
abbrev A99995_63 : Array Bool := #[T99995, T99995, F99995, F99995, F99995, F99995, F99995, F99995, F99995, F99995, F99995, F99995, F99995, F99995, F99995]
abbrev A99995_64 : Array Bool := #[T99995, T99995, T99995, F99995, F99995, F99995, F99995, F99995, F99995, F99995, F99995, F99995, F99995, F99995, F99995]
abbrev A99995_65 : Array Bool := #[T99995, T99995, T99995, T99995, F99995, F99995, F99995, F99995, F99995, F99995, F99995, F99995, F99995, F99995, F99995]
abbrev A99995_66 : Array Bool := #[T99995, T99995, T99995, T99995, T99995, F99995, F99995, F99995, F99995, F99995, F99995, F99995, F99995, F99995, F99995]
abbrev A99995_67 : Array Bool := #[T99995, T99995, T99995, T99995, T99995, T99995, F99995, F99995, F99995, F99995, F99995, F99995, F99995, F99995, F99995]
abbrev A99995_68 : Array Bool := #[T99995, T99995, T99995, T99995, T99995, T99995, T99995, F99995, F99995, F99995, F99995, F99995, F99995, F99995, F99995]
abbrev A99995_69 : Array Bool := #[T99995, T99995, T99995, T99995, T99995, T99995, T99995, T99995, F99995, F99995, F99995, F99995, F99995, F99995, F99995]
abbrev A99995_70 : Array Bool := #[T99995, T99995, T99995, T99995, T99995, T99995, T99995, T99995, T99995, F99995, F99995, F99995, F99995, F99995, F99995]
abbrev A99995_71 : Array Bool := #[T99995, T99995, T99995, T99995, T99995, T99995, T99995, T99995, T99995, T99995, F99995, F99995, F99995, F99995, F99995]
abbrev A99995_72 : Array Bool := #[T99995, T99995, T99995, T99995, T99995, T99995, T99995, T99995, T99995, T99995, T99995, F99995, F99995, F99995, F99995]
abbrev A99995_73 : Array Bool := #[T99995, T99995, T99995, T99995, T99995, T99995, T99995, T99995, T99995, T99995, T99995, T99995, F99995, F99995, F99995]
abbrev A99995_74 : Array Bool := #[T99995, T99995, T99995, T99995, T99995, T99995, T99995, T99995, T99995, T99995, T99995, T99995, T99995, F99995, F99995]
abbrev A99995_75 : Array Bool := #[T99995, T99995, T99995, T99995, T99995, T99995, T99995, T99995, T99995, T99995, T99995, T99995, T99995, T99995, F99995]
abbrev A99995_76 : Array Bool := #[T99995, T99995, T99995, T99995, T99995, T99995, T99995, T99995, T99995, T99995, T99995, T99995, T99995, T99995, T99995]
abbrev A99995_77 : Array Bool := #[T99995, T99995, T99995, T99995, T99995, T99995, T99995, T99995, F99995, T99995, F99995, F99995, F99995, F99995, F99995]
abbrev A99995_78 : Array Bool := #[T99995, T99995, T99995, T99995, T99995, T99995, T99995, T99995, F99995, T99995, T99995, F99995, F99995, F99995, F99995]
abbrev A99995_79 : Array Bool := #[T99995, T99995, T99995, T99995, T99995, T99995, T99995, T99995, F99995, T99995, T99995, T99995, F99995, F99995, F99995]
abbrev A99995_80 : Array Bool := #[F99995, F99995, F99995, F99995, F99995, F99995, F99995, F99995, F99995, F99995, F99995, F99995, F99995, F99995, F99995, F99995, F99995, F99995, F99995, F99995, F99995, F99995, F99995, F99995, F99995, F99995, F99995, F99995, F99995]
abbrev A99995_81 : Array Bool := #[T99995, F99995, F99995, F99995, F99995, F99995, F99995, F99995, F99995, F99995, F99995, F99995, F99995, F99995, F99995, F99995, F99995, F99995, F99995, F99995, F99995, F99995, F99995, F99995, F99995, F99995, F99995, F99995, F99995]
abbrev A99995_82 : Array Bool := #[T99995, T99995, F99995, F99995, F99995, F99995, F99995, F99995, F99995, F99995, F99995, F99995, F99995, F99995, F99995, F99995, F99995, F99995, F99995, F99995, F99995, F99995, F99995, F99995, F99995, F99995, F99995, F99995, F99995]
abbrev A99995_83 : Array Bool := #[T99995, T99995, T99995, F99995, F99995, F99995, F99995, F99995, F99995, F99995, F99995, F99995, F99995, F99995, F99995, F99995, F99995, F99995, F99995, F99995, F99995, F99995, F99995, F99995, F99995, F99995, F99995, F99995, F99995]
abbrev A99995_84 : Array Bool := #[T99995, T99995, T99995, F99995, F99995, T99995, F99995, F99995, F99995, F99995, F99995, F99995, F99995, F99995, F99995, F99995, F99995, F99995, F99995, F99995, F99995, F99995, F99995, F99995, F99995, F99995, F99995, F99995, F99995]
abbrev A99995_85 : Array Bool := #[T99995, T99995, T99995, F99995, F99995, T99995, T99995, F99995, F99995, F99995, F99995, F99995, F99995, F99995, F99995, F99995, F99995, F99995, F99995, F99995, F99995, F99995, F99995, F99995, F99995, F99995, F99995, F99995, F99995]
abbrev A99995_86 : Array Bool := #[T99995, T99995, T99995, F99995, F99995, T99995, T99995, T99995, F99995, F99995, F99995, F99995, F99995, F99995, F99995, F99995, F99995, F99995, F99995, F99995, F99995, F99995, F99995, F99995, F99995, F99995, F99995, F99995, F99995]
abbrev A99995_87 : Array Bool := #[T99995, T99995, T99995, T99995, F99995, T99995, T99995, T99995, F99995, F99995, F99995, F99995, F99995, F99995, F99995, F99995, F99995, F99995, F99995, F99995, F99995, F99995, F99995, F99995, F99995, F99995, F99995, F99995, F99995]
abbrev A99995_88 : Array Bool := #[T99995, T99995, T99995, T99995, F99995, T99995, T99995, T99995, T99995, F99995, F99995, F99995, F99995, F99995, F99995, F99995, F99995, F99995, F99995, F99995, F99995, F99995, F99995, F99995, F99995, F99995, F99995, F99995, F99995]
abbrev A99995_89 : Array Bool := #[T99995, T99995, T99995, T99995, T99995, T99995, T99995, T99995, T99995, F99995, F99995, F99995, F99995, F99995, F99995, F99995, F99995, F99995, F99995, F99995, F99995, F99995, F99995, F99995, F99995, F99995, F99995, F99995, F99995]
abbrev A99995_90 : Array Bool := #[T99995, T99995, T99995, T99995, T99995, T99995, T99995, T99995, T99995, T99995, F99995, F99995, F99995, F99995, F99995, F99995, F99995, F99995, F99995, F99995, F99995, F99995, F99995, F99995, F99995, F99995, F99995, F99995, F99995]
abbrev A99995_91 : Array Bool := #[T99995, T99995, T99995, T99995, T99995, T99995, T99995, T99995, T99995, T99995, T99995, F99995, F99995, F99995, F99995, F99995, F99995, F99995, F99995, F99995, F99995, F99995, F99995, F99995, F99995, F99995, F99995, F99995, F99995]
abbrev A99995_92 : Array Bool := #[T99995, T99995, T99995, T99995, T99995, T99995, T99995, T99995, T99995, T99995, T99995, T99995, F99995, F99995, F99995, F99995, F99995, F99995, F99995, F99995, F99995, F99995, F99995, F99995, F99995, F99995, F99995, F99995, F99995]
abbrev A99995_93 : Array Bool := #[T99995, T99995, T99995, T99995, T99995, T99995, T99995, T99995, T99995, T99995, T99995, T99995, T99995, F99995, F99995, F99995, F99995, F99995, F99995, F99995, F99995, F99995, F99995, F99995, F99995, F99995, F99995, F99995, F99995]
abbrev A99995_94 : Array Bool := #[T99995, T99995, T99995, T99995, T99995, T99995, T99995, T99995, T99995, T99995, T99995, T99995, T99995, T99995, F99995, F99995, F99995, F99995, F99995, F99995, F99995, F99995, F99995, F99995, F99995, F99995, F99995, F99995, F99995]
abbrev A99995_95 : Array Bool := #[T99995, T99995, T99995, T99995, T99995, T99995, T99995, T99995, T99995, T99995, T99995, T99995, T99995, T99995, T99995, F99995, F99995, F99995, F99995, F99995, F99995, F99995, F99995, F99995, F99995, F99995, F99995, F99995, F99995]
abbrev A99995_96 : Array Bool := #[T99995, T99995, T99995, T99995, T99995, T99995, T99995, T99995, T99995, T99995, T99995, T99995, T99995, T99995, T99995, T99995, F99995, F99995, F99995, F99995, F99995, F99995, F99995, F99995, F99995, F99995, F99995, F99995, F99995]
abbrev A99995_97 : Array Bool := #[T99995, T99995, T99995, T99995, T99995, T99995, T99995, T99995, T99995, T99995, T99995, T99995, T99995, T99995, T99995, T99995, T99995, F99995, F99995, F99995, F99995, F99995, F99995, F99995, F99995, F99995, F99995, F99995, F99995]
abbrev A99995_98 : Array Bool := #[T99995, T99995, T99995, T99995, T99995, T99995, T99995, T99995, T99995, T99995, T99995, T99995, T99995, T99995, T99995, T99995, T99995, T99995, F99995, F99995, F99995, F99995, F99995, F99995, F99995, F99995, F99995, F99995, F99995]
abbrev A99995_99 : Array Bool := #[T99995, T99995, T99995, T99995, T99995, T99995, T99995, T99995, T99995, T99995, T99995, T99995, T99995, T99995, T99995, T99995, T99995, T99995, T99995, F99995, F99995, F99995, F99995, F99995, F99995, F99995, F99995, F99995, F99995]
abbrev A99995_100 : Array Bool := #[T99995, T99995, T99995, T99995, T99995, T99995, T99995, T99995, T99995, T99995, T99995, T99995, T99995, T99995, T99995, T99995, T99995, T99995, T99995, T99995, F99995, F99995, F99995, F99995, F99995, F99995, F99995, F99995, F99995]
abbrev A99995_101 : Array Bool := #[T99995, T99995, T99995, T99995, T99995, T99995, T99995, T99995, T99995, T99995, T99995, T99995, T99995, T99995, T99995, T99995, T99995, T99995, T99995, T99995, T99995, F99995, F99995, F99995, F99995, F99995, F99995, F99995, F99995]
abbrev A99995_102 : Array Bool := #[T99995, T99995, T99995, T99995, T99995, T99995, T99995, T99995, T99995, T99995, T99995, T99995, T99995, T99995, T99995, T99995, T99995, T99995, T99995, T99995, T99995, T99995, F99995, F99995, F99995, F99995, F99995, F99995, F99995]
abbrev A99995_103 : Array Bool := #[T99995, T99995, T99995, T99995, T99995, T99995, T99995, T99995, T99995, T99995, T99995, T99995, T99995, T99995, T99995, T99995, T99995, T99995, T99995, T99995, T99995, T99995, T99995, F99995, F99995, F99995, F99995, F99995, F99995]
abbrev A99995_104 : Array Bool := #[T99995, T99995, T99995, T99995, T99995, T99995, T99995, T99995, T99995, T99995, T99995, T99995, T99995, T99995, T99995, T99995, T99995, T99995, T99995, T99995, T99995, T99995, T99995, T99995, F99995, F99995, F99995, F99995, F99995]
abbrev A99995_105 : Array Bool := #[T99995, T99995, T99995, T99995, T99995, T99995, T99995, T99995, T99995, T99995, T99995, T99995, T99995, T99995, T99995, T99995, T99995, T99995, T99995, T99995, T99995, T99995, T99995, T99995, T99995, F99995, F99995, F99995, F99995]
abbrev A99995_106 : Array Bool := #[T99995, T99995, T99995, T99995, T99995, T99995, T99995, T99995, T99995, T99995, T99995, T99995, T99995, T99995, T99995, T99995, T99995, T99995, T99995, T99995, T99995, T99995, T99995, T99995, T99995, T99995, F99995, F99995, F99995]
abbrev A99995_107 : Array Bool := #[T99995, T99995, T99995, T99995, T99995, T99995, T99995, T99995, T99995, T99995, T99995, T99995, T99995, T99995, T99995, T99995, T99995, T99995, T99995, T99995, T99995, T99995, T99995, T99995, T99995, T99995, T99995, F99995, F99995]
abbrev A99995_108 : Array Bool := #[T99995, T99995, T99995, T99995, T99995, T99995, T99995, T99995, T99995, T99995, T99995, T99995, T99995, T99995, T99995, T99995, T99995, T99995, T99995, T99995, T99995, T99995, T99995, T99995, T99995, T99995, T99995, T99995, F99995]
abbrev A99995_109 : Array Bool := #[T99995, T99995, T99995, T99995, T99995, T99995, T99995, T99995, T99995, T99995, T99995, T99995, T99995, T99995, T99995, T99995, T99995, T99995, T99995, T99995, T99995, T99995, T99995, T99995, T99995, T99995, T99995, T99995, T99995]
abbrev A99995_110 : Array Bool := #[T99995, T99995, T99995, T99995, T99995, T99995, T99995, T99995, T99995, T99995, T99995, T99995, T99995, T99995, T99995, F99995, F99995, T99995, F99995, F99995, F99995, F99995, F99995, F99995, F99995, F99995, F99995, F99995, F99995]
abbrev A99995_111 : Array Bool := #[T99995, T99995, T99995, T99995, T99995, T99995, T99995, T99995, T99995, T99995, T99995, T99995, T99995, T99995, T99995, F99995, F99995, T99995, T99995, F99995, F99995, F99995, F99995, F99995, F99995, F99995, F99995, F99995, F99995]
abbrev A99995_112 : Array Bool := #[T99995, T99995, T99995, T99995, T99995, T99995, T99995, T99995, T99995, T99995, T99995, T99995, T99995, T99995, T99995, F99995, F99995, T99995, T99995, T99995, F99995, F99995, F99995, F99995, F99995, F99995, F99995, F99995, F99995]
abbrev A99995_113 : Array Bool := #[T99995, T99995, T99995, T99995, T99995, T99995, T99995, T99995, T99995, T99995, T99995, T99995, T99995, T99995, T99995, T99995, F99995, T99995, T99995, T99995, F99995, F99995, F99995, F99995, F99995, F99995, F99995, F99995, F99995]
abbrev A99995_114 : Array Bool := #[T99995, T99995, T99995, T99995, T99995, T99995, T99995, T99995, T99995, T99995, T99995, T99995, T99995, T99995, T99995, T99995, F99995, T99995, T99995, T99995, T99995, F99995, F99995, F99995, F99995, F99995, F99995, F99995, F99995]
theorem qgsleuthlaw45changepointsizes_0 {p : Prop} (h : p := by repeat (first | (with_reducible first | exact HB.out | apply below_alloc | apply pw_below_drewN | apply below_drew1 | refine below_set ?_ GE697.out | refine below_set ?_ GE714.out) | exact HB.out)) : p := h
theorem qgsleuthlaw45changepointsizes_1 {p : Prop} (h : p := by (with_reducible repeat (first | refine blk_drewN ?_ _ | refine blk_drew ?_ | refine blk_alloc ?_ _)); exact BK697.out) : p := h
theorem qgsleuthlaw45changepointsizes_2 {p : Prop} (h : p := by (try simp only [List.map_toArray, List.map_cons, List.map_nil]); first | done | rfl | (simp only [List.length_drop, List.length_take]; rfl)) : p := h
theorem qgsleuthlaw45changepointsizes_3 {p : Prop} (h : p := by (with_reducible repeat (first | apply Kd.R_alloc | apply Kd.R_drewN | apply Kd.R_drew)); exact HO_7.out) : p := h
theorem qgsleuthlaw45changepointsizes_4 {p : Prop} (h : p := by (with_reducible repeat (first | refine blk_drewN ?_ _ | refine blk_drew ?_ | refine blk_alloc ?_ _)); exact BK714.out) : p := h
theorem qgsleuthlaw45changepointsizes_5 {p : Prop} (h : p := by repeat (first | (with_reducible first | exact HB.out | apply below_alloc | apply pw_below_drewN | apply below_drew1 | refine below_set ?_ GE697.out) | exact HB.out)) : p := h
theorem qgsleuthlaw45changepointsizes_6 {p : Prop} (h : p := by (with_reducible repeat (first | apply Kd.R_alloc | apply Kd.R_drewN | apply Kd.R_drew)); exact HO_16.out) : p := h
theorem qgsleuthlaw45changepointsizes_7 {p : Prop} (h : p := by first | (with_reducible assumption) | assumption) : p := h
theorem qgsleuthlaw45changepointsizes_8 {p : Prop} (h : p := by repeat (first | (with_reducible first | exact HB.out | apply below_alloc | apply pw_below_drewN | apply below_drew1) | exact HB.out)) : p := h
theorem qgsleuthlaw45changepointsizes_9 {p : Prop} (h : p := by (with_reducible repeat (first | refine blk_drewN ?_ _ | refine blk_drew ?_ | refine blk_alloc ?_ _)); refine blk_put (cs := #[.int .i64 t710, .int .i64 t711, .int .i64 0]) ?_ 2 _ rfl; (with_reducible repeat (first | refine blk_drewN ?_ _ | refine blk_drew ?_ | refine blk_alloc ?_ _)); refine blk_put (cs := #[.int .i64 t710, .int .i64 0, .int .i64 0]) ?_ 1 _ rfl; (with_reducible repeat (first | refine blk_drewN ?_ _ | refine blk_drew ?_ | refine blk_alloc ?_ _)); refine blk_put (cs := #[.int .i64 0, .int .i64 0, .int .i64 0]) ?_ 0 _ rfl; (with_reducible repeat (first | refine blk_drewN ?_ _ | refine blk_drew ?_ | refine blk_alloc ?_ _)); exact BK714.out) : p := h
theorem qgsleuthlaw45changepointsizes_10 {p : Prop} (h : p := by (with_reducible repeat (first | refine blk_drewN ?_ _ | refine blk_drew ?_ | refine blk_alloc ?_ _)); refine blk_far ?_ NB697_714.out _; (with_reducible repeat (first | refine blk_drewN ?_ _ | refine blk_drew ?_ | refine blk_alloc ?_ _)); refine blk_far ?_ NB697_714.out _; (with_reducible repeat (first | refine blk_drewN ?_ _ | refine blk_drew ?_ | refine blk_alloc ?_ _)); refine blk_far ?_ NB697_714.out _; (with_reducible repeat (first | refine blk_drewN ?_ _ | refine blk_drew ?_ | refine blk_alloc ?_ _)); exact BK697.out) : p := h
theorem qgsleuthlaw45changepointsizes_11 {p : Prop} (h : p := by first | rfl | (simp; done) | (simp [*]; done)) : p := h
theorem qgsleuthlaw45changepointsizes_12 {p : Prop} (h : p := by (with_reducible repeat (first | apply Kd.R_alloc | apply Kd.R_drewN | apply Kd.R_drew)); exact Kd.R_mono (Kd.R_far (p := ⟨gb714, 2, none⟩) (Kd.R_far (p := ⟨gb714, 1, none⟩) (Kd.R_far (p := ⟨gb714, 0, none⟩) (Kd.R_mono HO_7.out (fun k_ hk => (⟨hk, hk.2⟩ : _ ∧ k_ ≠ gb714))) (fun _ hk => hk.2) (.int .i64 t710)) (fun _ hk => hk.2) (.int .i64 t711)) (fun _ hk => hk.2) (.int .i64 t712)) (fun _ hk => ⟨hk.1.1, hk.1.2⟩)) : p := h
theorem qgsleuthlaw45changepointsizes_13 {p : Prop} (h : p := by first | rfl | (simp [errW_none, errW_some] <;> rfl) | (simp [*, errW_none, errW_some] <;> rfl)) : p := h
theorem qgsleuthlaw45changepointsizes_14 {p : Prop} (h : p := by have := HK1.out; have := HJ37.out; have := HK3.out; have := HK4.out; omega) : p := h
/-! ### sleuthlaw45_ChangepointSizes: function 12 -/
mutual
def sleuthlaw45_ChangepointSizes.l0 : Nat → Int → Int → List (S41) → Bool → Int → Int → Int → Int → Option (Bool)
 | 0, _, _, _, _, _, _, _, _ => none
 | k + 1, x1, x2, x7, x9, x10, x698000, x698001, x698002 => if x10 < (x7.length : Int) then (if 0 ≤ x10 then ((changepoint_Direction.f ((rd_T41 x7 x10).f0) ((rd_T41 x7 x10).f1) ((rd_T41 x7 x10).f2)).bind fun t703 => ((sleuthlaw45_direction.f ((rd_T41 x7 x10).f0) ((rd_T41 x7 x10).f1) ((rd_T41 x7 x10).f2)).bind fun t705 => (if t703 = t705 then ((changepoint_Relative.f ((rd_T41 x7 x10).f0) ((rd_T41 x7 x10).f1) ((rd_T41 x7 x10).f2)).bind fun t707 => (if (mx (mx ((rd_T41 x7 x10).f1) (wrap64 (-((rd_T41 x7 x10).f1)))) 1) = 0 then (none) else (sleuthlaw45_ChangepointSizes.j1 k x1 x2 x7 x9 x10 (t707 != (wrap64 (Int.tdiv (wrap64 ((mx (wrap64 (((rd_T41 x7 x10).f2) - ((rd_T41 x7 x10).f1))) (wrap64 (-(wrap64 (((rd_T41 x7 x10).f2) - ((rd_T41 x7 x10).f1)))))) * 1000000)) (mx (mx ((rd_T41 x7 x10).f1) (wrap64 (-((rd_T41 x7 x10).f1)))) 1)))) x698000 x698001 x698002))) else (sleuthlaw45_ChangepointSizes.j1 k x1 x2 x7 x9 x10 true x698000 x698001 x698002)))) else (none)) else ((changepoint_Latest.f x7 x1).bind fun bt710 => (if (bt710.2.2.2 != x9) = true then (sleuthlaw45_ChangepointSizes.j2 k x2 x7 true) else (sleuthlaw45_ChangepointSizes.j2 k x2 x7 (!(bt710.1 == x698000) || (!(bt710.2.1 == x698001) || (!(bt710.2.2.1 == x698002)))))))
def sleuthlaw45_ChangepointSizes.j1 : Nat → Int → Int → List (S41) → Bool → Int → Bool → Int → Int → Int → Option (Bool)
 | 0, _, _, _, _, _, _, _, _, _ => none
 | k + 1, x1, x2, x7, x9, x10, x81, x698000, x698001, x698002 => if x81 = true then (some false) else (if 0 ≤ x10 then (if x10 < (x7.length : Int) then (if ((rd_T41 x7 x10).f0) ≤ x1 then (sleuthlaw45_ChangepointSizes.l0 k x1 x2 x7 true (wrap64 (x10 + 1)) ((rd_T41 x7 x10).f0) ((rd_T41 x7 x10).f1) ((rd_T41 x7 x10).f2)) else (sleuthlaw45_ChangepointSizes.l0 k x1 x2 x7 x9 (wrap64 (x10 + 1)) x698000 x698001 x698002)) else (none)) else (none))
def sleuthlaw45_ChangepointSizes.j2 : Nat → Int → List (S41) → Bool → Option (Bool)
 | 0, _, _, _ => none
 | k + 1, x2, x7, x106 => if x106 = true then (some false) else ((changepoint_Largest.f x7 x2).bind fun t715 => (sleuthlaw45_ChangepointSizes.l1 k x2 x7 t715 0 0))
def sleuthlaw45_ChangepointSizes.l1 : Nat → Int → List (S41) → List (S41) → Int → Int → Option (Bool)
 | 0, _, _, _, _, _ => none
 | k + 1, x2, x7, x16, x17, x18 => if x18 < (x7.length : Int) then (sleuthlaw45_ChangepointSizes.l2 k x2 x7 x16 x17 x18 0 0) else (some (x17 == (x16.length : Int)))
def sleuthlaw45_ChangepointSizes.l2 : Nat → Int → List (S41) → List (S41) → Int → Int → Int → Int → Option (Bool)
 | 0, _, _, _, _, _, _, _ => none
 | k + 1, x2, x7, x16, x17, x18, x19, x20 => if x20 < (x7.length : Int) then (if 0 ≤ x20 then ((sleuthlaw45_size.f ((rd_T41 x7 x20).f0) ((rd_T41 x7 x20).f1) ((rd_T41 x7 x20).f2)).bind fun t719 => (if 0 ≤ x18 then (if x18 < (x7.length : Int) then ((sleuthlaw45_size.f ((rd_T41 x7 x18).f0) ((rd_T41 x7 x18).f1) ((rd_T41 x7 x18).f2)).bind fun t721 => (if t719 > t721 then (sleuthlaw45_ChangepointSizes.l2 k x2 x7 x16 x17 x18 (wrap64 (x19 + 1)) (wrap64 (x20 + 1))) else ((sleuthlaw45_size.f ((rd_T41 x7 x20).f0) ((rd_T41 x7 x20).f1) ((rd_T41 x7 x20).f2)).bind fun t723 => ((sleuthlaw45_size.f ((rd_T41 x7 x18).f0) ((rd_T41 x7 x18).f1) ((rd_T41 x7 x18).f2)).bind fun t725 => (if t723 = t725 then (if x20 < x18 then (sleuthlaw45_ChangepointSizes.l2 k x2 x7 x16 x17 x18 (wrap64 (x19 + 1)) (wrap64 (x20 + 1))) else (sleuthlaw45_ChangepointSizes.l2 k x2 x7 x16 x17 x18 x19 (wrap64 (x20 + 1)))) else (sleuthlaw45_ChangepointSizes.l2 k x2 x7 x16 x17 x18 x19 (wrap64 (x20 + 1)))))))) else (none)) else (none))) else (none)) else (if x19 ≥ x2 then (sleuthlaw45_ChangepointSizes.l1 k x2 x7 x16 x17 (wrap64 (x18 + 1))) else (if x17 ≥ (x16.length : Int) then (some false) else (if 0 ≤ x17 then (if x17 < (x16.length : Int) then (if 0 ≤ x18 then (if x18 < (x7.length : Int) then (if (!(((rd_T41 x16 x17).f0) == ((rd_T41 x7 x18).f0)) || (!(((rd_T41 x16 x17).f1) == ((rd_T41 x7 x18).f1)) || (!(((rd_T41 x16 x17).f2) == ((rd_T41 x7 x18).f2))))) = true then (some false) else (sleuthlaw45_ChangepointSizes.l1 k x2 x7 x16 (wrap64 (x17 + 1)) (wrap64 (x18 + 1)))) else (none)) else (none)) else (none)) else (none))))
end
def sleuthlaw45_ChangepointSizes.f (k : Nat) (l0 : List (S92)) (a1 : Int) (a2 : Int) : Option (Bool) := (sleuthlaw45_known.f k).bind fun t693 => (if t693 = true then ((sleuthlaw45_changes.f k l0).bind fun t694 => (sleuthlaw45_ChangepointSizes.l0 k a1 a2 t694 false 0 0 0 0)) else (some false))
theorem sleuthlaw45_ChangepointSizes.mono_l : ∀ k, (∀ y0 y1 y2 y3 y4 y5 y6 y7, LeO (sleuthlaw45_ChangepointSizes.l0 k y0 y1 y2 y3 y4 y5 y6 y7) (sleuthlaw45_ChangepointSizes.l0 (k + 1) y0 y1 y2 y3 y4 y5 y6 y7)) ∧ (∀ y0 y1 y2 y3 y4 y5 y6 y7 y8, LeO (sleuthlaw45_ChangepointSizes.j1 k y0 y1 y2 y3 y4 y5 y6 y7 y8) (sleuthlaw45_ChangepointSizes.j1 (k + 1) y0 y1 y2 y3 y4 y5 y6 y7 y8)) ∧ (∀ y0 y1 y2, LeO (sleuthlaw45_ChangepointSizes.j2 k y0 y1 y2) (sleuthlaw45_ChangepointSizes.j2 (k + 1) y0 y1 y2)) ∧ (∀ y0 y1 y2 y3 y4, LeO (sleuthlaw45_ChangepointSizes.l1 k y0 y1 y2 y3 y4) (sleuthlaw45_ChangepointSizes.l1 (k + 1) y0 y1 y2 y3 y4)) ∧ (∀ y0 y1 y2 y3 y4 y5 y6, LeO (sleuthlaw45_ChangepointSizes.l2 k y0 y1 y2 y3 y4 y5 y6) (sleuthlaw45_ChangepointSizes.l2 (k + 1) y0 y1 y2 y3 y4 y5 y6))
 | 0 => ⟨fun _ _ _ _ _ _ _ _ r h => by simp [sleuthlaw45_ChangepointSizes.l0] at h, fun _ _ _ _ _ _ _ _ _ r h => by simp [sleuthlaw45_ChangepointSizes.j1] at h, fun _ _ _ r h => by simp [sleuthlaw45_ChangepointSizes.j2] at h, fun _ _ _ _ _ r h => by simp [sleuthlaw45_ChangepointSizes.l1] at h, fun _ _ _ _ _ _ _ r h => by simp [sleuthlaw45_ChangepointSizes.l2] at h⟩
 | k + 1 => by
  obtain ⟨ih0, ih1, ih2, ih3, ih4⟩ := sleuthlaw45_ChangepointSizes.mono_l k
  refine ⟨?_, ?_, ?_, ?_, ?_⟩
  ·intro y0 y1 y2 y3 y4 y5 y6 y7
   unfold sleuthlaw45_ChangepointSizes.l0
   repeat' first
   | (with_reducible exact ih0 _ _ _ _ _ _ _ _)
   | (with_reducible exact ih1 _ _ _ _ _ _ _ _ _)
   | (with_reducible exact ih2 _ _ _)
   | (with_reducible exact ih3 _ _ _ _ _)
   | (with_reducible exact ih4 _ _ _ _ _ _ _)
   | (with_reducible exact sleuthlaw45_changes.mono _ _)
   | (with_reducible exact sleuthlaw45_known.mono _)
   | (with_reducible exact LeO.refl _)
   | (with_reducible exact LeO.none _)
   | (with_reducible refine LeO.ite ?_ ?_)
   | (with_reducible refine LeO.bind ?_ (fun _ => ?_))
   | exact ih0 _ _ _ _ _ _ _ _
   | exact ih1 _ _ _ _ _ _ _ _ _
   | exact ih2 _ _ _
   | exact ih3 _ _ _ _ _
   | exact ih4 _ _ _ _ _ _ _
   | exact sleuthlaw45_changes.mono _ _
   | exact sleuthlaw45_known.mono _
   | exact LeO.none _
   | refine LeO.ite ?_ ?_
   | refine LeO.bind ?_ (fun _ => ?_)
  ·intro y0 y1 y2 y3 y4 y5 y6 y7 y8
   unfold sleuthlaw45_ChangepointSizes.j1
   repeat' first
   | (with_reducible exact ih0 _ _ _ _ _ _ _ _)
   | (with_reducible exact ih1 _ _ _ _ _ _ _ _ _)
   | (with_reducible exact ih2 _ _ _)
   | (with_reducible exact ih3 _ _ _ _ _)
   | (with_reducible exact ih4 _ _ _ _ _ _ _)
   | (with_reducible exact sleuthlaw45_changes.mono _ _)
   | (with_reducible exact sleuthlaw45_known.mono _)
   | (with_reducible exact LeO.refl _)
   | (with_reducible exact LeO.none _)
   | (with_reducible refine LeO.ite ?_ ?_)
   | (with_reducible refine LeO.bind ?_ (fun _ => ?_))
   | exact ih0 _ _ _ _ _ _ _ _
   | exact ih1 _ _ _ _ _ _ _ _ _
   | exact ih2 _ _ _
   | exact ih3 _ _ _ _ _
   | exact ih4 _ _ _ _ _ _ _
   | exact sleuthlaw45_changes.mono _ _
   | exact sleuthlaw45_known.mono _
   | exact LeO.none _
   | refine LeO.ite ?_ ?_
   | refine LeO.bind ?_ (fun _ => ?_)
  ·intro y0 y1 y2
   unfold sleuthlaw45_ChangepointSizes.j2
   repeat' first
   | (with_reducible exact ih0 _ _ _ _ _ _ _ _)
   | (with_reducible exact ih1 _ _ _ _ _ _ _ _ _)
   | (with_reducible exact ih2 _ _ _)
   | (with_reducible exact ih3 _ _ _ _ _)
   | (with_reducible exact ih4 _ _ _ _ _ _ _)
   | (with_reducible exact sleuthlaw45_changes.mono _ _)
   | (with_reducible exact sleuthlaw45_known.mono _)
   | (with_reducible exact LeO.refl _)
   | (with_reducible exact LeO.none _)
   | (with_reducible refine LeO.ite ?_ ?_)
   | (with_reducible refine LeO.bind ?_ (fun _ => ?_))
   | exact ih0 _ _ _ _ _ _ _ _
   | exact ih1 _ _ _ _ _ _ _ _ _
   | exact ih2 _ _ _
   | exact ih3 _ _ _ _ _
   | exact ih4 _ _ _ _ _ _ _
   | exact sleuthlaw45_changes.mono _ _
   | exact sleuthlaw45_known.mono _
   | exact LeO.none _
   | refine LeO.ite ?_ ?_
   | refine LeO.bind ?_ (fun _ => ?_)
  ·intro y0 y1 y2 y3 y4
   unfold sleuthlaw45_ChangepointSizes.l1
   repeat' first
   | (with_reducible exact ih0 _ _ _ _ _ _ _ _)
   | (with_reducible exact ih1 _ _ _ _ _ _ _ _ _)
   | (with_reducible exact ih2 _ _ _)
   | (with_reducible exact ih3 _ _ _ _ _)
   | (with_reducible exact ih4 _ _ _ _ _ _ _)
   | (with_reducible exact sleuthlaw45_changes.mono _ _)
   | (with_reducible exact sleuthlaw45_known.mono _)
   | (with_reducible exact LeO.refl _)
   | (with_reducible exact LeO.none _)
   | (with_reducible refine LeO.ite ?_ ?_)
   | (with_reducible refine LeO.bind ?_ (fun _ => ?_))
   | exact ih0 _ _ _ _ _ _ _ _
   | exact ih1 _ _ _ _ _ _ _ _ _
   | exact ih2 _ _ _
   | exact ih3 _ _ _ _ _
   | exact ih4 _ _ _ _ _ _ _
   | exact sleuthlaw45_changes.mono _ _
   | exact sleuthlaw45_known.mono _
   | exact LeO.none _
   | refine LeO.ite ?_ ?_
   | refine LeO.bind ?_ (fun _ => ?_)
  ·intro y0 y1 y2 y3 y4 y5 y6
   unfold sleuthlaw45_ChangepointSizes.l2
   repeat' first
   | (with_reducible exact ih0 _ _ _ _ _ _ _ _)
   | (with_reducible exact ih1 _ _ _ _ _ _ _ _ _)
   | (with_reducible exact ih2 _ _ _)
   | (with_reducible exact ih3 _ _ _ _ _)
   | (with_reducible exact ih4 _ _ _ _ _ _ _)
   | (with_reducible exact sleuthlaw45_changes.mono _ _)
   | (with_reducible exact sleuthlaw45_known.mono _)
   | (with_reducible exact LeO.refl _)
   | (with_reducible exact LeO.none _)
   | (with_reducible refine LeO.ite ?_ ?_)
   | (with_reducible refine LeO.bind ?_ (fun _ => ?_))
   | exact ih0 _ _ _ _ _ _ _ _
   | exact ih1 _ _ _ _ _ _ _ _ _
   | exact ih2 _ _ _
   | exact ih3 _ _ _ _ _
   | exact ih4 _ _ _ _ _ _ _
   | exact sleuthlaw45_changes.mono _ _
   | exact sleuthlaw45_known.mono _
   | exact LeO.none _
   | refine LeO.ite ?_ ?_
   | refine LeO.bind ?_ (fun _ => ?_)
theorem sleuthlaw45_ChangepointSizes.mono : ∀ a0 a1 a2 k, LeO (sleuthlaw45_ChangepointSizes.f k a0 a1 a2) (sleuthlaw45_ChangepointSizes.f (k + 1) a0 a1 a2) := by
 intro a0 a1 a2 k
 obtain ⟨ih0, ih1, ih2, ih3, ih4⟩ := sleuthlaw45_ChangepointSizes.mono_l k
 unfold sleuthlaw45_ChangepointSizes.f
 repeat' first
   | (with_reducible exact ih0 _ _ _ _ _ _ _ _)
   | (with_reducible exact ih1 _ _ _ _ _ _ _ _ _)
   | (with_reducible exact ih2 _ _ _)
   | (with_reducible exact ih3 _ _ _ _ _)
   | (with_reducible exact ih4 _ _ _ _ _ _ _)
   | (with_reducible exact sleuthlaw45_changes.mono _ _)
   | (with_reducible exact sleuthlaw45_known.mono _)
   | (with_reducible exact LeO.refl _)
   | (with_reducible exact LeO.none _)
   | (with_reducible refine LeO.ite ?_ ?_)
   | (with_reducible refine LeO.bind ?_ (fun _ => ?_))
   | exact ih0 _ _ _ _ _ _ _ _
   | exact ih1 _ _ _ _ _ _ _ _ _
   | exact ih2 _ _ _
   | exact ih3 _ _ _ _ _
   | exact ih4 _ _ _ _ _ _ _
   | exact sleuthlaw45_changes.mono _ _
   | exact sleuthlaw45_known.mono _
   | exact LeO.none _
   | refine LeO.ite ?_ ?_
   | refine LeO.bind ?_ (fun _ => ?_)
def sleuthlaw45_ChangepointSizes.T8 : Bool × List (List Nat × List Nat) := (true, [([], []), ([], []), ([0, 1], [0, 1]), ([2], [2]), ([3], [3]), ([], []), ([], []), ([5, 6], [5, 6]), ([7], [7]), ([8], [8]), ([4, 9], [4, 9]), ([10, 0, 1, 2, 3, 4, 5, 6, 7, 8, 9, 10], [10])])
def sleuthlaw45_ChangepointSizes.B8 : List Nat := [0, 0, 3, 7, 15, 0, 0, 96, 224, 480, 1023, 2047]
theorem sleuthlaw45_ChangepointSizes.tab8 : rtab .any (opsOf Try.f12 8) = sleuthlaw45_ChangepointSizes.T8 := by kernel_rfl
theorem sleuthlaw45_ChangepointSizes.bits8 : waitsOk sleuthlaw45_ChangepointSizes.T8.2 sleuthlaw45_ChangepointSizes.B8 = true := by kernel_rfl
def sleuthlaw45_ChangepointSizes.T9 : Bool × List (List Nat × List Nat) := (true, [([], []), ([], []), ([1], [1]), ([0, 2], [0, 2]), ([], []), ([], []), ([4, 5], [4, 5]), ([6], [6]), ([7], [7]), ([], []), ([], []), ([9, 10], [9, 10]), ([11], [11]), ([12], [12]), ([13], [13]), ([8, 14], [8, 14]), ([3, 0, 1, 2, 3], [3]), ([15, 16, 0, 1, 2, 3, 4, 5, 6, 7, 8, 9, 10, 11, 12, 13, 14, 15, 16], [15])])
def sleuthlaw45_ChangepointSizes.B9 : List Nat := [0, 0, 2, 7, 0, 0, 48, 112, 240, 0, 0, 1536, 3584, 7680, 15872, 32752, 15, 131071]
theorem sleuthlaw45_ChangepointSizes.tab9 : rtab .any (opsOf Try.f12 9) = sleuthlaw45_ChangepointSizes.T9 := by kernel_rfl
theorem sleuthlaw45_ChangepointSizes.bits9 : waitsOk sleuthlaw45_ChangepointSizes.T9.2 sleuthlaw45_ChangepointSizes.B9 = true := by kernel_rfl
def sleuthlaw45_ChangepointSizes.T10 : Bool × List (List Nat × List Nat) := (true, [([], []), ([], []), ([0, 1], [0, 1]), ([2], [2]), ([3], [3]), ([], []), ([], []), ([5, 6], [5, 6]), ([7], [7]), ([8, 4], [8]), ([4, 9], [4, 9]), ([10, 9], [10]), ([11], [11]), ([11], [11]), ([12, 13, 11], [11, 12, 13]), ([14, 11], [11, 14]), ([15, 11, 11], [11, 15]), ([11], [11]), ([17, 11], [11, 17]), ([11], [11]), ([18, 19, 11], [11, 18, 19]), ([16, 20, 11], [11, 16, 20]), ([11, 21], [11, 21])])
def sleuthlaw45_ChangepointSizes.B10 : List Nat := [0, 0, 3, 7, 15, 0, 0, 96, 224, 511, 1023, 2047, 4095, 4095, 16383, 32767, 65535, 4095, 135167, 4095, 921599, 2097151, 4194303]
theorem sleuthlaw45_ChangepointSizes.tab10 : rtab .any (opsOf Try.f12 10) = sleuthlaw45_ChangepointSizes.T10 := by kernel_rfl
theorem sleuthlaw45_ChangepointSizes.bits10 : waitsOk sleuthlaw45_ChangepointSizes.T10.2 sleuthlaw45_ChangepointSizes.B10 = true := by kernel_rfl
def sleuthlaw45_ChangepointSizes.T26 : Bool × List (List Nat × List Nat) := (true, [([], []), ([], []), ([0, 1], [0, 1]), ([2], [2]), ([3], [3]), ([], []), ([], []), ([5, 6], [5, 6]), ([7], [7]), ([8, 4], [8]), ([4, 9], [4, 9]), ([10, 9], [10]), ([11], [11]), ([11], [11]), ([12, 13, 11], [11, 12, 13]), ([14, 11], [11, 14]), ([15, 11, 11], [11, 15]), ([11], [11]), ([11], [11]), ([17, 18, 11], [11, 17, 18]), ([19, 11], [11, 19]), ([20, 16, 11], [11, 20]), ([16, 21, 11], [11, 16, 21]), ([22, 21, 11], [11, 22]), ([23], [23]), ([23], [23]), ([24, 25, 23], [23, 24, 25]), ([23, 26, 11], [11, 23, 26]), ([11, 27], [11, 27])])
def sleuthlaw45_ChangepointSizes.B26 : List Nat := [0, 0, 3, 7, 15, 0, 0, 96, 224, 511, 1023, 2047, 4095, 4095, 16383, 32767, 65535, 4095, 4095, 397311, 921599, 2097151, 4194303, 8388607, 16777215, 16777215, 67108863, 134217727, 268435455]
theorem sleuthlaw45_ChangepointSizes.tab26 : rtab .any (opsOf Try.f12 26) = sleuthlaw45_ChangepointSizes.T26 := by kernel_rfl
theorem sleuthlaw45_ChangepointSizes.bits26 : waitsOk sleuthlaw45_ChangepointSizes.T26.2 sleuthlaw45_ChangepointSizes.B26 = true := by kernel_rfl
def sleuthlaw45_ChangepointSizes.T29 : Bool × List (List Nat × List Nat) := (true, [([], []), ([], []), ([1], [1]), ([0, 2], [0, 2]), ([3], [3]), ([4], [4]), ([4], [4]), ([5, 6, 4], [4, 5, 6]), ([7, 4], [4, 7]), ([4], [4]), ([4], [4]), ([9, 10, 4], [4, 9, 10]), ([11, 4], [4, 11]), ([8, 12, 4], [4, 8, 12]), ([4, 13], [4, 13])])
def sleuthlaw45_ChangepointSizes.B29 : List Nat := [0, 0, 2, 7, 15, 31, 31, 127, 255, 31, 31, 1567, 3615, 8191, 16383]
theorem sleuthlaw45_ChangepointSizes.tab29 : rtab .any (opsOf Try.f12 29) = sleuthlaw45_ChangepointSizes.T29 := by kernel_rfl
theorem sleuthlaw45_ChangepointSizes.bits29 : waitsOk sleuthlaw45_ChangepointSizes.T29.2 sleuthlaw45_ChangepointSizes.B29 = true := by kernel_rfl
set_option maxHeartbeats 8000000 in
set_option maxRecDepth 100000 in
theorem sleuthlaw45_ChangepointSizes.calls (k : Nat) (A0 : Option Addr) (c0 : Nat) (l0 : List (S92)) (a1 : Int) (a2 : Int) (r : Bool) (w : World) (hr0 : Kd.C k92 w A0 l0.length l0) (hc0 : l0.length ≤ c0) (h : sleuthlaw45_ChangepointSizes.f k l0 a1 a2 = some r) :
  Calls Try.prog 12 #[.slice A0 l0.length c0, .int .i64 a1, .int .i64 a2] w fun e w' => e = .returned (.bool r) ∧ Below w.heap.size w w' := by
 have hu41 := Try.underlying41
 have HR0 := Aside0.mk hr0
 have HC0 := Aside0.mk hc0
 clear hr0 hc0
 have HB := Aside0.mk (Below.refl w.heap.size w)
 have H : ((sleuthlaw45_known.f k).bind fun t693 => (if t693 = true then ((sleuthlaw45_changes.f k l0).bind fun t694 => (sleuthlaw45_ChangepointSizes.l0 k a1 a2 t694 false 0 0 0 0)) else (some false))) = some r := h
 clear h
 replace H := Option.bind_eq_some_iff.mp H
 obtain ⟨t693, A40, H⟩ := H
 replace H : (if t693 = true then ((sleuthlaw45_changes.f k l0).bind fun t694 => (sleuthlaw45_ChangepointSizes.l0 k a1 a2 t694 false 0 0 0 0)) else (some false)) = some r := H
 have A4 := Aside0.mk A40
 clear A40
 by_cases c5 : t693 = true
 rotate_left
 ·replace c5 := Bool.eq_false_iff.mpr c5
  subst c5
  have H1 : (some false) = some r := by rw [if_neg (show ¬ (false = true) by decide)] at H; exact H
  clear H
  have H := H1
  clear H1
  obtain rfl := Option.some.inj H
  go_enter Try.func12, Try.ntmps12
  go_wp2_with (first | ((with_reducible refine gate_callee (f := 13) rfl ?_); refine goesL_ (some 21) rfl rfl Try.func13 (by kernel_rfl) rfl #[] rfl qgsleuthlaw45changepointsizes_2 ?_; (with_reducible refine (sleuthlaw45_known.calls k  false _ A4.out).mono ?_); rintro e w95 ⟨rfl, hb⟩; refine ⟨_, rfl, ?_⟩; have n0_ := Aside0.mk (below_step qgsleuthlaw45changepointsizes_8 hb); clear HB; have HB := n0_; clear n0_; (try clear hb); (try clear hb2); (try clear hk); (try clear hi)))
  go_ret
  exact ⟨qgsleuthlaw45changepointsizes_13, qgsleuthlaw45changepointsizes_8⟩
 subst c5
 have H1 : ((sleuthlaw45_changes.f k l0).bind fun t694 => (sleuthlaw45_ChangepointSizes.l0 k a1 a2 t694 false 0 0 0 0)) = some r := by rw [if_pos rfl] at H; exact H
 clear H
 have H := H1
 clear H1
 replace H := Option.bind_eq_some_iff.mp H
 obtain ⟨t694, A60, H⟩ := H
 replace H : (sleuthlaw45_ChangepointSizes.l0 k a1 a2 t694 false 0 0 0 0) = some r := H
 have A6 := Aside0.mk A60
 clear A60
 have H' := Aside0.mk H
 clear H
 go_enter Try.func12, Try.ntmps12
 go_wp2_with (first | ((with_reducible refine gate_callee (f := 13) rfl ?_); refine goesL_ (some 21) rfl rfl Try.func13 (by kernel_rfl) rfl #[] rfl qgsleuthlaw45changepointsizes_2 ?_; (with_reducible refine (sleuthlaw45_known.calls k  true _ A4.out).mono ?_); rintro e w7 ⟨rfl, hb⟩; refine ⟨_, rfl, ?_⟩; have n0_ := Aside0.mk (below_step qgsleuthlaw45changepointsizes_8 hb); clear HB; have HB := n0_; clear n0_; (try clear hb); (try clear hb2); (try clear hk); (try clear hi)) | ((with_reducible refine gate_callee (f := 22) rfl ?_); refine goesL_ (some 24) rfl rfl Try.func22 (by kernel_rfl) rfl #[.slice A0 l0.length c0] rfl qgsleuthlaw45changepointsizes_2 ?_; (with_reducible refine (sleuthlaw45_changes.calls k _ _ l0 t694 _ ?side1 ?side2 A6.out).mono ?_); (case side1 => repeat (first | exact (Kd.C_below HR0.out HB.out) | (with_reducible refine Kd.C_alloc ?_ _) | (with_reducible refine Kd.C_drewN ?_ _) | (with_reducible refine Kd.C_drew ?_))); (case side2 => exact HC0.out); rintro e w8 ⟨v695, rfl, ho0, hb⟩; refine ⟨_, rfl, ?_⟩; have n0_ := Aside0.mk (Kd.R_lower ho0 (below_size qgsleuthlaw45changepointsizes_8)); have n1_ := Aside0.mk (below_step qgsleuthlaw45changepointsizes_8 hb); clear HB; have HO696 := n0_; have HB := n1_; clear n0_ n1_; (try clear hb); (try clear hb2); (try clear hk); (try clear hi); (try clear ho0)) | ((with_reducible refine gate_dst (N := 8) rfl ?_); refine box_event ?hg (N := 8) ?hd (cs := #[.int .i64 0, .int .i64 0, .int .i64 0]) (t := 41) ?hr ?_; (case hd => rfl); (case hg => rfl); (case hr => first | (go_simp; done) | (go_simp; rfl)); intro gb697 hg w9 hbox hb; have n0_ := Aside0.mk (Kd.R_below (Kd.R_elderB (by (with_reducible repeat (first | apply Kd.R_alloc | apply Kd.R_drewN | apply Kd.R_drew)); exact HO696.out) gb697 (Nat.le_of_eq hg.symm)) hb); have n1_ := Aside0.mk (below_step qgsleuthlaw45changepointsizes_8 hb); have n2_ := Aside0.mk (hbox); have n3_ := Aside0.mk ((by rw [hg]; exact (below_size qgsleuthlaw45changepointsizes_8) : w.heap.size ≤ gb697)); have n4_ := Aside0.mk ((by rw [hg]; exact (below_size qgsleuthlaw45changepointsizes_8) : w.heap.size ≤ gb697)); clear HO696; clear HB; have HO696 := n0_; have HB := n1_; have BK697 := n2_; have GW697 := n3_; have GE697 := n4_; clear n0_ n1_ n2_ n3_ n4_; clear hb hbox hg; have hcz10_0 : w9.cell? ⟨gb697, 0, none⟩ = some (.int .i64 0) := (blk_cell BK697.out 0).trans rfl; have hcz10_1 : w9.cell? ⟨gb697, 1, none⟩ = some (.int .i64 0) := (blk_cell BK697.out 1).trans rfl; have hcz10_2 : w9.cell? ⟨gb697, 2, none⟩ = some (.int .i64 0) := (blk_cell BK697.out 2).trans rfl; have hfz10_0 := blk_frozen BK697.out 0; have hfz10_1 := blk_frozen BK697.out 1; have hfz10_2 := blk_frozen BK697.out 2))
 go_loopg [9, 10] k (fun kq v9 v10 w' => ∃ (x9_1 : Bool) (x10_1 : Int) (x698000_1 : Int) (x698001_1 : Int) (x698002_1 : Int), v9 = .bool x9_1 ∧ v10 = .int .i64 x10_1 ∧ Aside0 (sleuthlaw45_ChangepointSizes.l0 kq a1 a2 t694 x9_1 x10_1 x698000_1 x698001_1 x698002_1 = some r) ∧ Aside0 (kq ≤ k) ∧ Aside0 (Kd.R k41 41 w' w.heap.size (fun k_ => k_ ≠ gb697) v695 t694) ∧ Aside0 (w'.heap[gb697]? = some (.cells #[.int .i64 x698000_1, .int .i64 x698001_1, .int .i64 x698002_1] 41 (0, 0))) ∧ Aside0 (Below w.heap.size w w'))
 case atStart => exact ⟨(false), (0), (0), (0), (0), qgsleuthlaw45changepointsizes_11, qgsleuthlaw45changepointsizes_11, H', ⟨Nat.le_refl _⟩, ⟨by (with_reducible repeat (first | apply Kd.R_alloc | apply Kd.R_drewN | apply Kd.R_drew)); exact Kd.R_mono (Kd.R_far (p := ⟨gb697, 2, none⟩) (Kd.R_far (p := ⟨gb697, 1, none⟩) (Kd.R_far (p := ⟨gb697, 0, none⟩) (Kd.R_mono HO696.out (fun k_ hk => (⟨hk, hk.2⟩ : _ ∧ k_ ≠ gb697))) (fun _ hk => hk.2) (.int .i64 0)) (fun _ hk => hk.2) (.int .i64 0)) (fun _ hk => hk.2) (.int .i64 0)) (fun _ hk => hk.1.2)⟩, ⟨by (with_reducible repeat (first | refine blk_drewN ?_ _ | refine blk_drew ?_ | refine blk_alloc ?_ _)); refine blk_put (cs := #[.int .i64 0, .int .i64 0, .int .i64 0]) ?_ 2 _ rfl; (with_reducible repeat (first | refine blk_drewN ?_ _ | refine blk_drew ?_ | refine blk_alloc ?_ _)); refine blk_put (cs := #[.int .i64 0, .int .i64 0, .int .i64 0]) ?_ 1 _ rfl; (with_reducible repeat (first | refine blk_drewN ?_ _ | refine blk_drew ?_ | refine blk_alloc ?_ _)); refine blk_put (cs := #[.int .i64 0, .int .i64 0, .int .i64 0]) ?_ 0 _ rfl; (with_reducible repeat (first | refine blk_drewN ?_ _ | refine blk_drew ?_ | refine blk_alloc ?_ _)); exact BK697.out⟩, ⟨qgsleuthlaw45changepointsizes_5⟩⟩
 clear H'
 try clear c1
 try clear c2
 try clear p2
 try clear c5
 try clear hcz10_0
 try clear hcz10_1
 try clear hcz10_2
 try clear hfz10_0
 try clear hfz10_1
 try clear hfz10_2
 obtain ⟨x9_1, x10_1, x698000_1, x698001_1, x698002_1, rfl, rfl, HA, HK1, HO_7, BK697, HB⟩ := hrel
 cases gk with
 | zero => exact absurd HA.out (by simp [sleuthlaw45_ChangepointSizes.l0])
 | succ k1 =>
  have H := HA.out
  clear HA
  simp only [sleuthlaw45_ChangepointSizes.l0] at H
  by_cases c11 : x10_1 < (t694.length : Int)
  ·rw [if_pos c11] at H
   have c11b0 : decide (x10_1 < (t694.length : Int)) = true := decide_eq_true c11
   clear c11
   by_cases c12 : 0 ≤ x10_1
   rotate_left
   ·rw [if_neg c12] at H
    exact absurd H (by simp)
   rw [if_pos c12] at H
   have c12b0 : decide (0 ≤ x10_1) = true := decide_eq_true c12
   clear c12
   obtain ⟨ji13, hji13⟩ : ∃ j_ : Int, (mx (wrap64 (((rd_T41 t694 x10_1).f2) - ((rd_T41 t694 x10_1).f1))) (wrap64 (-(wrap64 (((rd_T41 t694 x10_1).f2) - ((rd_T41 t694 x10_1).f1)))))) = j_ := ⟨_, rfl⟩
   replace H : ((changepoint_Direction.f ((rd_T41 t694 x10_1).f0) ((rd_T41 t694 x10_1).f1) ((rd_T41 t694 x10_1).f2)).bind fun t703 => ((sleuthlaw45_direction.f ((rd_T41 t694 x10_1).f0) ((rd_T41 t694 x10_1).f1) ((rd_T41 t694 x10_1).f2)).bind fun t705 => (if t703 = t705 then ((changepoint_Relative.f ((rd_T41 t694 x10_1).f0) ((rd_T41 t694 x10_1).f1) ((rd_T41 t694 x10_1).f2)).bind fun t707 => (if (mx (mx ((rd_T41 t694 x10_1).f1) (wrap64 (-((rd_T41 t694 x10_1).f1)))) 1) = 0 then (none) else (sleuthlaw45_ChangepointSizes.j1 k1 a1 a2 t694 x9_1 x10_1 (t707 != (wrap64 (Int.tdiv (wrap64 ((ji13) * 1000000)) (mx (mx ((rd_T41 t694 x10_1).f1) (wrap64 (-((rd_T41 t694 x10_1).f1)))) 1)))) x698000_1 x698001_1 x698002_1))) else (sleuthlaw45_ChangepointSizes.j1 k1 a1 a2 t694 x9_1 x10_1 true x698000_1 x698001_1 x698002_1)))) = some r := by first | (rw [hji13] at H; exact H) | (simp only [hji13] at H ⊢; exact H)
   have hji13_ : (if (wrap64 (((rd_T41 t694 x10_1).f2) - ((rd_T41 t694 x10_1).f1))) < (wrap64 (-(wrap64 (((rd_T41 t694 x10_1).f2) - ((rd_T41 t694 x10_1).f1))))) then (wrap64 (-(wrap64 (((rd_T41 t694 x10_1).f2) - ((rd_T41 t694 x10_1).f1))))) else (wrap64 (((rd_T41 t694 x10_1).f2) - ((rd_T41 t694 x10_1).f1)))) = ji13 := hji13
   obtain ⟨ji14, hji14⟩ : ∃ j_ : Int, (mx ((rd_T41 t694 x10_1).f1) (wrap64 (-((rd_T41 t694 x10_1).f1)))) = j_ := ⟨_, rfl⟩
   replace H : ((changepoint_Direction.f ((rd_T41 t694 x10_1).f0) ((rd_T41 t694 x10_1).f1) ((rd_T41 t694 x10_1).f2)).bind fun t703 => ((sleuthlaw45_direction.f ((rd_T41 t694 x10_1).f0) ((rd_T41 t694 x10_1).f1) ((rd_T41 t694 x10_1).f2)).bind fun t705 => (if t703 = t705 then ((changepoint_Relative.f ((rd_T41 t694 x10_1).f0) ((rd_T41 t694 x10_1).f1) ((rd_T41 t694 x10_1).f2)).bind fun t707 => (if (mx (ji14) 1) = 0 then (none) else (sleuthlaw45_ChangepointSizes.j1 k1 a1 a2 t694 x9_1 x10_1 (t707 != (wrap64 (Int.tdiv (wrap64 ((ji13) * 1000000)) (mx (ji14) 1)))) x698000_1 x698001_1 x698002_1))) else (sleuthlaw45_ChangepointSizes.j1 k1 a1 a2 t694 x9_1 x10_1 true x698000_1 x698001_1 x698002_1)))) = some r := by first | (rw [hji14] at H; exact H) | (simp only [hji14] at H ⊢; exact H)
   have hji14_ : (if ((rd_T41 t694 x10_1).f1) < (wrap64 (-((rd_T41 t694 x10_1).f1))) then (wrap64 (-((rd_T41 t694 x10_1).f1))) else ((rd_T41 t694 x10_1).f1)) = ji14 := hji14
   obtain ⟨ji15, hji15⟩ : ∃ j_ : Int, (mx (ji14) 1) = j_ := ⟨_, rfl⟩
   replace H : ((changepoint_Direction.f ((rd_T41 t694 x10_1).f0) ((rd_T41 t694 x10_1).f1) ((rd_T41 t694 x10_1).f2)).bind fun t703 => ((sleuthlaw45_direction.f ((rd_T41 t694 x10_1).f0) ((rd_T41 t694 x10_1).f1) ((rd_T41 t694 x10_1).f2)).bind fun t705 => (if t703 = t705 then ((changepoint_Relative.f ((rd_T41 t694 x10_1).f0) ((rd_T41 t694 x10_1).f1) ((rd_T41 t694 x10_1).f2)).bind fun t707 => (if (ji15) = 0 then (none) else (sleuthlaw45_ChangepointSizes.j1 k1 a1 a2 t694 x9_1 x10_1 (t707 != (wrap64 (Int.tdiv (wrap64 ((ji13) * 1000000)) (ji15)))) x698000_1 x698001_1 x698002_1))) else (sleuthlaw45_ChangepointSizes.j1 k1 a1 a2 t694 x9_1 x10_1 true x698000_1 x698001_1 x698002_1)))) = some r := by first | (rw [hji15] at H; exact H) | (simp only [hji15] at H ⊢; exact H)
   have hji15_ : (if (ji14) < 1 then 1 else (ji14)) = ji15 := hji15
   have HC16 := Aside0.mk H
   clear H
   obtain ⟨Ao17, co17, eo17⟩ := Kd.R_slice HO_7.out
   subst eo17
   try go_wp2
   have n0_ := Aside0.mk (Kd.R_drew HO_7.out)
   have n1_ := Aside0.mk (blk_drew BK697.out)
   have n2_ := Aside0.mk (below_drew1 HB.out)
   clear HO_7
   clear BK697
   clear HB
   have HO_7 := n0_
   have BK697 := n1_
   have HB := n2_
   clear n0_ n1_ n2_
   have p698 : 0 ≤ (x10_1 : Int) := of_decide_eq_true qgsleuthlaw45changepointsizes_7
   have q698 : x10_1 < (t694.length : Int) := of_decide_eq_true qgsleuthlaw45changepointsizes_7
   obtain ⟨ad698, e698, hx698_0, hx698_1, hx698_2⟩ := at_T41 (Kd.R_reads' HO_7.out).2.2 x10_1 p698 q698
   cases e698
   replace p698 := eq_true p698
   replace q698 := eq_true q698
   have p699 : 0 ≤ (x10_1 : Int) := of_decide_eq_true qgsleuthlaw45changepointsizes_7
   have q699 : x10_1 < (t694.length : Int) := of_decide_eq_true qgsleuthlaw45changepointsizes_7
   obtain ⟨ad699, e699, hx699_0, hx699_1, hx699_2⟩ := at_T41 (Kd.R_reads' HO_7.out).2.2 x10_1 p699 q699
   obtain rfl : ad698 = ad699 := (by injection e699)
   replace p699 := eq_true p699
   replace q699 := eq_true q699
   refine start_ (n := 12) (S := fun w' => w'.cell? (ad698.add ((x10_1).toNat * 3)) = some (.int .i64 ((rd_T41 t694 x10_1).f0)) ∧ w'.cell? ⟨(ad698.add ((x10_1).toNat * 3)).block, (ad698.add ((x10_1).toNat * 3)).off + 1, none⟩ = some (.int .i64 ((rd_T41 t694 x10_1).f1)) ∧ w'.cell? ⟨(ad698.add ((x10_1).toNat * 3)).block, (ad698.add ((x10_1).toNat * 3)).off + 2, none⟩ = some (.int .i64 ((rd_T41 t694 x10_1).f2)) ∧ w'.cell? (ad698.add ((x10_1).toNat * 3)) = some (.int .i64 ((rd_T41 t694 x10_1).f0)) ∧ w'.cell? ⟨(ad698.add ((x10_1).toNat * 3)).block, (ad698.add ((x10_1).toNat * 3)).off + 1, none⟩ = some (.int .i64 ((rd_T41 t694 x10_1).f1)) ∧ w'.cell? ⟨(ad698.add ((x10_1).toNat * 3)).block, (ad698.add ((x10_1).toNat * 3)).off + 2, none⟩ = some (.int .i64 ((rd_T41 t694 x10_1).f2))) (ds := []) A99995_0 (by kernel_rfl) rfl rfl ⟨hx698_0, hx698_1, hx698_2, hx699_0, hx699_1, hx699_2⟩ (fun hHeld => ?_); refine with_tabW sleuthlaw45_ChangepointSizes.tab8 sleuthlaw45_ChangepointSizes.bits8 (fun HT_ HW_ => ?_)
   generalize wr.drew = w18 at HO_7 BK697 HB hx698_0 hx698_1 hx698_2 hx699_0 hx699_1 hx699_2 hHeld ⊢
   refine pA_ 0 32 A99995_1 HT_ ?_
   refine pA_ 1 33 A99995_2 HT_ ?_
   refine pA_ 2 34 A99995_3 HT_ ?_
   refine pA_ 3 35 A99995_4 HT_ ?_
   refine pA_ 5 37 A99995_5 HT_ ?_
   refine pA_ 6 38 A99995_6 HT_ ?_
   refine pA_ 7 39 A99995_7 HT_ ?_
   refine pA_ 8 40 A99995_8 HT_ ?_
   refine take_ (i := 4) (N := some 36) (v := ?_) (a' := ?_) A99995_9 rfl rfl (take_ofW HT_.out HW_.out (by kernel_rfl)) (fun _ _ _ h => h) (Or.inl ⟨by rfl, ?_⟩) hHeld ?_ ?_
   rotate_left
   ·rintro w' ⟨s0, s1, s2, s3, s4, s5⟩
    go_simp
    with_reducible rfl
   rotate_left
   ·simp only [Act.put, List.setIfInBounds_toArray, List.set_cons_zero, List.set_cons_succ, i64_w, i32_w]
    rfl
   refine take_ (i := 9) (N := some 41) (v := ?_) (a' := ?_) A99995_10 rfl rfl (take_ofW HT_.out HW_.out (by kernel_rfl)) (fun _ _ _ h => h) (Or.inl ⟨by rfl, ?_⟩) hHeld ?_ ?_
   rotate_left
   ·rintro w' ⟨s0, s1, s2, s3, s4, s5⟩
    go_simp
    with_reducible rfl
   rotate_left
   ·simp only [Act.put, List.setIfInBounds_toArray, List.set_cons_zero, List.set_cons_succ, i64_w, i32_w]
    rfl
   refine pA_ 10 42 A99995_11 HT_ ?_
   refine pA_ 11 11 A99995_12 HT_ ?_
   refine done_ (done_of HT_.out (by kernel_rfl)) ?_
   try go_wp2
   have n0_ := Aside0.mk (Kd.R_drew HO_7.out)
   have n1_ := Aside0.mk (blk_drew BK697.out)
   have n2_ := Aside0.mk (below_drew1 HB.out)
   clear HO_7
   clear BK697
   clear HB
   have HO_7 := n0_
   have BK697 := n1_
   have HB := n2_
   clear n0_ n1_ n2_
   have p700 : 0 ≤ (x10_1 : Int) := of_decide_eq_true qgsleuthlaw45changepointsizes_7
   have q700 : x10_1 < (t694.length : Int) := of_decide_eq_true qgsleuthlaw45changepointsizes_7
   obtain ⟨ad700, e700, hx700_0, hx700_1, hx700_2⟩ := at_T41 (Kd.R_reads' HO_7.out).2.2 x10_1 p700 q700
   obtain rfl : ad698 = ad700 := (by injection e700)
   replace p700 := eq_true p700
   replace q700 := eq_true q700
   have p701 : 0 ≤ (x10_1 : Int) := of_decide_eq_true qgsleuthlaw45changepointsizes_7
   have q701 : x10_1 < (t694.length : Int) := of_decide_eq_true qgsleuthlaw45changepointsizes_7
   obtain ⟨ad701, e701, hx701_0, hx701_1, hx701_2⟩ := at_T41 (Kd.R_reads' HO_7.out).2.2 x10_1 p701 q701
   obtain rfl : ad698 = ad701 := (by injection e701)
   replace p701 := eq_true p701
   replace q701 := eq_true q701
   refine start_ (n := 18) (S := fun w' => w'.cell? (ad698.add ((x10_1).toNat * 3)) = some (.int .i64 ((rd_T41 t694 x10_1).f0)) ∧ w'.cell? ⟨(ad698.add ((x10_1).toNat * 3)).block, (ad698.add ((x10_1).toNat * 3)).off + 1, none⟩ = some (.int .i64 ((rd_T41 t694 x10_1).f1)) ∧ w'.cell? ⟨(ad698.add ((x10_1).toNat * 3)).block, (ad698.add ((x10_1).toNat * 3)).off + 2, none⟩ = some (.int .i64 ((rd_T41 t694 x10_1).f2)) ∧ w'.cell? (ad698.add ((x10_1).toNat * 3)) = some (.int .i64 ((rd_T41 t694 x10_1).f0)) ∧ w'.cell? ⟨(ad698.add ((x10_1).toNat * 3)).block, (ad698.add ((x10_1).toNat * 3)).off + 1, none⟩ = some (.int .i64 ((rd_T41 t694 x10_1).f1)) ∧ w'.cell? ⟨(ad698.add ((x10_1).toNat * 3)).block, (ad698.add ((x10_1).toNat * 3)).off + 2, none⟩ = some (.int .i64 ((rd_T41 t694 x10_1).f2))) (ds := []) A99995_13 (by kernel_rfl) rfl rfl ⟨hx700_0, hx700_1, hx700_2, hx701_0, hx701_1, hx701_2⟩ (fun hHeld => ?_); refine with_tabW sleuthlaw45_ChangepointSizes.tab9 sleuthlaw45_ChangepointSizes.bits9 (fun HT_ HW_ => ?_)
   generalize w18.drew = w19 at HO_7 BK697 HB hx700_0 hx700_1 hx700_2 hx701_0 hx701_1 hx701_2 hHeld ⊢
   refine pA_ 0 43 A99995_14 HT_ ?_
   refine pA_ 1 44 A99995_15 HT_ ?_
   refine pA_ 2 45 A99995_16 HT_ ?_
   refine pA_ 3 46 A99995_17 HT_ ?_
   refine pA_ 4 47 A99995_18 HT_ ?_
   refine pA_ 5 48 A99995_19 HT_ ?_
   refine pA_ 6 49 A99995_20 HT_ ?_
   refine pA_ 7 50 A99995_21 HT_ ?_
   refine pA_ 9 52 A99995_22 HT_ ?_
   refine pA_ 10 53 A99995_23 HT_ ?_
   refine pA_ 11 54 A99995_24 HT_ ?_
   refine pA_ 12 55 A99995_25 HT_ ?_
   refine pA_ 16 12 A99995_26 HT_ ?_
   refine take_ (i := 8) (N := some 51) (v := ?_) (a' := ?_) A99995_27 rfl rfl (take_ofW HT_.out HW_.out (by kernel_rfl)) (fun _ _ _ h => h) (Or.inl ⟨by rfl, ?_⟩) hHeld ?_ ?_
   rotate_left
   ·rintro w' ⟨s0, s1, s2, s3, s4, s5⟩
    go_simp
    with_reducible rfl
   rotate_left
   ·simp only [Act.put, List.setIfInBounds_toArray, List.set_cons_zero, List.set_cons_succ, i64_w, i32_w]
    rfl
   refine take_ (i := 13) (N := some 56) (v := ?_) (a' := ?_) A99995_28 rfl rfl (take_ofW HT_.out HW_.out (by kernel_rfl)) (fun _ _ _ h => h) (Or.inl ⟨by rfl, ?_⟩) hHeld ?_ ?_
   rotate_left
   ·rintro w' ⟨s0, s1, s2, s3, s4, s5⟩
    go_simp
    with_reducible rfl
   rotate_left
   ·simp only [Act.put, List.setIfInBounds_toArray, List.set_cons_zero, List.set_cons_succ, i64_w, i32_w]
    rfl
   refine pA_ 14 57 A99995_29 HT_ ?_
   refine pA_ 15 58 A99995_30 HT_ ?_
   refine pA_ 17 13 A99995_31 HT_ ?_
   refine done_ (done_of HT_.out (by kernel_rfl)) ?_
   go_upto_region 10 with (fail)
   go_cut [81] (fun v81 wc => ∃ (kq : Nat) (x81_15 : Bool), v81 = .bool x81_15 ∧ Aside0 (sleuthlaw45_ChangepointSizes.j1 kq a1 a2 t694 x9_1 x10_1 x81_15 x698000_1 x698001_1 x698002_1 = some r) ∧ Aside0 (kq ≤ k1) ∧ Aside0 (Kd.R k41 41 wc w.heap.size (fun k_ => k_ ≠ gb697) (.slice (some ad698) t694.length co17) t694) ∧ Aside0 (wc.heap[gb697]? = some (.cells #[.int .i64 x698000_1, .int .i64 x698001_1, .int .i64 x698002_1] 41 (0, 0))) ∧ Aside0 (Below w.heap.size w wc))
   case first =>
    have H := HC16.out
    clear HC16
    replace H := Option.bind_eq_some_iff.mp H
    obtain ⟨t703, A200, H⟩ := H
    replace H : ((sleuthlaw45_direction.f ((rd_T41 t694 x10_1).f0) ((rd_T41 t694 x10_1).f1) ((rd_T41 t694 x10_1).f2)).bind fun t705 => (if t703 = t705 then ((changepoint_Relative.f ((rd_T41 t694 x10_1).f0) ((rd_T41 t694 x10_1).f1) ((rd_T41 t694 x10_1).f2)).bind fun t707 => (if (ji15) = 0 then (none) else (sleuthlaw45_ChangepointSizes.j1 k1 a1 a2 t694 x9_1 x10_1 (t707 != (wrap64 (Int.tdiv (wrap64 ((ji13) * 1000000)) (ji15)))) x698000_1 x698001_1 x698002_1))) else (sleuthlaw45_ChangepointSizes.j1 k1 a1 a2 t694 x9_1 x10_1 true x698000_1 x698001_1 x698002_1))) = some r := H
    have A20 := Aside0.mk A200
    clear A200
    replace H := Option.bind_eq_some_iff.mp H
    obtain ⟨t705, A210, H⟩ := H
    replace H : (if t703 = t705 then ((changepoint_Relative.f ((rd_T41 t694 x10_1).f0) ((rd_T41 t694 x10_1).f1) ((rd_T41 t694 x10_1).f2)).bind fun t707 => (if (ji15) = 0 then (none) else (sleuthlaw45_ChangepointSizes.j1 k1 a1 a2 t694 x9_1 x10_1 (t707 != (wrap64 (Int.tdiv (wrap64 ((ji13) * 1000000)) (ji15)))) x698000_1 x698001_1 x698002_1))) else (sleuthlaw45_ChangepointSizes.j1 k1 a1 a2 t694 x9_1 x10_1 true x698000_1 x698001_1 x698002_1)) = some r := H
    have A21 := Aside0.mk A210
    clear A210
    by_cases c22 : t703 = t705
    rotate_left
    ·rw [if_neg c22] at H
     have c22b0 : (t703 == t705) = false := beq_eq_false_iff_ne.mpr c22
     have c22b1 : (t703 != t705) = true := bne_iff_ne.mpr c22
     (first | rw [c22b0] | (simp only [i64_w, i32_w]; rw [c22b0]) | skip)
     have H' := Aside0.mk H
     clear H
     try go_wp2
     have n0_ := Aside0.mk (Kd.R_drew HO_7.out)
     have n1_ := Aside0.mk (blk_drew BK697.out)
     have n2_ := Aside0.mk (below_drew1 HB.out)
     clear HO_7
     clear BK697
     clear HB
     have HO_7 := n0_
     have BK697 := n1_
     have HB := n2_
     clear n0_ n1_ n2_
     have p702 : 0 ≤ (x10_1 : Int) := of_decide_eq_true qgsleuthlaw45changepointsizes_7
     have q702 : x10_1 < (t694.length : Int) := of_decide_eq_true qgsleuthlaw45changepointsizes_7
     obtain ⟨ad702, e702, hx702_0, hx702_1, hx702_2⟩ := at_T41 (Kd.R_reads' HO_7.out).2.2 x10_1 p702 q702
     obtain rfl : ad698 = ad702 := (by injection e702)
     replace p702 := eq_true p702
     replace q702 := eq_true q702
     have p704 : 0 ≤ (x10_1 : Int) := of_decide_eq_true qgsleuthlaw45changepointsizes_7
     have q704 : x10_1 < (t694.length : Int) := of_decide_eq_true qgsleuthlaw45changepointsizes_7
     obtain ⟨ad704, e704, hx704_0, hx704_1, hx704_2⟩ := at_T41 (Kd.R_reads' HO_7.out).2.2 x10_1 p704 q704
     obtain rfl : ad698 = ad704 := (by injection e704)
     replace p704 := eq_true p704
     replace q704 := eq_true q704
     refine start_ (n := 23) (S := fun w' => w'.cell? (ad698.add ((x10_1).toNat * 3)) = some (.int .i64 ((rd_T41 t694 x10_1).f0)) ∧ w'.cell? ⟨(ad698.add ((x10_1).toNat * 3)).block, (ad698.add ((x10_1).toNat * 3)).off + 1, none⟩ = some (.int .i64 ((rd_T41 t694 x10_1).f1)) ∧ w'.cell? ⟨(ad698.add ((x10_1).toNat * 3)).block, (ad698.add ((x10_1).toNat * 3)).off + 2, none⟩ = some (.int .i64 ((rd_T41 t694 x10_1).f2)) ∧ w'.cell? (ad698.add ((x10_1).toNat * 3)) = some (.int .i64 ((rd_T41 t694 x10_1).f0)) ∧ w'.cell? ⟨(ad698.add ((x10_1).toNat * 3)).block, (ad698.add ((x10_1).toNat * 3)).off + 1, none⟩ = some (.int .i64 ((rd_T41 t694 x10_1).f1)) ∧ w'.cell? ⟨(ad698.add ((x10_1).toNat * 3)).block, (ad698.add ((x10_1).toNat * 3)).off + 2, none⟩ = some (.int .i64 ((rd_T41 t694 x10_1).f2))) (ds := []) A99995_32 (by kernel_rfl) rfl rfl ⟨hx702_0, hx702_1, hx702_2, hx704_0, hx704_1, hx704_2⟩ (fun hHeld => ?_); refine with_tabW sleuthlaw45_ChangepointSizes.tab10 sleuthlaw45_ChangepointSizes.bits10 (fun HT_ HW_ => ?_)
     generalize w19.drew = w29 at HO_7 BK697 HB hx702_0 hx702_1 hx702_2 hx704_0 hx704_1 hx704_2 hHeld ⊢
     refine pA_ 0 59 A99995_33 HT_ ?_
     refine pA_ 1 60 A99995_34 HT_ ?_
     refine pA_ 2 61 A99995_35 HT_ ?_
     refine pA_ 5 64 A99995_36 HT_ ?_
     refine pA_ 6 65 A99995_37 HT_ ?_
     refine pA_ 7 66 A99995_38 HT_ ?_
     refine take_ (i := 3) (N := some 62) (v := ?_) (a' := ?_) A99995_39 rfl rfl (take_ofW HT_.out HW_.out (by kernel_rfl)) (fun _ _ _ h => h) (Or.inl ⟨by rfl, ?_⟩) hHeld ?_ ?_
     rotate_left
     ·rintro w' ⟨s0, s1, s2, s3, s4, s5⟩
      go_simp
      with_reducible rfl
     rotate_left
     ·simp only [Act.put, List.setIfInBounds_toArray, List.set_cons_zero, List.set_cons_succ, i64_w, i32_w]
      rfl
     refine take_ (i := 8) (N := some 67) (v := ?_) (a' := ?_) A99995_40 rfl rfl (take_ofW HT_.out HW_.out (by kernel_rfl)) (fun _ _ _ h => h) (Or.inl ⟨by rfl, ?_⟩) hHeld ?_ ?_
     rotate_left
     ·rintro w' ⟨s0, s1, s2, s3, s4, s5⟩
      go_simp
      with_reducible rfl
     rotate_left
     ·simp only [Act.put, List.setIfInBounds_toArray, List.set_cons_zero, List.set_cons_succ, i64_w, i32_w]
      rfl
     refine one_ (i := 4) (N := some 63) A99995_41 rfl rfl (one_of HT_.out (by kernel_rfl)) (by decide) (fun K hK => ?_)
     refine goes_ Try.func30 (by kernel_rfl) rfl #[.agg #[.int .i64 ((rd_T41 t694 x10_1).f0), .int .i64 ((rd_T41 t694 x10_1).f1), .int .i64 ((rd_T41 t694 x10_1).f2)]] (by rfl) rfl rfl qgsleuthlaw45changepointsizes_2 ?_
     with_reducible refine (changepoint_Direction.calls ((rd_T41 t694 x10_1).f0) ((rd_T41 t694 x10_1).f1) ((rd_T41 t694 x10_1).f2) t703 _ A20.out).mono ?_
     rintro e w30 ⟨rfl, hb⟩
     have HS0_ := (hb.cell (World.block_lt_of_cell? _ _ (hHeld.1))).trans (hHeld.1)
     have HS1_ := (hb.cell (World.block_lt_of_cell? _ _ (hHeld.2.1))).trans (hHeld.2.1)
     have HS2_ := (hb.cell (World.block_lt_of_cell? _ _ (hHeld.2.2.1))).trans (hHeld.2.2.1)
     have HS3_ := (hb.cell (World.block_lt_of_cell? _ _ (hHeld.2.2.2.1))).trans (hHeld.2.2.2.1)
     have HS4_ := (hb.cell (World.block_lt_of_cell? _ _ (hHeld.2.2.2.2.1))).trans (hHeld.2.2.2.2.1)
     have HS5_ := (hb.cell (World.block_lt_of_cell? _ _ (hHeld.2.2.2.2.2))).trans (hHeld.2.2.2.2.2)
     refine ⟨_, rfl, ?_⟩
     have n0_ := Aside0.mk (Kd.R_below qgsleuthlaw45changepointsizes_3 hb)
     have n1_ := Aside0.mk (blk_below (g := gb697) (o := .cells #[.int .i64 x698000_1, .int .i64 x698001_1, .int .i64 x698002_1] 41 (0, 0)) qgsleuthlaw45changepointsizes_1 hb)
     have n2_ := Aside0.mk (below_step qgsleuthlaw45changepointsizes_5 hb)
     clear HO_7
     clear BK697
     clear HB
     have HO_7 := n0_
     have BK697 := n1_
     have HB := n2_
     clear n0_ n1_ n2_
     (try clear hb)
     (try clear hb2)
     (try clear hk)
     (try clear hi)
     refine hK.out _ _ ⟨HS0_, HS1_, HS2_, HS3_, HS4_, HS5_⟩ (fun hHeld => ?_)
     clear hK K
     refine norm_ (a' := ?_) ?_ ?_
     rotate_left
     ·show Act.put _ (some 63) _ = _
      simp only [Act.put, List.setIfInBounds_toArray, List.set_cons_zero, List.set_cons_succ, i64_w, i32_w]
      rfl
     refine one_ (i := 9) (N := some 68) A99995_42 rfl rfl (one_of HT_.out (by kernel_rfl)) (by decide) (fun K hK => ?_)
     refine goes_ Try.func25 (by kernel_rfl) rfl #[.agg #[.int .i64 ((rd_T41 t694 x10_1).f0), .int .i64 ((rd_T41 t694 x10_1).f1), .int .i64 ((rd_T41 t694 x10_1).f2)]] (by rfl) rfl rfl qgsleuthlaw45changepointsizes_2 ?_
     with_reducible refine (sleuthlaw45_direction.calls ((rd_T41 t694 x10_1).f0) ((rd_T41 t694 x10_1).f1) ((rd_T41 t694 x10_1).f2) t705 _ A21.out).mono ?_
     rintro e w31 ⟨rfl, hb⟩
     have HS0_ := (hb.cell (World.block_lt_of_cell? _ _ (hHeld.1))).trans (hHeld.1)
     have HS1_ := (hb.cell (World.block_lt_of_cell? _ _ (hHeld.2.1))).trans (hHeld.2.1)
     have HS2_ := (hb.cell (World.block_lt_of_cell? _ _ (hHeld.2.2.1))).trans (hHeld.2.2.1)
     have HS3_ := (hb.cell (World.block_lt_of_cell? _ _ (hHeld.2.2.2.1))).trans (hHeld.2.2.2.1)
     have HS4_ := (hb.cell (World.block_lt_of_cell? _ _ (hHeld.2.2.2.2.1))).trans (hHeld.2.2.2.2.1)
     have HS5_ := (hb.cell (World.block_lt_of_cell? _ _ (hHeld.2.2.2.2.2))).trans (hHeld.2.2.2.2.2)
     refine ⟨_, rfl, ?_⟩
     have n0_ := Aside0.mk (Kd.R_below qgsleuthlaw45changepointsizes_3 hb)
     have n1_ := Aside0.mk (blk_below (g := gb697) (o := .cells #[.int .i64 x698000_1, .int .i64 x698001_1, .int .i64 x698002_1] 41 (0, 0)) qgsleuthlaw45changepointsizes_1 hb)
     have n2_ := Aside0.mk (below_step qgsleuthlaw45changepointsizes_5 hb)
     clear HO_7
     clear BK697
     clear HB
     have HO_7 := n0_
     have BK697 := n1_
     have HB := n2_
     clear n0_ n1_ n2_
     (try clear hb)
     (try clear hb2)
     (try clear hk)
     (try clear hi)
     refine hK.out _ _ ⟨HS0_, HS1_, HS2_, HS3_, HS4_, HS5_⟩ (fun hHeld => ?_)
     clear hK K
     refine norm_ (a' := ?_) ?_ ?_
     rotate_left
     ·show Act.put _ (some 68) _ = _
      simp only [Act.put, List.setIfInBounds_toArray, List.set_cons_zero, List.set_cons_succ, i64_w, i32_w]
      rfl
     refine pA_ 10 69 A99995_43 HT_ ?_
     refine pA_ 11 70 A99995_44 HT_ ?_
     refine pB_ 12 71 A99995_45 HT_ ?_
     refine pB_ 13 72 A99995_46 HT_ ?_
     refine pB_ 14 73 A99995_47 HT_ ?_
     refine pB_ 15 74 A99995_48 HT_ ?_
     refine pB_ 16 75 A99995_49 HT_ ?_
     refine pB_ 17 76 A99995_50 HT_ ?_
     refine pB_ 18 77 A99995_51 HT_ ?_
     refine pB_ 19 78 A99995_52 HT_ ?_
     refine pB_ 20 79 A99995_53 HT_ ?_
     refine pB_ 21 80 A99995_54 HT_ ?_
     refine pA_ 22 81 A99995_55 HT_ ?_
     refine done_ (done_of HT_.out (by kernel_rfl)) ?_
     try go_wp2
     go_meet
     case rel => exact ⟨_, (true), qgsleuthlaw45changepointsizes_11, H', ⟨by have := HK1.out; first | omega | exact Nat.le_refl _⟩, ⟨qgsleuthlaw45changepointsizes_3⟩, ⟨qgsleuthlaw45changepointsizes_1⟩, ⟨qgsleuthlaw45changepointsizes_5⟩⟩
    rw [if_pos c22] at H
    have c22b0 : (t703 == t705) = true := beq_iff_eq.mpr c22
    have c22b1 : (t703 != t705) = false := bne_eq_false_iff_eq.mpr c22
    clear c22
    (first | rw [c22b0] | (simp only [i64_w, i32_w]; rw [c22b0]) | skip)
    replace H := Option.bind_eq_some_iff.mp H
    obtain ⟨t707, A230, H⟩ := H
    replace H : (if (ji15) = 0 then (none) else (sleuthlaw45_ChangepointSizes.j1 k1 a1 a2 t694 x9_1 x10_1 (t707 != (wrap64 (Int.tdiv (wrap64 ((ji13) * 1000000)) (ji15)))) x698000_1 x698001_1 x698002_1)) = some r := H
    have A23 := Aside0.mk A230
    clear A230
    by_cases c24 : (ji15) = 0
    ·rw [if_pos c24] at H
     exact absurd H (by simp)
    rw [if_neg c24] at H
    have c24b0 : ((ji15) == 0) = false := beq_eq_false_iff_ne.mpr c24
    have c24b1 : ((ji15) != 0) = true := bne_iff_ne.mpr c24
    have H' := Aside0.mk H
    clear H
    try go_wp2
    have n0_ := Aside0.mk (Kd.R_drew HO_7.out)
    have n1_ := Aside0.mk (blk_drew BK697.out)
    have n2_ := Aside0.mk (below_drew1 HB.out)
    clear HO_7
    clear BK697
    clear HB
    have HO_7 := n0_
    have BK697 := n1_
    have HB := n2_
    clear n0_ n1_ n2_
    have p702 : 0 ≤ (x10_1 : Int) := of_decide_eq_true qgsleuthlaw45changepointsizes_7
    have q702 : x10_1 < (t694.length : Int) := of_decide_eq_true qgsleuthlaw45changepointsizes_7
    obtain ⟨ad702, e702, hx702_0, hx702_1, hx702_2⟩ := at_T41 (Kd.R_reads' HO_7.out).2.2 x10_1 p702 q702
    obtain rfl : ad698 = ad702 := (by injection e702)
    replace p702 := eq_true p702
    replace q702 := eq_true q702
    have p704 : 0 ≤ (x10_1 : Int) := of_decide_eq_true qgsleuthlaw45changepointsizes_7
    have q704 : x10_1 < (t694.length : Int) := of_decide_eq_true qgsleuthlaw45changepointsizes_7
    obtain ⟨ad704, e704, hx704_0, hx704_1, hx704_2⟩ := at_T41 (Kd.R_reads' HO_7.out).2.2 x10_1 p704 q704
    obtain rfl : ad698 = ad704 := (by injection e704)
    replace p704 := eq_true p704
    replace q704 := eq_true q704
    have p706 : 0 ≤ (x10_1 : Int) := of_decide_eq_true qgsleuthlaw45changepointsizes_7
    have q706 : x10_1 < (t694.length : Int) := of_decide_eq_true qgsleuthlaw45changepointsizes_7
    obtain ⟨ad706, e706, hx706_0, hx706_1, hx706_2⟩ := at_T41 (Kd.R_reads' HO_7.out).2.2 x10_1 p706 q706
    obtain rfl : ad698 = ad706 := (by injection e706)
    replace p706 := eq_true p706
    replace q706 := eq_true q706
    refine start_ (n := 23) (S := fun w' => w'.cell? (ad698.add ((x10_1).toNat * 3)) = some (.int .i64 ((rd_T41 t694 x10_1).f0)) ∧ w'.cell? ⟨(ad698.add ((x10_1).toNat * 3)).block, (ad698.add ((x10_1).toNat * 3)).off + 1, none⟩ = some (.int .i64 ((rd_T41 t694 x10_1).f1)) ∧ w'.cell? ⟨(ad698.add ((x10_1).toNat * 3)).block, (ad698.add ((x10_1).toNat * 3)).off + 2, none⟩ = some (.int .i64 ((rd_T41 t694 x10_1).f2)) ∧ w'.cell? (ad698.add ((x10_1).toNat * 3)) = some (.int .i64 ((rd_T41 t694 x10_1).f0)) ∧ w'.cell? ⟨(ad698.add ((x10_1).toNat * 3)).block, (ad698.add ((x10_1).toNat * 3)).off + 1, none⟩ = some (.int .i64 ((rd_T41 t694 x10_1).f1)) ∧ w'.cell? ⟨(ad698.add ((x10_1).toNat * 3)).block, (ad698.add ((x10_1).toNat * 3)).off + 2, none⟩ = some (.int .i64 ((rd_T41 t694 x10_1).f2)) ∧ w'.cell? (ad698.add ((x10_1).toNat * 3)) = some (.int .i64 ((rd_T41 t694 x10_1).f0)) ∧ w'.cell? ⟨(ad698.add ((x10_1).toNat * 3)).block, (ad698.add ((x10_1).toNat * 3)).off + 1, none⟩ = some (.int .i64 ((rd_T41 t694 x10_1).f1)) ∧ w'.cell? ⟨(ad698.add ((x10_1).toNat * 3)).block, (ad698.add ((x10_1).toNat * 3)).off + 2, none⟩ = some (.int .i64 ((rd_T41 t694 x10_1).f2))) (ds := []) A99995_32 (by kernel_rfl) rfl rfl ⟨hx702_0, hx702_1, hx702_2, hx704_0, hx704_1, hx704_2, hx706_0, hx706_1, hx706_2⟩ (fun hHeld => ?_); refine with_tabW sleuthlaw45_ChangepointSizes.tab10 sleuthlaw45_ChangepointSizes.bits10 (fun HT_ HW_ => ?_)
    generalize w19.drew = w25 at HO_7 BK697 HB hx702_0 hx702_1 hx702_2 hx704_0 hx704_1 hx704_2 hx706_0 hx706_1 hx706_2 hHeld ⊢
    refine pA_ 0 59 A99995_33 HT_ ?_
    refine pA_ 1 60 A99995_34 HT_ ?_
    refine pA_ 2 61 A99995_35 HT_ ?_
    refine pA_ 5 64 A99995_36 HT_ ?_
    refine pA_ 6 65 A99995_37 HT_ ?_
    refine pA_ 7 66 A99995_38 HT_ ?_
    refine take_ (i := 3) (N := some 62) (v := ?_) (a' := ?_) A99995_39 rfl rfl (take_ofW HT_.out HW_.out (by kernel_rfl)) (fun _ _ _ h => h) (Or.inl ⟨by rfl, ?_⟩) hHeld ?_ ?_
    rotate_left
    ·rintro w' ⟨s0, s1, s2, s3, s4, s5, s6, s7, s8⟩
     go_simp
     with_reducible rfl
    rotate_left
    ·simp only [Act.put, List.setIfInBounds_toArray, List.set_cons_zero, List.set_cons_succ, i64_w, i32_w]
     rfl
    refine take_ (i := 8) (N := some 67) (v := ?_) (a' := ?_) A99995_40 rfl rfl (take_ofW HT_.out HW_.out (by kernel_rfl)) (fun _ _ _ h => h) (Or.inl ⟨by rfl, ?_⟩) hHeld ?_ ?_
    rotate_left
    ·rintro w' ⟨s0, s1, s2, s3, s4, s5, s6, s7, s8⟩
     go_simp
     with_reducible rfl
    rotate_left
    ·simp only [Act.put, List.setIfInBounds_toArray, List.set_cons_zero, List.set_cons_succ, i64_w, i32_w]
     rfl
    refine one_ (i := 4) (N := some 63) A99995_41 rfl rfl (one_of HT_.out (by kernel_rfl)) (by decide) (fun K hK => ?_)
    refine goes_ Try.func30 (by kernel_rfl) rfl #[.agg #[.int .i64 ((rd_T41 t694 x10_1).f0), .int .i64 ((rd_T41 t694 x10_1).f1), .int .i64 ((rd_T41 t694 x10_1).f2)]] (by rfl) rfl rfl qgsleuthlaw45changepointsizes_2 ?_
    with_reducible refine (changepoint_Direction.calls ((rd_T41 t694 x10_1).f0) ((rd_T41 t694 x10_1).f1) ((rd_T41 t694 x10_1).f2) t703 _ A20.out).mono ?_
    rintro e w26 ⟨rfl, hb⟩
    have HS0_ := (hb.cell (World.block_lt_of_cell? _ _ (hHeld.1))).trans (hHeld.1)
    have HS1_ := (hb.cell (World.block_lt_of_cell? _ _ (hHeld.2.1))).trans (hHeld.2.1)
    have HS2_ := (hb.cell (World.block_lt_of_cell? _ _ (hHeld.2.2.1))).trans (hHeld.2.2.1)
    have HS3_ := (hb.cell (World.block_lt_of_cell? _ _ (hHeld.2.2.2.1))).trans (hHeld.2.2.2.1)
    have HS4_ := (hb.cell (World.block_lt_of_cell? _ _ (hHeld.2.2.2.2.1))).trans (hHeld.2.2.2.2.1)
    have HS5_ := (hb.cell (World.block_lt_of_cell? _ _ (hHeld.2.2.2.2.2.1))).trans (hHeld.2.2.2.2.2.1)
    have HS6_ := (hb.cell (World.block_lt_of_cell? _ _ (hHeld.2.2.2.2.2.2.1))).trans (hHeld.2.2.2.2.2.2.1)
    have HS7_ := (hb.cell (World.block_lt_of_cell? _ _ (hHeld.2.2.2.2.2.2.2.1))).trans (hHeld.2.2.2.2.2.2.2.1)
    have HS8_ := (hb.cell (World.block_lt_of_cell? _ _ (hHeld.2.2.2.2.2.2.2.2))).trans (hHeld.2.2.2.2.2.2.2.2)
    refine ⟨_, rfl, ?_⟩
    have n0_ := Aside0.mk (Kd.R_below qgsleuthlaw45changepointsizes_3 hb)
    have n1_ := Aside0.mk (blk_below (g := gb697) (o := .cells #[.int .i64 x698000_1, .int .i64 x698001_1, .int .i64 x698002_1] 41 (0, 0)) qgsleuthlaw45changepointsizes_1 hb)
    have n2_ := Aside0.mk (below_step qgsleuthlaw45changepointsizes_5 hb)
    clear HO_7
    clear BK697
    clear HB
    have HO_7 := n0_
    have BK697 := n1_
    have HB := n2_
    clear n0_ n1_ n2_
    (try clear hb)
    (try clear hb2)
    (try clear hk)
    (try clear hi)
    refine hK.out _ _ ⟨HS0_, HS1_, HS2_, HS3_, HS4_, HS5_, HS6_, HS7_, HS8_⟩ (fun hHeld => ?_)
    clear hK K
    refine norm_ (a' := ?_) ?_ ?_
    rotate_left
    ·show Act.put _ (some 63) _ = _
     simp only [Act.put, List.setIfInBounds_toArray, List.set_cons_zero, List.set_cons_succ, i64_w, i32_w]
     rfl
    refine one_ (i := 9) (N := some 68) A99995_42 rfl rfl (one_of HT_.out (by kernel_rfl)) (by decide) (fun K hK => ?_)
    refine goes_ Try.func25 (by kernel_rfl) rfl #[.agg #[.int .i64 ((rd_T41 t694 x10_1).f0), .int .i64 ((rd_T41 t694 x10_1).f1), .int .i64 ((rd_T41 t694 x10_1).f2)]] (by rfl) rfl rfl qgsleuthlaw45changepointsizes_2 ?_
    with_reducible refine (sleuthlaw45_direction.calls ((rd_T41 t694 x10_1).f0) ((rd_T41 t694 x10_1).f1) ((rd_T41 t694 x10_1).f2) t705 _ A21.out).mono ?_
    rintro e w27 ⟨rfl, hb⟩
    have HS0_ := (hb.cell (World.block_lt_of_cell? _ _ (hHeld.1))).trans (hHeld.1)
    have HS1_ := (hb.cell (World.block_lt_of_cell? _ _ (hHeld.2.1))).trans (hHeld.2.1)
    have HS2_ := (hb.cell (World.block_lt_of_cell? _ _ (hHeld.2.2.1))).trans (hHeld.2.2.1)
    have HS3_ := (hb.cell (World.block_lt_of_cell? _ _ (hHeld.2.2.2.1))).trans (hHeld.2.2.2.1)
    have HS4_ := (hb.cell (World.block_lt_of_cell? _ _ (hHeld.2.2.2.2.1))).trans (hHeld.2.2.2.2.1)
    have HS5_ := (hb.cell (World.block_lt_of_cell? _ _ (hHeld.2.2.2.2.2.1))).trans (hHeld.2.2.2.2.2.1)
    have HS6_ := (hb.cell (World.block_lt_of_cell? _ _ (hHeld.2.2.2.2.2.2.1))).trans (hHeld.2.2.2.2.2.2.1)
    have HS7_ := (hb.cell (World.block_lt_of_cell? _ _ (hHeld.2.2.2.2.2.2.2.1))).trans (hHeld.2.2.2.2.2.2.2.1)
    have HS8_ := (hb.cell (World.block_lt_of_cell? _ _ (hHeld.2.2.2.2.2.2.2.2))).trans (hHeld.2.2.2.2.2.2.2.2)
    refine ⟨_, rfl, ?_⟩
    have n0_ := Aside0.mk (Kd.R_below qgsleuthlaw45changepointsizes_3 hb)
    have n1_ := Aside0.mk (blk_below (g := gb697) (o := .cells #[.int .i64 x698000_1, .int .i64 x698001_1, .int .i64 x698002_1] 41 (0, 0)) qgsleuthlaw45changepointsizes_1 hb)
    have n2_ := Aside0.mk (below_step qgsleuthlaw45changepointsizes_5 hb)
    clear HO_7
    clear BK697
    clear HB
    have HO_7 := n0_
    have BK697 := n1_
    have HB := n2_
    clear n0_ n1_ n2_
    (try clear hb)
    (try clear hb2)
    (try clear hk)
    (try clear hi)
    refine hK.out _ _ ⟨HS0_, HS1_, HS2_, HS3_, HS4_, HS5_, HS6_, HS7_, HS8_⟩ (fun hHeld => ?_)
    clear hK K
    refine norm_ (a' := ?_) ?_ ?_
    rotate_left
    ·show Act.put _ (some 68) _ = _
     simp only [Act.put, List.setIfInBounds_toArray, List.set_cons_zero, List.set_cons_succ, i64_w, i32_w]
     rfl
    refine pA_ 10 69 A99995_43 HT_ ?_
    refine pA_ 11 70 A99995_44 HT_ ?_
    refine pA_ 12 71 A99995_45 HT_ ?_
    refine pA_ 13 72 A99995_46 HT_ ?_
    refine pA_ 14 73 A99995_47 HT_ ?_
    refine pA_ 17 76 A99995_56 HT_ ?_
    refine pA_ 18 77 A99995_57 HT_ ?_
    refine pA_ 19 78 A99995_58 HT_ ?_
    refine pA_ 20 79 A99995_59 HT_ ?_
    refine take_ (i := 15) (N := some 74) (v := ?_) (a' := ?_) A99995_60 rfl rfl (take_ofW HT_.out HW_.out (by kernel_rfl)) (fun _ _ _ h => h) (Or.inl ⟨by rfl, ?_⟩) hHeld ?_ ?_
    rotate_left
    ·rintro w' ⟨s0, s1, s2, s3, s4, s5, s6, s7, s8⟩
     go_simp
     with_reducible rfl
    rotate_left
    ·simp only [Act.put, List.setIfInBounds_toArray, List.set_cons_zero, List.set_cons_succ, i64_w, i32_w]
     rfl
    refine one_ (i := 16) (N := some 75) A99995_53 rfl rfl (one_of HT_.out (by kernel_rfl)) (by decide) (fun K hK => ?_)
    refine goes_ Try.func31 (by kernel_rfl) rfl #[.agg #[.int .i64 ((rd_T41 t694 x10_1).f0), .int .i64 ((rd_T41 t694 x10_1).f1), .int .i64 ((rd_T41 t694 x10_1).f2)]] (by rfl) rfl rfl qgsleuthlaw45changepointsizes_2 ?_
    with_reducible refine (changepoint_Relative.calls ((rd_T41 t694 x10_1).f0) ((rd_T41 t694 x10_1).f1) ((rd_T41 t694 x10_1).f2) t707 _ A23.out).mono ?_
    rintro e w28 ⟨rfl, hb⟩
    have HS0_ := (hb.cell (World.block_lt_of_cell? _ _ (hHeld.1))).trans (hHeld.1)
    have HS1_ := (hb.cell (World.block_lt_of_cell? _ _ (hHeld.2.1))).trans (hHeld.2.1)
    have HS2_ := (hb.cell (World.block_lt_of_cell? _ _ (hHeld.2.2.1))).trans (hHeld.2.2.1)
    have HS3_ := (hb.cell (World.block_lt_of_cell? _ _ (hHeld.2.2.2.1))).trans (hHeld.2.2.2.1)
    have HS4_ := (hb.cell (World.block_lt_of_cell? _ _ (hHeld.2.2.2.2.1))).trans (hHeld.2.2.2.2.1)
    have HS5_ := (hb.cell (World.block_lt_of_cell? _ _ (hHeld.2.2.2.2.2.1))).trans (hHeld.2.2.2.2.2.1)
    have HS6_ := (hb.cell (World.block_lt_of_cell? _ _ (hHeld.2.2.2.2.2.2.1))).trans (hHeld.2.2.2.2.2.2.1)
    have HS7_ := (hb.cell (World.block_lt_of_cell? _ _ (hHeld.2.2.2.2.2.2.2.1))).trans (hHeld.2.2.2.2.2.2.2.1)
    have HS8_ := (hb.cell (World.block_lt_of_cell? _ _ (hHeld.2.2.2.2.2.2.2.2))).trans (hHeld.2.2.2.2.2.2.2.2)
    refine ⟨_, rfl, ?_⟩
    have n0_ := Aside0.mk (Kd.R_below qgsleuthlaw45changepointsizes_3 hb)
    have n1_ := Aside0.mk (blk_below (g := gb697) (o := .cells #[.int .i64 x698000_1, .int .i64 x698001_1, .int .i64 x698002_1] 41 (0, 0)) qgsleuthlaw45changepointsizes_1 hb)
    have n2_ := Aside0.mk (below_step qgsleuthlaw45changepointsizes_5 hb)
    clear HO_7
    clear BK697
    clear HB
    have HO_7 := n0_
    have BK697 := n1_
    have HB := n2_
    clear n0_ n1_ n2_
    (try clear hb)
    (try clear hb2)
    (try clear hk)
    (try clear hi)
    refine hK.out _ _ ⟨HS0_, HS1_, HS2_, HS3_, HS4_, HS5_, HS6_, HS7_, HS8_⟩ (fun hHeld => ?_)
    clear hK K
    refine norm_ (a' := ?_) ?_ ?_
    rotate_left
    ·show Act.put _ (some 75) _ = _
     simp only [Act.put, List.setIfInBounds_toArray, List.set_cons_zero, List.set_cons_succ, i64_w, i32_w]
     rfl
    refine pA_ 21 80 A99995_54 HT_ ?_
    refine pA_ 22 81 A99995_55 HT_ ?_
    refine done_ (done_of HT_.out (by kernel_rfl)) ?_
    try go_wp2
    go_meet
    case rel => exact ⟨_, ((t707 != (wrap64 (Int.tdiv (wrap64 ((ji13) * 1000000)) (ji15))))), (by first | rfl | (simp; done) | (simp only [← hji13, ← hji15] <;> (first | rfl | simp)) | (simp [*]; done)), H', ⟨by have := HK1.out; first | omega | exact Nat.le_refl _⟩, ⟨qgsleuthlaw45changepointsizes_3⟩, ⟨qgsleuthlaw45changepointsizes_1⟩, ⟨qgsleuthlaw45changepointsizes_5⟩⟩
   clear HC16
   try clear c2
   try clear p2
   try clear c3
   try clear p6
   try clear p7
   try clear q7
   try clear hx7
   try clear c22
   try clear c22b0
   try clear c22b1
   try clear c24
   try clear c24b0
   try clear c24b1
   try clear c25
   try clear c30
   try clear c31
   try clear hx702_0
   try clear hx702_1
   try clear hx702_2
   try clear hx704_0
   try clear hx704_1
   try clear hx704_2
   try clear hx706_0
   try clear hx706_1
   try clear hx706_2
   try clear p702
   try clear p704
   try clear p706
   try clear q702
   try clear q704
   try clear q706
   obtain ⟨kq, x81_15, rfl, HA, HJ15, HO_7, BK697, HB⟩ := hcut
   cases kq with
   | zero => exact absurd HA.out (by simp [sleuthlaw45_ChangepointSizes.j1])
   | succ kj15 =>
    have H := HA.out
    clear HA
    simp only [sleuthlaw45_ChangepointSizes.j1] at H
    by_cases c32 : x81_15 = true
    ·subst c32
     have H1 : (some false) = some r := by rw [if_pos rfl] at H; exact H
     clear H
     have H := H1
     clear H1
     obtain rfl := Option.some.inj H
     go_wp2
     go_ret
     exact ⟨by first | rfl | (simp [errW_none, errW_some] <;> rfl) | (simp only [← hji13, ← hji14, ← hji15]; first | rfl | (simp [errW_none, errW_some] <;> rfl)) | (simp [*, errW_none, errW_some] <;> rfl), qgsleuthlaw45changepointsizes_5⟩
    replace c32 := Bool.eq_false_iff.mpr c32
    subst c32
    have H1 : (if 0 ≤ x10_1 then (if x10_1 < (t694.length : Int) then (if ((rd_T41 t694 x10_1).f0) ≤ a1 then (sleuthlaw45_ChangepointSizes.l0 kj15 a1 a2 t694 true (wrap64 (x10_1 + 1)) ((rd_T41 t694 x10_1).f0) ((rd_T41 t694 x10_1).f1) ((rd_T41 t694 x10_1).f2)) else (sleuthlaw45_ChangepointSizes.l0 kj15 a1 a2 t694 x9_1 (wrap64 (x10_1 + 1)) x698000_1 x698001_1 x698002_1)) else (none)) else (none)) = some r := by rw [if_neg (show ¬ (false = true) by decide)] at H; exact H
    clear H
    have H := H1
    clear H1
    by_cases c33 : 0 ≤ x10_1
    rotate_left
    ·rw [if_neg c33] at H
     exact absurd H (by simp)
    rw [if_pos c33] at H
    have c33b0 : decide (0 ≤ x10_1) = true := decide_eq_true c33
    clear c33
    by_cases c34 : x10_1 < (t694.length : Int)
    rotate_left
    ·rw [if_neg c34] at H
     exact absurd H (by simp)
    rw [if_pos c34] at H
    have c34b0 : decide (x10_1 < (t694.length : Int)) = true := decide_eq_true c34
    clear c34
    by_cases c35 : ((rd_T41 t694 x10_1).f0) ≤ a1
    rotate_left
    ·rw [if_neg c35] at H
     have c35b0 : decide (((rd_T41 t694 x10_1).f0) ≤ a1) = false := decide_eq_false c35
     clear c35
     have H' := Aside0.mk H
     clear H
     have p708 : 0 ≤ (x10_1 : Int) := of_decide_eq_true qgsleuthlaw45changepointsizes_7
     have q708 : x10_1 < (t694.length : Int) := of_decide_eq_true qgsleuthlaw45changepointsizes_7
     obtain ⟨ad708, e708, hx708_0, hx708_1, hx708_2⟩ := at_T41 (Kd.R_reads' HO_7.out).2.2 x10_1 p708 q708
     obtain rfl : ad698 = ad708 := (by injection e708)
     replace p708 := eq_true p708
     replace q708 := eq_true q708
     go_wp2
     go_roundg kj15
     case measure => have := HK1.out; have := HJ15.out; omega
     case rel => exact ⟨(x9_1), (wrap64 (x10_1 + 1)), (x698000_1), (x698001_1), (x698002_1), qgsleuthlaw45changepointsizes_11, qgsleuthlaw45changepointsizes_11, H', ⟨by have := HK1.out; have := HJ15.out; omega⟩, ⟨qgsleuthlaw45changepointsizes_3⟩, ⟨qgsleuthlaw45changepointsizes_1⟩, ⟨qgsleuthlaw45changepointsizes_5⟩⟩
    rw [if_pos c35] at H
    have c35b0 : decide (((rd_T41 t694 x10_1).f0) ≤ a1) = true := decide_eq_true c35
    clear c35
    have H' := Aside0.mk H
    clear H
    have p708 : 0 ≤ (x10_1 : Int) := of_decide_eq_true qgsleuthlaw45changepointsizes_7
    have q708 : x10_1 < (t694.length : Int) := of_decide_eq_true qgsleuthlaw45changepointsizes_7
    obtain ⟨ad708, e708, hx708_0, hx708_1, hx708_2⟩ := at_T41 (Kd.R_reads' HO_7.out).2.2 x10_1 p708 q708
    obtain rfl : ad698 = ad708 := (by injection e708)
    replace p708 := eq_true p708
    replace q708 := eq_true q708
    have p709 : 0 ≤ (x10_1 : Int) := of_decide_eq_true qgsleuthlaw45changepointsizes_7
    have q709 : x10_1 < (t694.length : Int) := of_decide_eq_true qgsleuthlaw45changepointsizes_7
    obtain ⟨ad709, e709, hx709_0, hx709_1, hx709_2⟩ := at_T41 (Kd.R_reads' HO_7.out).2.2 x10_1 p709 q709
    obtain rfl : ad698 = ad709 := (by injection e709)
    replace p709 := eq_true p709
    replace q709 := eq_true q709
    have hcz36_0 : wc.cell? ⟨gb697, 0, none⟩ = some (.int .i64 x698000_1) := (blk_cell BK697.out 0).trans rfl
    have hcz36_1 : wc.cell? ⟨gb697, 1, none⟩ = some (.int .i64 x698001_1) := (blk_cell BK697.out 1).trans rfl
    have hcz36_2 : wc.cell? ⟨gb697, 2, none⟩ = some (.int .i64 x698002_1) := (blk_cell BK697.out 2).trans rfl
    have hfz36_0 := blk_frozen BK697.out 0
    have hfz36_1 := blk_frozen BK697.out 1
    have hfz36_2 := blk_frozen BK697.out 2
    go_wp2
    go_roundg kj15
    case measure => have := HK1.out; have := HJ15.out; omega
    case rel => exact ⟨(true), (wrap64 (x10_1 + 1)), ((rd_T41 t694 x10_1).f0), ((rd_T41 t694 x10_1).f1), ((rd_T41 t694 x10_1).f2), qgsleuthlaw45changepointsizes_11, qgsleuthlaw45changepointsizes_11, H', ⟨by have := HK1.out; have := HJ15.out; omega⟩, ⟨by (with_reducible repeat (first | apply Kd.R_alloc | apply Kd.R_drewN | apply Kd.R_drew)); exact Kd.R_mono (Kd.R_far (p := ⟨gb697, 2, none⟩) (Kd.R_far (p := ⟨gb697, 1, none⟩) (Kd.R_far (p := ⟨gb697, 0, none⟩) (Kd.R_mono HO_7.out (fun k_ hk => (⟨hk, hk⟩ : _ ∧ k_ ≠ gb697))) (fun _ hk => hk.2) (.int .i64 ((rd_T41 t694 x10_1).f0))) (fun _ hk => hk.2) (.int .i64 ((rd_T41 t694 x10_1).f1))) (fun _ hk => hk.2) (.int .i64 ((rd_T41 t694 x10_1).f2))) (fun _ hk => hk.1)⟩, ⟨by (with_reducible repeat (first | refine blk_drewN ?_ _ | refine blk_drew ?_ | refine blk_alloc ?_ _)); refine blk_put (cs := #[.int .i64 ((rd_T41 t694 x10_1).f0), .int .i64 ((rd_T41 t694 x10_1).f1), .int .i64 x698002_1]) ?_ 2 _ rfl; (with_reducible repeat (first | refine blk_drewN ?_ _ | refine blk_drew ?_ | refine blk_alloc ?_ _)); refine blk_put (cs := #[.int .i64 ((rd_T41 t694 x10_1).f0), .int .i64 x698001_1, .int .i64 x698002_1]) ?_ 1 _ rfl; (with_reducible repeat (first | refine blk_drewN ?_ _ | refine blk_drew ?_ | refine blk_alloc ?_ _)); refine blk_put (cs := #[.int .i64 x698000_1, .int .i64 x698001_1, .int .i64 x698002_1]) ?_ 0 _ rfl; (with_reducible repeat (first | refine blk_drewN ?_ _ | refine blk_drew ?_ | refine blk_alloc ?_ _)); exact BK697.out⟩, ⟨qgsleuthlaw45changepointsizes_5⟩⟩
  rw [if_neg c11] at H
  have c11b0 : decide (x10_1 < (t694.length : Int)) = false := decide_eq_false c11
  clear c11
  replace H := Option.bind_eq_some_iff.mp H
  obtain ⟨⟨t710, t711, t712, t713⟩, A370, H⟩ := H
  replace H : (if (t713 != x9_1) = true then (sleuthlaw45_ChangepointSizes.j2 k1 a2 t694 true) else (sleuthlaw45_ChangepointSizes.j2 k1 a2 t694 (!(t710 == x698000_1) || (!(t711 == x698001_1) || (!(t712 == x698002_1)))))) = some r := H
  have A37 := Aside0.mk A370
  clear A370
  have HC38 := Aside0.mk H
  clear H
  obtain ⟨Ao39, co39, eo39⟩ := Kd.R_slice HO_7.out
  subst eo39
  go_upto_region 15 with (first | ((with_reducible refine gate_callee (f := 32) rfl ?_); refine goesL_ (some 96) rfl rfl Try.func32 (by kernel_rfl) rfl #[.slice Ao39 t694.length co39, .int .i64 a1] rfl qgsleuthlaw45changepointsizes_2 ?_; (with_reducible refine (changepoint_Latest.calls _ _ t694 a1 t710 t711 t712 t713 _ ?side1 ?side2 A37.out).mono ?_); (case side1 => repeat (first | exact (Kd.R_reads' HO_7.out).2.2 | (with_reducible refine Kd.C_alloc ?_ _) | (with_reducible refine Kd.C_drewN ?_ _) | (with_reducible refine Kd.C_drew ?_))); (case side2 => exact (Kd.R_reads' HO_7.out).2.1); rintro e w40 ⟨rfl, hb⟩; refine ⟨_, rfl, ?_⟩; have n0_ := Aside0.mk (Kd.R_below qgsleuthlaw45changepointsizes_3 hb); have n1_ := Aside0.mk (blk_below (g := gb697) (o := .cells #[.int .i64 x698000_1, .int .i64 x698001_1, .int .i64 x698002_1] 41 (0, 0)) qgsleuthlaw45changepointsizes_1 hb); have n2_ := Aside0.mk (below_step qgsleuthlaw45changepointsizes_5 hb); clear HO_7; clear BK697; clear HB; have HO_7 := n0_; have BK697 := n1_; have HB := n2_; clear n0_ n1_ n2_; (try clear hb); (try clear hb2); (try clear hk); (try clear hi)) | ((with_reducible refine gate_dst (N := 14) rfl ?_); refine box_event ?hg (N := 14) ?hd (cs := #[.int .i64 0, .int .i64 0, .int .i64 0]) (t := 41) ?hr ?_; (case hd => rfl); (case hg => rfl); (case hr => first | (go_simp; done) | (go_simp; rfl)); intro gb714 hg w41 hbox hb; have n0_ := Aside0.mk (Kd.R_below (Kd.R_elderB qgsleuthlaw45changepointsizes_3 gb714 (Nat.le_of_eq hg.symm)) hb); have n1_ := Aside0.mk (blk_below (g := gb697) (o := .cells #[.int .i64 x698000_1, .int .i64 x698001_1, .int .i64 x698002_1] 41 (0, 0)) qgsleuthlaw45changepointsizes_1 hb); have n2_ := Aside0.mk (below_step qgsleuthlaw45changepointsizes_5 hb); have n3_ := Aside0.mk (hbox); have n4_ := Aside0.mk ((by rw [hg]; exact (below_size qgsleuthlaw45changepointsizes_5) : w.heap.size ≤ gb714)); have n5_ := Aside0.mk ((by rw [hg]; exact (below_size qgsleuthlaw45changepointsizes_5) : w.heap.size ≤ gb714)); have n6_ := Aside0.mk ((by rw [hg]; exact Nat.ne_of_lt (blk_lt (g := gb697) (o := .cells #[.int .i64 x698000_1, .int .i64 x698001_1, .int .i64 x698002_1] 41 (0, 0)) qgsleuthlaw45changepointsizes_1) : gb697 ≠ gb714)); have n7_ := Aside0.mk ((by rw [hg]; exact Nat.ne_of_gt (blk_lt (g := gb697) (o := .cells #[.int .i64 x698000_1, .int .i64 x698001_1, .int .i64 x698002_1] 41 (0, 0)) qgsleuthlaw45changepointsizes_1) : gb714 ≠ gb697)); clear HO_7; clear BK697; clear HB; have HO_7 := n0_; have BK697 := n1_; have HB := n2_; have BK714 := n3_; have GW714 := n4_; have GE714 := n5_; have NB697_714 := n6_; have NB714_697 := n7_; clear n0_ n1_ n2_ n3_ n4_ n5_ n6_ n7_; clear hb hbox hg; have hnb42 := NB714_697.out; have hnc42 := NB697_714.out; have hcz43_0 : w41.cell? ⟨gb714, 0, none⟩ = some (.int .i64 0) := (blk_cell BK714.out 0).trans rfl; have hcz43_1 : w41.cell? ⟨gb714, 1, none⟩ = some (.int .i64 0) := (blk_cell BK714.out 1).trans rfl; have hcz43_2 : w41.cell? ⟨gb714, 2, none⟩ = some (.int .i64 0) := (blk_cell BK714.out 2).trans rfl; have hfz43_0 := blk_frozen BK714.out 0; have hfz43_1 := blk_frozen BK714.out 1; have hfz43_2 := blk_frozen BK714.out 2))
  (try simp only [Act.put, List.setIfInBounds_toArray, List.set_cons_zero, List.set_cons_succ])
  go_cut [106] (fun v106 wc => ∃ (kq : Nat) (x106_37 : Bool), v106 = .bool x106_37 ∧ Aside0 (sleuthlaw45_ChangepointSizes.j2 kq a2 t694 x106_37 = some r) ∧ Aside0 (kq ≤ k1) ∧ Aside0 (Kd.R k41 41 wc w.heap.size (fun k_ => k_ ≠ gb697 ∧ k_ ≠ gb714) (.slice Ao39 t694.length co39) t694) ∧ Aside0 (wc.heap[gb697]? = some (.cells #[.int .i64 x698000_1, .int .i64 x698001_1, .int .i64 x698002_1] 41 (0, 0))) ∧ Aside0 (wc.heap[gb714]? = some (.cells #[.int .i64 t710, .int .i64 t711, .int .i64 t712] 41 (0, 0))) ∧ Aside0 (Below w.heap.size w wc))
  case first =>
   have H := HC38.out
   clear HC38
   by_cases c44 : (t713 != x9_1) = true
   ·rw [if_pos c44] at H
    have c44b0 : (t713 != x9_1) = true := c44
    (try (have c44b1 : decide (t713 = x9_1) = false := by simpa using c44))
    (try (have c44b2 : (t713 == x9_1) = false := by simpa using c44))
    (try (have c44b3 : ¬ (t713 = x9_1) := by simpa using c44))
    clear c44
    (first | rw [c44b0] | (simp only [i64_w, i32_w]; rw [c44b0]) | skip)
    have H' := Aside0.mk H
    clear H
    go_wp2
    go_meet
    case rel => exact ⟨_, (true), qgsleuthlaw45changepointsizes_11, H', ⟨by have := HK1.out; first | omega | exact Nat.le_refl _⟩, ⟨qgsleuthlaw45changepointsizes_12⟩, ⟨qgsleuthlaw45changepointsizes_10⟩, ⟨qgsleuthlaw45changepointsizes_9⟩, ⟨qgsleuthlaw45changepointsizes_0⟩⟩
   rw [if_neg c44] at H
   have c44b0 : (t713 != x9_1) = false := by simpa using c44
   (try (have c44b1 : decide (t713 = x9_1) = true := by simpa using c44))
   (try (have c44b2 : (t713 == x9_1) = true := by simpa using c44))
   clear c44
   (first | rw [c44b0] | (simp only [i64_w, i32_w]; rw [c44b0]) | skip)
   have H' := Aside0.mk H
   clear H
   have hnb45 := NB714_697.out
   have hnc45 := NB697_714.out
   have hcz46_0 : w41.cell? ⟨gb714, 0, none⟩ = some (.int .i64 0) := (blk_cell BK714.out 0).trans rfl
   have hcz46_1 : w41.cell? ⟨gb714, 1, none⟩ = some (.int .i64 0) := (blk_cell BK714.out 1).trans rfl
   have hcz46_2 : w41.cell? ⟨gb714, 2, none⟩ = some (.int .i64 0) := (blk_cell BK714.out 2).trans rfl
   have hfz46_0 := blk_frozen BK714.out 0
   have hfz46_1 := blk_frozen BK714.out 1
   have hfz46_2 := blk_frozen BK714.out 2
   have hcz47_0 : w41.cell? ⟨gb697, 0, none⟩ = some (.int .i64 x698000_1) := (blk_cell BK697.out 0).trans rfl
   have hcz47_1 : w41.cell? ⟨gb697, 1, none⟩ = some (.int .i64 x698001_1) := (blk_cell BK697.out 1).trans rfl
   have hcz47_2 : w41.cell? ⟨gb697, 2, none⟩ = some (.int .i64 x698002_1) := (blk_cell BK697.out 2).trans rfl
   have hfz47_0 := blk_frozen BK697.out 0
   have hfz47_1 := blk_frozen BK697.out 1
   have hfz47_2 := blk_frozen BK697.out 2
   go_wp2
   go_meet
   case rel => exact ⟨_, ((!(t710 == x698000_1) || (!(t711 == x698001_1) || (!(t712 == x698002_1))))), qgsleuthlaw45changepointsizes_11, H', ⟨by have := HK1.out; first | omega | exact Nat.le_refl _⟩, ⟨qgsleuthlaw45changepointsizes_12⟩, ⟨qgsleuthlaw45changepointsizes_10⟩, ⟨qgsleuthlaw45changepointsizes_9⟩, ⟨qgsleuthlaw45changepointsizes_0⟩⟩
  clear HC38
  try clear c1
  try clear c2
  try clear p2
  try clear c3
  try clear c4
  try clear p6
  try clear p7
  try clear q7
  try clear hx7
  try clear c11
  try clear c11b0
  try clear c12
  try clear c22
  try clear c22b0
  try clear c22b1
  try clear c24
  try clear c24b0
  try clear c24b1
  try clear c25
  try clear c30
  try clear c31
  try clear c32
  try clear c33
  try clear c33b0
  try clear c34
  try clear c34b0
  try clear c35
  try clear c35b0
  try clear c42
  try clear c44
  try clear c44b0
  try clear c44b1
  try clear c44b2
  try clear c45
  try clear hcz36_0
  try clear hcz36_1
  try clear hcz36_2
  try clear hcz43_0
  try clear hcz43_1
  try clear hcz43_2
  try clear hcz46_0
  try clear hcz46_1
  try clear hcz46_2
  try clear hcz47_0
  try clear hcz47_1
  try clear hcz47_2
  try clear hfz36_0
  try clear hfz36_1
  try clear hfz36_2
  try clear hfz43_0
  try clear hfz43_1
  try clear hfz43_2
  try clear hfz46_0
  try clear hfz46_1
  try clear hfz46_2
  try clear hfz47_0
  try clear hfz47_1
  try clear hfz47_2
  try clear hx702_0
  try clear hx702_1
  try clear hx702_2
  try clear hx704_0
  try clear hx704_1
  try clear hx704_2
  try clear hx706_0
  try clear hx706_1
  try clear hx706_2
  try clear hx708_0
  try clear hx708_1
  try clear hx708_2
  try clear hx709_0
  try clear hx709_1
  try clear hx709_2
  try clear p2
  try clear p6
  try clear p7
  try clear p702
  try clear p704
  try clear p706
  try clear p708
  try clear p709
  try clear q7
  try clear q702
  try clear q704
  try clear q706
  try clear q708
  try clear q709
  obtain ⟨kq, x106_37, rfl, HA, HJ37, HO_7, BK697, BK714, HB⟩ := hcut
  cases kq with
  | zero => exact absurd HA.out (by simp [sleuthlaw45_ChangepointSizes.j2])
  | succ kj37 =>
   have H := HA.out
   clear HA
   simp only [sleuthlaw45_ChangepointSizes.j2] at H
   by_cases c48 : x106_37 = true
   ·subst c48
    have H1 : (some false) = some r := by rw [if_pos rfl] at H; exact H
    clear H
    have H := H1
    clear H1
    obtain rfl := Option.some.inj H
    go_wp2
    go_ret
    exact ⟨qgsleuthlaw45changepointsizes_13, qgsleuthlaw45changepointsizes_0⟩
   replace c48 := Bool.eq_false_iff.mpr c48
   subst c48
   have H1 : ((changepoint_Largest.f t694 a2).bind fun t715 => (sleuthlaw45_ChangepointSizes.l1 kj37 a2 t694 t715 0 0)) = some r := by rw [if_neg (show ¬ (false = true) by decide)] at H; exact H
   clear H
   have H := H1
   clear H1
   replace H := Option.bind_eq_some_iff.mp H
   obtain ⟨t715, A490, H⟩ := H
   replace H : (sleuthlaw45_ChangepointSizes.l1 kj37 a2 t694 t715 0 0) = some r := H
   have A49 := Aside0.mk A490
   clear A490
   have H' := Aside0.mk H
   clear H
   go_wp2_with (first | ((with_reducible refine gate_callee (f := 33) rfl ?_); refine goesL_ (some 109) rfl rfl Try.func33 (by kernel_rfl) rfl #[.slice Ao39 t694.length co39, .int .i64 a2] rfl qgsleuthlaw45changepointsizes_2 ?_; (with_reducible refine (changepoint_Largest.calls _ _ t694 a2 t715 _ ?side1 ?side2 A49.out).mono ?_); (case side1 => repeat (first | exact (Kd.R_reads' HO_7.out).2.2 | (with_reducible refine Kd.C_alloc ?_ _) | (with_reducible refine Kd.C_drewN ?_ _) | (with_reducible refine Kd.C_drew ?_))); (case side2 => exact (Kd.R_reads' HO_7.out).2.1); rintro e w50 ⟨v716, rfl, ho0, hb⟩; refine ⟨_, rfl, ?_⟩; have n0_ := Aside0.mk (Kd.R_elder' qgsleuthlaw45changepointsizes_3 (Kd.R_base ho0) hb); have n1_ := Aside0.mk (Kd.R_lower (Kd.R_newB (Kd.R_newB (Kd.R_new' ho0 (Kd.R_lt qgsleuthlaw45changepointsizes_3)) (g := gb697) (o := .cells #[.int .i64 x698000_1, .int .i64 x698001_1, .int .i64 x698002_1] 41 (0, 0)) qgsleuthlaw45changepointsizes_1) (g := gb714) (o := .cells #[.int .i64 t710, .int .i64 t711, .int .i64 t712] 41 (0, 0)) qgsleuthlaw45changepointsizes_4) (below_size qgsleuthlaw45changepointsizes_0)); have n2_ := Aside0.mk (blk_below (g := gb697) (o := .cells #[.int .i64 x698000_1, .int .i64 x698001_1, .int .i64 x698002_1] 41 (0, 0)) qgsleuthlaw45changepointsizes_1 hb); have n3_ := Aside0.mk (blk_below (g := gb714) (o := .cells #[.int .i64 t710, .int .i64 t711, .int .i64 t712] 41 (0, 0)) qgsleuthlaw45changepointsizes_4 hb); have n4_ := Aside0.mk (below_step qgsleuthlaw45changepointsizes_0 hb); clear HO_7; clear BK697; clear BK714; clear HB; have HO_7 := n0_; have HO717 := n1_; have BK697 := n2_; have BK714 := n3_; have HB := n4_; clear n0_ n1_ n2_ n3_ n4_; (try clear hb); (try clear hb2); (try clear hk); (try clear hi); (try clear ho0)))
   go_loopg [17, 18] kj37 (fun kq v17 v18 w' => ∃ (x17_3 : Int) (x18_3 : Int), v17 = .int .i64 x17_3 ∧ v18 = .int .i64 x18_3 ∧ Aside0 (sleuthlaw45_ChangepointSizes.l1 kq a2 t694 t715 x17_3 x18_3 = some r) ∧ Aside0 (kq ≤ kj37) ∧ Aside0 (Kd.R k41 41 w' w.heap.size (fun k_ => some k_ ≠ (v716 : Value).ownBlock ∧ k_ ≠ gb697 ∧ k_ ≠ gb714) (.slice Ao39 t694.length co39) t694) ∧ Aside0 (Kd.R k41 41 w' w.heap.size (fun k_ => some k_ ≠ ((.slice Ao39 t694.length co39) : Value).ownBlock ∧ k_ ≠ gb697 ∧ k_ ≠ gb714) v716 t715) ∧ Aside0 (w'.heap[gb697]? = some (.cells #[.int .i64 x698000_1, .int .i64 x698001_1, .int .i64 x698002_1] 41 (0, 0))) ∧ Aside0 (w'.heap[gb714]? = some (.cells #[.int .i64 t710, .int .i64 t711, .int .i64 t712] 41 (0, 0))) ∧ Aside0 (Below w.heap.size w w'))
   case atStart => exact ⟨(0), (0), qgsleuthlaw45changepointsizes_11, qgsleuthlaw45changepointsizes_11, H', ⟨Nat.le_refl _⟩, ⟨by (with_reducible repeat (first | apply Kd.R_alloc | apply Kd.R_drewN | apply Kd.R_drew)); exact Kd.R_mono HO_7.out (fun _ hk => ⟨hk.2, ⟨hk.1.1, hk.1.2⟩⟩)⟩, ⟨by (with_reducible repeat (first | apply Kd.R_alloc | apply Kd.R_drewN | apply Kd.R_drew)); exact Kd.R_mono HO717.out (fun _ hk => ⟨hk.1.1.2, ⟨hk.1.2, hk.2⟩⟩)⟩, ⟨qgsleuthlaw45changepointsizes_1⟩, ⟨qgsleuthlaw45changepointsizes_4⟩, ⟨qgsleuthlaw45changepointsizes_0⟩⟩
   clear H'
   try clear c1
   try clear c2
   try clear p2
   try clear c3
   try clear c4
   try clear p6
   try clear p7
   try clear q7
   try clear hx7
   try clear c11
   try clear c11b0
   try clear c12
   try clear c22
   try clear c22b0
   try clear c22b1
   try clear c24
   try clear c24b0
   try clear c24b1
   try clear c25
   try clear c30
   try clear c31
   try clear c32
   try clear c33
   try clear c33b0
   try clear c34
   try clear c34b0
   try clear c35
   try clear c35b0
   try clear c42
   try clear c44
   try clear c44b0
   try clear c44b1
   try clear c44b2
   try clear c45
   try clear c48
   try clear hcz36_0
   try clear hcz36_1
   try clear hcz36_2
   try clear hcz43_0
   try clear hcz43_1
   try clear hcz43_2
   try clear hcz46_0
   try clear hcz46_1
   try clear hcz46_2
   try clear hcz47_0
   try clear hcz47_1
   try clear hcz47_2
   try clear hfz36_0
   try clear hfz36_1
   try clear hfz36_2
   try clear hfz43_0
   try clear hfz43_1
   try clear hfz43_2
   try clear hfz46_0
   try clear hfz46_1
   try clear hfz46_2
   try clear hfz47_0
   try clear hfz47_1
   try clear hfz47_2
   try clear hx702_0
   try clear hx702_1
   try clear hx702_2
   try clear hx704_0
   try clear hx704_1
   try clear hx704_2
   try clear hx706_0
   try clear hx706_1
   try clear hx706_2
   try clear hx708_0
   try clear hx708_1
   try clear hx708_2
   try clear hx709_0
   try clear hx709_1
   try clear hx709_2
   try clear p2
   try clear p6
   try clear p7
   try clear p702
   try clear p704
   try clear p706
   try clear p708
   try clear p709
   try clear q7
   try clear q702
   try clear q704
   try clear q706
   try clear q708
   try clear q709
   obtain ⟨x17_3, x18_3, rfl, rfl, HA, HK3, HO_7, HO_16, BK697, BK714, HB⟩ := hrel
   cases gk with
   | zero => exact absurd HA.out (by simp [sleuthlaw45_ChangepointSizes.l1])
   | succ k3 =>
    have H := HA.out
    clear HA
    simp only [sleuthlaw45_ChangepointSizes.l1] at H
    by_cases c51 : x18_3 < (t694.length : Int)
    rotate_left
    ·rw [if_neg c51] at H
     have c51b0 : decide (x18_3 < (t694.length : Int)) = false := decide_eq_false c51
     clear c51
     obtain rfl := Option.some.inj H
     obtain ⟨Ao94, co94, eo94⟩ := Kd.R_slice HO_16.out
     subst eo94
     go_wp2
     go_ret
     exact ⟨qgsleuthlaw45changepointsizes_13, qgsleuthlaw45changepointsizes_0⟩
    rw [if_pos c51] at H
    have c51b0 : decide (x18_3 < (t694.length : Int)) = true := decide_eq_true c51
    clear c51
    have H' := Aside0.mk H
    clear H
    go_wp2
    go_loopg [19, 20] k3 (fun kq v19 v20 w' => ∃ (x19_4 : Int) (x20_4 : Int), v19 = .int .i64 x19_4 ∧ v20 = .int .i64 x20_4 ∧ Aside0 (sleuthlaw45_ChangepointSizes.l2 kq a2 t694 t715 x17_3 x18_3 x19_4 x20_4 = some r) ∧ Aside0 (kq ≤ k3) ∧ Aside0 (Kd.R k41 41 w' w.heap.size (fun k_ => some k_ ≠ (v716 : Value).ownBlock ∧ k_ ≠ gb697 ∧ k_ ≠ gb714) (.slice Ao39 t694.length co39) t694) ∧ Aside0 (Kd.R k41 41 w' w.heap.size (fun k_ => some k_ ≠ ((.slice Ao39 t694.length co39) : Value).ownBlock ∧ k_ ≠ gb697 ∧ k_ ≠ gb714) v716 t715) ∧ Aside0 (w'.heap[gb697]? = some (.cells #[.int .i64 x698000_1, .int .i64 x698001_1, .int .i64 x698002_1] 41 (0, 0))) ∧ Aside0 (w'.heap[gb714]? = some (.cells #[.int .i64 t710, .int .i64 t711, .int .i64 t712] 41 (0, 0))) ∧ Aside0 (Below w.heap.size w w'))
    case atStart => exact ⟨(0), (0), qgsleuthlaw45changepointsizes_11, qgsleuthlaw45changepointsizes_11, H', ⟨Nat.le_refl _⟩, ⟨qgsleuthlaw45changepointsizes_3⟩, ⟨qgsleuthlaw45changepointsizes_6⟩, ⟨qgsleuthlaw45changepointsizes_1⟩, ⟨qgsleuthlaw45changepointsizes_4⟩, ⟨qgsleuthlaw45changepointsizes_0⟩⟩
    clear H'
    try clear c1
    try clear c2
    try clear p2
    try clear c3
    try clear c4
    try clear c5
    try clear p6
    try clear p7
    try clear q7
    try clear hx7
    try clear c11
    try clear c11b0
    try clear c12
    try clear c22
    try clear c22b0
    try clear c22b1
    try clear c24
    try clear c24b0
    try clear c24b1
    try clear c25
    try clear c30
    try clear c31
    try clear c32
    try clear c33
    try clear c33b0
    try clear c34
    try clear c34b0
    try clear c35
    try clear c35b0
    try clear c42
    try clear c44
    try clear c44b0
    try clear c44b1
    try clear c44b2
    try clear c45
    try clear c48
    try clear c51
    try clear c51b0
    try clear hcz36_0
    try clear hcz36_1
    try clear hcz36_2
    try clear hcz43_0
    try clear hcz43_1
    try clear hcz43_2
    try clear hcz46_0
    try clear hcz46_1
    try clear hcz46_2
    try clear hcz47_0
    try clear hcz47_1
    try clear hcz47_2
    try clear hfz36_0
    try clear hfz36_1
    try clear hfz36_2
    try clear hfz43_0
    try clear hfz43_1
    try clear hfz43_2
    try clear hfz46_0
    try clear hfz46_1
    try clear hfz46_2
    try clear hfz47_0
    try clear hfz47_1
    try clear hfz47_2
    try clear hx702_0
    try clear hx702_1
    try clear hx702_2
    try clear hx704_0
    try clear hx704_1
    try clear hx704_2
    try clear hx706_0
    try clear hx706_1
    try clear hx706_2
    try clear hx708_0
    try clear hx708_1
    try clear hx708_2
    try clear hx709_0
    try clear hx709_1
    try clear hx709_2
    try clear p2
    try clear p6
    try clear p7
    try clear p702
    try clear p704
    try clear p706
    try clear p708
    try clear p709
    try clear q7
    try clear q702
    try clear q704
    try clear q706
    try clear q708
    try clear q709
    obtain ⟨x19_4, x20_4, rfl, rfl, HA, HK4, HO_7, HO_16, BK697, BK714, HB⟩ := hrel
    cases gk with
    | zero => exact absurd HA.out (by simp [sleuthlaw45_ChangepointSizes.l2])
    | succ k4 =>
     have H := HA.out
     clear HA
     simp only [sleuthlaw45_ChangepointSizes.l2] at H
     by_cases c52 : x20_4 < (t694.length : Int)
     rotate_left
     ·rw [if_neg c52] at H
      have c52b0 : decide (x20_4 < (t694.length : Int)) = false := decide_eq_false c52
      clear c52
      by_cases c81 : x19_4 ≥ a2
      ·rw [if_pos c81] at H
       have c81b0 : decide (a2 ≤ x19_4) = true := decide_eq_true c81
       clear c81
       have H' := Aside0.mk H
       clear H
       go_wp2
       go_roundg k4
       case measure => have := HK1.out; have := HJ37.out; have := HK3.out; have := HK4.out; omega
       case rel => exact ⟨(x17_3), (wrap64 (x18_3 + 1)), qgsleuthlaw45changepointsizes_11, qgsleuthlaw45changepointsizes_11, H', ⟨qgsleuthlaw45changepointsizes_14⟩, ⟨qgsleuthlaw45changepointsizes_3⟩, ⟨qgsleuthlaw45changepointsizes_6⟩, ⟨qgsleuthlaw45changepointsizes_1⟩, ⟨qgsleuthlaw45changepointsizes_4⟩, ⟨qgsleuthlaw45changepointsizes_0⟩⟩
      rw [if_neg c81] at H
      have c81b0 : decide (a2 ≤ x19_4) = false := decide_eq_false c81
      clear c81
      by_cases c82 : x17_3 ≥ (t715.length : Int)
      ·rw [if_pos c82] at H
       have c82b0 : decide ((t715.length : Int) ≤ x17_3) = true := decide_eq_true c82
       clear c82
       obtain rfl := Option.some.inj H
       try go_wp2
       have n0_ := Aside0.mk (Kd.R_drew HO_7.out)
       have n1_ := Aside0.mk (Kd.R_drew HO_16.out)
       have n2_ := Aside0.mk (blk_drew BK697.out)
       have n3_ := Aside0.mk (blk_drew BK714.out)
       have n4_ := Aside0.mk (below_drew1 HB.out)
       clear HO_7
       clear HO_16
       clear BK697
       clear BK714
       clear HB
       have HO_7 := n0_
       have HO_16 := n1_
       have BK697 := n2_
       have BK714 := n3_
       have HB := n4_
       clear n0_ n1_ n2_ n3_ n4_
       obtain ⟨Ao84, co84, eo84⟩ := Kd.R_slice HO_16.out
       (first | subst eo84 | (injection eo84 with f1_ f2_ f3_; have f4_ := f1_.symm; have f5_ := f3_.symm; clear f1_ f2_ f3_; subst f4_; subst f5_))
       refine start_ (n := 15) (S := fun w' => True) (ds := []) A99995_61 (by kernel_rfl) rfl rfl trivial (fun hHeld => ?_); refine with_tabW sleuthlaw45_ChangepointSizes.tab29 sleuthlaw45_ChangepointSizes.bits29 (fun HT_ HW_ => ?_)
       generalize wr.drew = w83 at HO_7 HO_16 BK697 BK714 HB hHeld ⊢
       refine pA_ 0 156 A99995_62 HT_ ?_
       refine pA_ 1 157 A99995_63 HT_ ?_
       refine pA_ 2 158 A99995_64 HT_ ?_
       refine pA_ 3 159 A99995_65 HT_ ?_
       refine pA_ 4 160 A99995_66 HT_ ?_
       refine pB_ 5 161 A99995_67 HT_ ?_
       refine pB_ 6 162 A99995_68 HT_ ?_
       refine pB_ 7 163 A99995_69 HT_ ?_
       refine pB_ 8 164 A99995_70 HT_ ?_
       refine pB_ 9 165 A99995_71 HT_ ?_
       refine pB_ 10 166 A99995_72 HT_ ?_
       refine pB_ 11 167 A99995_73 HT_ ?_
       refine pB_ 12 168 A99995_74 HT_ ?_
       refine pB_ 13 169 A99995_75 HT_ ?_
       refine pA_ 14 170 A99995_76 HT_ ?_
       refine done_ (done_of HT_.out (by kernel_rfl)) ?_
       try go_wp2
       go_ret
       exact ⟨qgsleuthlaw45changepointsizes_13, qgsleuthlaw45changepointsizes_0⟩
      rw [if_neg c82] at H
      have c82b0 : decide ((t715.length : Int) ≤ x17_3) = false := decide_eq_false c82
      clear c82
      by_cases c85 : 0 ≤ x17_3
      rotate_left
      ·rw [if_neg c85] at H
       exact absurd H (by simp)
      rw [if_pos c85] at H
      have c85b0 : decide (0 ≤ x17_3) = true := decide_eq_true c85
      clear c85
      by_cases c86 : x17_3 < (t715.length : Int)
      rotate_left
      ·rw [if_neg c86] at H
       exact absurd H (by simp)
      rw [if_pos c86] at H
      have c86b0 : decide (x17_3 < (t715.length : Int)) = true := decide_eq_true c86
      clear c86
      by_cases c87 : 0 ≤ x18_3
      rotate_left
      ·rw [if_neg c87] at H
       exact absurd H (by simp)
      rw [if_pos c87] at H
      have c87b0 : decide (0 ≤ x18_3) = true := decide_eq_true c87
      clear c87
      by_cases c88 : x18_3 < (t694.length : Int)
      rotate_left
      ·rw [if_neg c88] at H
       exact absurd H (by simp)
      rw [if_pos c88] at H
      have c88b0 : decide (x18_3 < (t694.length : Int)) = true := decide_eq_true c88
      clear c88
      by_cases c89 : (!(((rd_T41 t715 x17_3).f0) == ((rd_T41 t694 x18_3).f0)) || (!(((rd_T41 t715 x17_3).f1) == ((rd_T41 t694 x18_3).f1)) || (!(((rd_T41 t715 x17_3).f2) == ((rd_T41 t694 x18_3).f2))))) = true
      ·rw [if_pos c89] at H
       have c89b0 : (!(((rd_T41 t715 x17_3).f0) == ((rd_T41 t694 x18_3).f0)) || (!(((rd_T41 t715 x17_3).f1) == ((rd_T41 t694 x18_3).f1)) || (!(((rd_T41 t715 x17_3).f2) == ((rd_T41 t694 x18_3).f2))))) = true := c89
       clear c89
       obtain rfl := Option.some.inj H
       try go_wp2
       have n0_ := Aside0.mk (Kd.R_drew HO_7.out)
       have n1_ := Aside0.mk (Kd.R_drew HO_16.out)
       have n2_ := Aside0.mk (blk_drew BK697.out)
       have n3_ := Aside0.mk (blk_drew BK714.out)
       have n4_ := Aside0.mk (below_drew1 HB.out)
       clear HO_7
       clear HO_16
       clear BK697
       clear BK714
       clear HB
       have HO_7 := n0_
       have HO_16 := n1_
       have BK697 := n2_
       have BK714 := n3_
       have HB := n4_
       clear n0_ n1_ n2_ n3_ n4_
       obtain ⟨Ao91, co91, eo91⟩ := Kd.R_slice HO_16.out
       (first | subst eo91 | (injection eo91 with f1_ f2_ f3_; have f4_ := f1_.symm; have f5_ := f3_.symm; clear f1_ f2_ f3_; subst f4_; subst f5_))
       have p726 : 0 ≤ (x17_3 : Int) := of_decide_eq_true qgsleuthlaw45changepointsizes_7
       have q726 : x17_3 < (t715.length : Int) := of_decide_eq_true qgsleuthlaw45changepointsizes_7
       obtain ⟨ad726, e726, hx726_0, hx726_1, hx726_2⟩ := at_T41 (Kd.R_reads' HO_16.out).2.2 x17_3 p726 q726
       cases e726
       replace p726 := eq_true p726
       replace q726 := eq_true q726
       have p727 : 0 ≤ (x18_3 : Int) := of_decide_eq_true qgsleuthlaw45changepointsizes_7
       have q727 : x18_3 < (t694.length : Int) := of_decide_eq_true qgsleuthlaw45changepointsizes_7
       obtain ⟨ad727, e727, hx727_0, hx727_1, hx727_2⟩ := at_T41 (Kd.R_reads' HO_7.out).2.2 x18_3 p727 q727
       cases e727
       replace p727 := eq_true p727
       replace q727 := eq_true q727
       refine start_ (n := 15) (S := fun w' => w'.cell? (ad726.add ((x17_3).toNat * 3)) = some (.int .i64 ((rd_T41 t715 x17_3).f0)) ∧ w'.cell? ⟨(ad726.add ((x17_3).toNat * 3)).block, (ad726.add ((x17_3).toNat * 3)).off + 1, none⟩ = some (.int .i64 ((rd_T41 t715 x17_3).f1)) ∧ w'.cell? ⟨(ad726.add ((x17_3).toNat * 3)).block, (ad726.add ((x17_3).toNat * 3)).off + 2, none⟩ = some (.int .i64 ((rd_T41 t715 x17_3).f2)) ∧ w'.cell? (ad727.add ((x18_3).toNat * 3)) = some (.int .i64 ((rd_T41 t694 x18_3).f0)) ∧ w'.cell? ⟨(ad727.add ((x18_3).toNat * 3)).block, (ad727.add ((x18_3).toNat * 3)).off + 1, none⟩ = some (.int .i64 ((rd_T41 t694 x18_3).f1)) ∧ w'.cell? ⟨(ad727.add ((x18_3).toNat * 3)).block, (ad727.add ((x18_3).toNat * 3)).off + 2, none⟩ = some (.int .i64 ((rd_T41 t694 x18_3).f2))) (ds := []) A99995_61 (by kernel_rfl) rfl rfl ⟨hx726_0, hx726_1, hx726_2, hx727_0, hx727_1, hx727_2⟩ (fun hHeld => ?_); refine with_tabW sleuthlaw45_ChangepointSizes.tab29 sleuthlaw45_ChangepointSizes.bits29 (fun HT_ HW_ => ?_)
       generalize wr.drew = w90 at HO_7 HO_16 BK697 BK714 HB hx726_0 hx726_1 hx726_2 hx727_0 hx727_1 hx727_2 hHeld ⊢
       refine pA_ 0 156 A99995_62 HT_ ?_
       refine pA_ 1 157 A99995_63 HT_ ?_
       refine pA_ 2 158 A99995_64 HT_ ?_
       refine pA_ 3 159 A99995_65 HT_ ?_
       refine pA_ 4 160 A99995_66 HT_ ?_
       refine pA_ 5 161 A99995_67 HT_ ?_
       refine pA_ 6 162 A99995_68 HT_ ?_
       refine pA_ 7 163 A99995_69 HT_ ?_
       refine pA_ 9 165 A99995_77 HT_ ?_
       refine pA_ 10 166 A99995_78 HT_ ?_
       refine pA_ 11 167 A99995_79 HT_ ?_
       refine take_ (i := 8) (N := some 164) (v := ?_) (a' := ?_) A99995_73 rfl rfl (take_ofW HT_.out HW_.out (by kernel_rfl)) (fun _ _ _ h => h) (Or.inl ⟨by rfl, ?_⟩) hHeld ?_ ?_
       rotate_left
       ·rintro w' ⟨s0, s1, s2, s3, s4, s5⟩
        go_simp
        with_reducible rfl
       rotate_left
       ·simp only [Act.put, List.setIfInBounds_toArray, List.set_cons_zero, List.set_cons_succ, i64_w, i32_w]
        rfl
       refine take_ (i := 12) (N := some 168) (v := ?_) (a' := ?_) A99995_74 rfl rfl (take_ofW HT_.out HW_.out (by kernel_rfl)) (fun _ _ _ h => h) (Or.inl ⟨by rfl, ?_⟩) hHeld ?_ ?_
       rotate_left
       ·rintro w' ⟨s0, s1, s2, s3, s4, s5⟩
        go_simp
        with_reducible rfl
       rotate_left
       ·simp only [Act.put, List.setIfInBounds_toArray, List.set_cons_zero, List.set_cons_succ, i64_w, i32_w]
        rfl
       refine pA_ 13 169 A99995_75 HT_ ?_
       refine pA_ 14 170 A99995_76 HT_ ?_
       refine done_ (done_of HT_.out (by kernel_rfl)) ?_
       try go_wp2
       go_ret
       exact ⟨qgsleuthlaw45changepointsizes_13, qgsleuthlaw45changepointsizes_0⟩
      rw [if_neg c89] at H
      have c89b0 : (!(((rd_T41 t715 x17_3).f0) == ((rd_T41 t694 x18_3).f0)) || (!(((rd_T41 t715 x17_3).f1) == ((rd_T41 t694 x18_3).f1)) || (!(((rd_T41 t715 x17_3).f2) == ((rd_T41 t694 x18_3).f2))))) = false := by simpa using c89
      clear c89
      have H' := Aside0.mk H
      clear H
      try go_wp2
      have n0_ := Aside0.mk (Kd.R_drew HO_7.out)
      have n1_ := Aside0.mk (Kd.R_drew HO_16.out)
      have n2_ := Aside0.mk (blk_drew BK697.out)
      have n3_ := Aside0.mk (blk_drew BK714.out)
      have n4_ := Aside0.mk (below_drew1 HB.out)
      clear HO_7
      clear HO_16
      clear BK697
      clear BK714
      clear HB
      have HO_7 := n0_
      have HO_16 := n1_
      have BK697 := n2_
      have BK714 := n3_
      have HB := n4_
      clear n0_ n1_ n2_ n3_ n4_
      obtain ⟨Ao93, co93, eo93⟩ := Kd.R_slice HO_16.out
      (first | subst eo93 | (injection eo93 with f1_ f2_ f3_; have f4_ := f1_.symm; have f5_ := f3_.symm; clear f1_ f2_ f3_; subst f4_; subst f5_))
      have p726 : 0 ≤ (x17_3 : Int) := of_decide_eq_true qgsleuthlaw45changepointsizes_7
      have q726 : x17_3 < (t715.length : Int) := of_decide_eq_true qgsleuthlaw45changepointsizes_7
      obtain ⟨ad726, e726, hx726_0, hx726_1, hx726_2⟩ := at_T41 (Kd.R_reads' HO_16.out).2.2 x17_3 p726 q726
      cases e726
      replace p726 := eq_true p726
      replace q726 := eq_true q726
      have p727 : 0 ≤ (x18_3 : Int) := of_decide_eq_true qgsleuthlaw45changepointsizes_7
      have q727 : x18_3 < (t694.length : Int) := of_decide_eq_true qgsleuthlaw45changepointsizes_7
      obtain ⟨ad727, e727, hx727_0, hx727_1, hx727_2⟩ := at_T41 (Kd.R_reads' HO_7.out).2.2 x18_3 p727 q727
      cases e727
      replace p727 := eq_true p727
      replace q727 := eq_true q727
      refine start_ (n := 15) (S := fun w' => w'.cell? (ad726.add ((x17_3).toNat * 3)) = some (.int .i64 ((rd_T41 t715 x17_3).f0)) ∧ w'.cell? ⟨(ad726.add ((x17_3).toNat * 3)).block, (ad726.add ((x17_3).toNat * 3)).off + 1, none⟩ = some (.int .i64 ((rd_T41 t715 x17_3).f1)) ∧ w'.cell? ⟨(ad726.add ((x17_3).toNat * 3)).block, (ad726.add ((x17_3).toNat * 3)).off + 2, none⟩ = some (.int .i64 ((rd_T41 t715 x17_3).f2)) ∧ w'.cell? (ad727.add ((x18_3).toNat * 3)) = some (.int .i64 ((rd_T41 t694 x18_3).f0)) ∧ w'.cell? ⟨(ad727.add ((x18_3).toNat * 3)).block, (ad727.add ((x18_3).toNat * 3)).off + 1, none⟩ = some (.int .i64 ((rd_T41 t694 x18_3).f1)) ∧ w'.cell? ⟨(ad727.add ((x18_3).toNat * 3)).block, (ad727.add ((x18_3).toNat * 3)).off + 2, none⟩ = some (.int .i64 ((rd_T41 t694 x18_3).f2))) (ds := []) A99995_61 (by kernel_rfl) rfl rfl ⟨hx726_0, hx726_1, hx726_2, hx727_0, hx727_1, hx727_2⟩ (fun hHeld => ?_); refine with_tabW sleuthlaw45_ChangepointSizes.tab29 sleuthlaw45_ChangepointSizes.bits29 (fun HT_ HW_ => ?_)
      generalize wr.drew = w92 at HO_7 HO_16 BK697 BK714 HB hx726_0 hx726_1 hx726_2 hx727_0 hx727_1 hx727_2 hHeld ⊢
      refine pA_ 0 156 A99995_62 HT_ ?_
      refine pA_ 1 157 A99995_63 HT_ ?_
      refine pA_ 2 158 A99995_64 HT_ ?_
      refine pA_ 3 159 A99995_65 HT_ ?_
      refine pA_ 4 160 A99995_66 HT_ ?_
      refine pA_ 5 161 A99995_67 HT_ ?_
      refine pA_ 6 162 A99995_68 HT_ ?_
      refine pA_ 7 163 A99995_69 HT_ ?_
      refine pA_ 9 165 A99995_77 HT_ ?_
      refine pA_ 10 166 A99995_78 HT_ ?_
      refine pA_ 11 167 A99995_79 HT_ ?_
      refine take_ (i := 8) (N := some 164) (v := ?_) (a' := ?_) A99995_73 rfl rfl (take_ofW HT_.out HW_.out (by kernel_rfl)) (fun _ _ _ h => h) (Or.inl ⟨by rfl, ?_⟩) hHeld ?_ ?_
      rotate_left
      ·rintro w' ⟨s0, s1, s2, s3, s4, s5⟩
       go_simp
       with_reducible rfl
      rotate_left
      ·simp only [Act.put, List.setIfInBounds_toArray, List.set_cons_zero, List.set_cons_succ, i64_w, i32_w]
       rfl
      refine take_ (i := 12) (N := some 168) (v := ?_) (a' := ?_) A99995_74 rfl rfl (take_ofW HT_.out HW_.out (by kernel_rfl)) (fun _ _ _ h => h) (Or.inl ⟨by rfl, ?_⟩) hHeld ?_ ?_
      rotate_left
      ·rintro w' ⟨s0, s1, s2, s3, s4, s5⟩
       go_simp
       with_reducible rfl
      rotate_left
      ·simp only [Act.put, List.setIfInBounds_toArray, List.set_cons_zero, List.set_cons_succ, i64_w, i32_w]
       rfl
      refine pA_ 13 169 A99995_75 HT_ ?_
      refine pA_ 14 170 A99995_76 HT_ ?_
      refine done_ (done_of HT_.out (by kernel_rfl)) ?_
      try go_wp2
      go_roundg k4
      case measure => have := HK1.out; have := HJ37.out; have := HK3.out; have := HK4.out; omega
      case rel => exact ⟨(wrap64 (x17_3 + 1)), (wrap64 (x18_3 + 1)), qgsleuthlaw45changepointsizes_11, qgsleuthlaw45changepointsizes_11, H', ⟨qgsleuthlaw45changepointsizes_14⟩, ⟨qgsleuthlaw45changepointsizes_3⟩, ⟨qgsleuthlaw45changepointsizes_6⟩, ⟨qgsleuthlaw45changepointsizes_1⟩, ⟨qgsleuthlaw45changepointsizes_4⟩, ⟨qgsleuthlaw45changepointsizes_0⟩⟩
     rw [if_pos c52] at H
     have c52b0 : decide (x20_4 < (t694.length : Int)) = true := decide_eq_true c52
     clear c52
     by_cases c53 : 0 ≤ x20_4
     rotate_left
     ·rw [if_neg c53] at H
      exact absurd H (by simp)
     rw [if_pos c53] at H
     have c53b0 : decide (0 ≤ x20_4) = true := decide_eq_true c53
     clear c53
     replace H := Option.bind_eq_some_iff.mp H
     obtain ⟨t719, A540, H⟩ := H
     replace H : (if 0 ≤ x18_3 then (if x18_3 < (t694.length : Int) then ((sleuthlaw45_size.f ((rd_T41 t694 x18_3).f0) ((rd_T41 t694 x18_3).f1) ((rd_T41 t694 x18_3).f2)).bind fun t721 => (if t719 > t721 then (sleuthlaw45_ChangepointSizes.l2 k4 a2 t694 t715 x17_3 x18_3 (wrap64 (x19_4 + 1)) (wrap64 (x20_4 + 1))) else ((sleuthlaw45_size.f ((rd_T41 t694 x20_4).f0) ((rd_T41 t694 x20_4).f1) ((rd_T41 t694 x20_4).f2)).bind fun t723 => ((sleuthlaw45_size.f ((rd_T41 t694 x18_3).f0) ((rd_T41 t694 x18_3).f1) ((rd_T41 t694 x18_3).f2)).bind fun t725 => (if t723 = t725 then (if x20_4 < x18_3 then (sleuthlaw45_ChangepointSizes.l2 k4 a2 t694 t715 x17_3 x18_3 (wrap64 (x19_4 + 1)) (wrap64 (x20_4 + 1))) else (sleuthlaw45_ChangepointSizes.l2 k4 a2 t694 t715 x17_3 x18_3 x19_4 (wrap64 (x20_4 + 1)))) else (sleuthlaw45_ChangepointSizes.l2 k4 a2 t694 t715 x17_3 x18_3 x19_4 (wrap64 (x20_4 + 1)))))))) else (none)) else (none)) = some r := H
     have A54 := Aside0.mk A540
     clear A540
     by_cases c55 : 0 ≤ x18_3
     rotate_left
     ·rw [if_neg c55] at H
      exact absurd H (by simp)
     rw [if_pos c55] at H
     have c55b0 : decide (0 ≤ x18_3) = true := decide_eq_true c55
     clear c55
     by_cases c56 : x18_3 < (t694.length : Int)
     rotate_left
     ·rw [if_neg c56] at H
      exact absurd H (by simp)
     rw [if_pos c56] at H
     have c56b0 : decide (x18_3 < (t694.length : Int)) = true := decide_eq_true c56
     clear c56
     replace H := Option.bind_eq_some_iff.mp H
     obtain ⟨t721, A570, H⟩ := H
     replace H : (if t719 > t721 then (sleuthlaw45_ChangepointSizes.l2 k4 a2 t694 t715 x17_3 x18_3 (wrap64 (x19_4 + 1)) (wrap64 (x20_4 + 1))) else ((sleuthlaw45_size.f ((rd_T41 t694 x20_4).f0) ((rd_T41 t694 x20_4).f1) ((rd_T41 t694 x20_4).f2)).bind fun t723 => ((sleuthlaw45_size.f ((rd_T41 t694 x18_3).f0) ((rd_T41 t694 x18_3).f1) ((rd_T41 t694 x18_3).f2)).bind fun t725 => (if t723 = t725 then (if x20_4 < x18_3 then (sleuthlaw45_ChangepointSizes.l2 k4 a2 t694 t715 x17_3 x18_3 (wrap64 (x19_4 + 1)) (wrap64 (x20_4 + 1))) else (sleuthlaw45_ChangepointSizes.l2 k4 a2 t694 t715 x17_3 x18_3 x19_4 (wrap64 (x20_4 + 1)))) else (sleuthlaw45_ChangepointSizes.l2 k4 a2 t694 t715 x17_3 x18_3 x19_4 (wrap64 (x20_4 + 1))))))) = some r := H
     have A57 := Aside0.mk A570
     clear A570
     by_cases c58 : t719 > t721
     ·rw [if_pos c58] at H
      have c58b0 : decide (t721 < t719) = true := decide_eq_true c58
      clear c58
      have H' := Aside0.mk H
      clear H
      try go_wp2
      have n0_ := Aside0.mk (Kd.R_drew HO_7.out)
      have n1_ := Aside0.mk (Kd.R_drew HO_16.out)
      have n2_ := Aside0.mk (blk_drew BK697.out)
      have n3_ := Aside0.mk (blk_drew BK714.out)
      have n4_ := Aside0.mk (below_drew1 HB.out)
      clear HO_7
      clear HO_16
      clear BK697
      clear BK714
      clear HB
      have HO_7 := n0_
      have HO_16 := n1_
      have BK697 := n2_
      have BK714 := n3_
      have HB := n4_
      clear n0_ n1_ n2_ n3_ n4_
      have p718 : 0 ≤ (x20_4 : Int) := of_decide_eq_true qgsleuthlaw45changepointsizes_7
      have q718 : x20_4 < (t694.length : Int) := of_decide_eq_true qgsleuthlaw45changepointsizes_7
      obtain ⟨ad718, e718, hx718_0, hx718_1, hx718_2⟩ := at_T41 (Kd.R_reads' HO_7.out).2.2 x20_4 p718 q718
      cases e718
      replace p718 := eq_true p718
      replace q718 := eq_true q718
      have p720 : 0 ≤ (x18_3 : Int) := of_decide_eq_true qgsleuthlaw45changepointsizes_7
      have q720 : x18_3 < (t694.length : Int) := of_decide_eq_true qgsleuthlaw45changepointsizes_7
      obtain ⟨ad720, e720, hx720_0, hx720_1, hx720_2⟩ := at_T41 (Kd.R_reads' HO_7.out).2.2 x18_3 p720 q720
      obtain rfl : ad718 = ad720 := (by injection e720)
      replace p720 := eq_true p720
      replace q720 := eq_true q720
      refine start_ (n := 29) (S := fun w' => w'.cell? (ad718.add ((x20_4).toNat * 3)) = some (.int .i64 ((rd_T41 t694 x20_4).f0)) ∧ w'.cell? ⟨(ad718.add ((x20_4).toNat * 3)).block, (ad718.add ((x20_4).toNat * 3)).off + 1, none⟩ = some (.int .i64 ((rd_T41 t694 x20_4).f1)) ∧ w'.cell? ⟨(ad718.add ((x20_4).toNat * 3)).block, (ad718.add ((x20_4).toNat * 3)).off + 2, none⟩ = some (.int .i64 ((rd_T41 t694 x20_4).f2)) ∧ w'.cell? (ad718.add ((x18_3).toNat * 3)) = some (.int .i64 ((rd_T41 t694 x18_3).f0)) ∧ w'.cell? ⟨(ad718.add ((x18_3).toNat * 3)).block, (ad718.add ((x18_3).toNat * 3)).off + 1, none⟩ = some (.int .i64 ((rd_T41 t694 x18_3).f1)) ∧ w'.cell? ⟨(ad718.add ((x18_3).toNat * 3)).block, (ad718.add ((x18_3).toNat * 3)).off + 2, none⟩ = some (.int .i64 ((rd_T41 t694 x18_3).f2))) (ds := []) A99995_80 (by kernel_rfl) rfl rfl ⟨hx718_0, hx718_1, hx718_2, hx720_0, hx720_1, hx720_2⟩ (fun hHeld => ?_); refine with_tabW sleuthlaw45_ChangepointSizes.tab26 sleuthlaw45_ChangepointSizes.bits26 (fun HT_ HW_ => ?_)
      generalize wr.drew = w59 at HO_7 HO_16 BK697 BK714 HB hx718_0 hx718_1 hx718_2 hx720_0 hx720_1 hx720_2 hHeld ⊢
      refine pA_ 0 122 A99995_81 HT_ ?_
      refine pA_ 1 123 A99995_82 HT_ ?_
      refine pA_ 2 124 A99995_83 HT_ ?_
      refine pA_ 5 127 A99995_84 HT_ ?_
      refine pA_ 6 128 A99995_85 HT_ ?_
      refine pA_ 7 129 A99995_86 HT_ ?_
      refine take_ (i := 3) (N := some 125) (v := ?_) (a' := ?_) A99995_87 rfl rfl (take_ofW HT_.out HW_.out (by kernel_rfl)) (fun _ _ _ h => h) (Or.inl ⟨by rfl, ?_⟩) hHeld ?_ ?_
      rotate_left
      ·rintro w' ⟨s0, s1, s2, s3, s4, s5⟩
       go_simp
       with_reducible rfl
      rotate_left
      ·simp only [Act.put, List.setIfInBounds_toArray, List.set_cons_zero, List.set_cons_succ, i64_w, i32_w]
       rfl
      refine take_ (i := 8) (N := some 130) (v := ?_) (a' := ?_) A99995_88 rfl rfl (take_ofW HT_.out HW_.out (by kernel_rfl)) (fun _ _ _ h => h) (Or.inl ⟨by rfl, ?_⟩) hHeld ?_ ?_
      rotate_left
      ·rintro w' ⟨s0, s1, s2, s3, s4, s5⟩
       go_simp
       with_reducible rfl
      rotate_left
      ·simp only [Act.put, List.setIfInBounds_toArray, List.set_cons_zero, List.set_cons_succ, i64_w, i32_w]
       rfl
      refine one_ (i := 4) (N := some 126) A99995_89 rfl rfl (one_of HT_.out (by kernel_rfl)) (by decide) (fun K hK => ?_)
      refine goes_ Try.func34 (by kernel_rfl) rfl #[.agg #[.int .i64 ((rd_T41 t694 x20_4).f0), .int .i64 ((rd_T41 t694 x20_4).f1), .int .i64 ((rd_T41 t694 x20_4).f2)]] (by rfl) rfl rfl qgsleuthlaw45changepointsizes_2 ?_
      with_reducible refine (sleuthlaw45_size.calls ((rd_T41 t694 x20_4).f0) ((rd_T41 t694 x20_4).f1) ((rd_T41 t694 x20_4).f2) t719 _ A54.out).mono ?_
      rintro e w60 ⟨rfl, hb⟩
      have HS0_ := (hb.cell (World.block_lt_of_cell? _ _ (hHeld.1))).trans (hHeld.1)
      have HS1_ := (hb.cell (World.block_lt_of_cell? _ _ (hHeld.2.1))).trans (hHeld.2.1)
      have HS2_ := (hb.cell (World.block_lt_of_cell? _ _ (hHeld.2.2.1))).trans (hHeld.2.2.1)
      have HS3_ := (hb.cell (World.block_lt_of_cell? _ _ (hHeld.2.2.2.1))).trans (hHeld.2.2.2.1)
      have HS4_ := (hb.cell (World.block_lt_of_cell? _ _ (hHeld.2.2.2.2.1))).trans (hHeld.2.2.2.2.1)
      have HS5_ := (hb.cell (World.block_lt_of_cell? _ _ (hHeld.2.2.2.2.2))).trans (hHeld.2.2.2.2.2)
      refine ⟨_, rfl, ?_⟩
      have n0_ := Aside0.mk (Kd.R_below qgsleuthlaw45changepointsizes_3 hb)
      have n1_ := Aside0.mk (Kd.R_below qgsleuthlaw45changepointsizes_6 hb)
      have n2_ := Aside0.mk (blk_below (g := gb697) (o := .cells #[.int .i64 x698000_1, .int .i64 x698001_1, .int .i64 x698002_1] 41 (0, 0)) qgsleuthlaw45changepointsizes_1 hb)
      have n3_ := Aside0.mk (blk_below (g := gb714) (o := .cells #[.int .i64 t710, .int .i64 t711, .int .i64 t712] 41 (0, 0)) qgsleuthlaw45changepointsizes_4 hb)
      have n4_ := Aside0.mk (below_step qgsleuthlaw45changepointsizes_0 hb)
      clear HO_7
      clear HO_16
      clear BK697
      clear BK714
      clear HB
      have HO_7 := n0_
      have HO_16 := n1_
      have BK697 := n2_
      have BK714 := n3_
      have HB := n4_
      clear n0_ n1_ n2_ n3_ n4_
      (try clear hb)
      (try clear hb2)
      (try clear hk)
      (try clear hi)
      refine hK.out _ _ ⟨HS0_, HS1_, HS2_, HS3_, HS4_, HS5_⟩ (fun hHeld => ?_)
      clear hK K
      refine norm_ (a' := ?_) ?_ ?_
      rotate_left
      ·show Act.put _ (some 126) _ = _
       simp only [Act.put, List.setIfInBounds_toArray, List.set_cons_zero, List.set_cons_succ, i64_w, i32_w]
       rfl
      refine one_ (i := 9) (N := some 131) A99995_90 rfl rfl (one_of HT_.out (by kernel_rfl)) (by decide) (fun K hK => ?_)
      refine goes_ Try.func34 (by kernel_rfl) rfl #[.agg #[.int .i64 ((rd_T41 t694 x18_3).f0), .int .i64 ((rd_T41 t694 x18_3).f1), .int .i64 ((rd_T41 t694 x18_3).f2)]] (by rfl) rfl rfl qgsleuthlaw45changepointsizes_2 ?_
      with_reducible refine (sleuthlaw45_size.calls ((rd_T41 t694 x18_3).f0) ((rd_T41 t694 x18_3).f1) ((rd_T41 t694 x18_3).f2) t721 _ A57.out).mono ?_
      rintro e w61 ⟨rfl, hb⟩
      have HS0_ := (hb.cell (World.block_lt_of_cell? _ _ (hHeld.1))).trans (hHeld.1)
      have HS1_ := (hb.cell (World.block_lt_of_cell? _ _ (hHeld.2.1))).trans (hHeld.2.1)
      have HS2_ := (hb.cell (World.block_lt_of_cell? _ _ (hHeld.2.2.1))).trans (hHeld.2.2.1)
      have HS3_ := (hb.cell (World.block_lt_of_cell? _ _ (hHeld.2.2.2.1))).trans (hHeld.2.2.2.1)
      have HS4_ := (hb.cell (World.block_lt_of_cell? _ _ (hHeld.2.2.2.2.1))).trans (hHeld.2.2.2.2.1)
      have HS5_ := (hb.cell (World.block_lt_of_cell? _ _ (hHeld.2.2.2.2.2))).trans (hHeld.2.2.2.2.2)
      refine ⟨_, rfl, ?_⟩
      have n0_ := Aside0.mk (Kd.R_below qgsleuthlaw45changepointsizes_3 hb)
      have n1_ := Aside0.mk (Kd.R_below qgsleuthlaw45changepointsizes_6 hb)
      have n2_ := Aside0.mk (blk_below (g := gb697) (o := .cells #[.int .i64 x698000_1, .int .i64 x698001_1, .int .i64 x698002_1] 41 (0, 0)) qgsleuthlaw45changepointsizes_1 hb)
      have n3_ := Aside0.mk (blk_below (g := gb714) (o := .cells #[.int .i64 t710, .int .i64 t711, .int .i64 t712] 41 (0, 0)) qgsleuthlaw45changepointsizes_4 hb)
      have n4_ := Aside0.mk (below_step qgsleuthlaw45changepointsizes_0 hb)
      clear HO_7
      clear HO_16
      clear BK697
      clear BK714
      clear HB
      have HO_7 := n0_
      have HO_16 := n1_
      have BK697 := n2_
      have BK714 := n3_
      have HB := n4_
      clear n0_ n1_ n2_ n3_ n4_
      (try clear hb)
      (try clear hb2)
      (try clear hk)
      (try clear hi)
      refine hK.out _ _ ⟨HS0_, HS1_, HS2_, HS3_, HS4_, HS5_⟩ (fun hHeld => ?_)
      clear hK K
      refine norm_ (a' := ?_) ?_ ?_
      rotate_left
      ·show Act.put _ (some 131) _ = _
       simp only [Act.put, List.setIfInBounds_toArray, List.set_cons_zero, List.set_cons_succ, i64_w, i32_w]
       rfl
      refine pA_ 10 132 A99995_91 HT_ ?_
      refine pA_ 11 133 A99995_92 HT_ ?_
      refine pB_ 12 134 A99995_93 HT_ ?_
      refine pB_ 13 135 A99995_94 HT_ ?_
      refine pB_ 14 136 A99995_95 HT_ ?_
      refine pB_ 15 137 A99995_96 HT_ ?_
      refine pB_ 16 138 A99995_97 HT_ ?_
      refine pB_ 17 139 A99995_98 HT_ ?_
      refine pB_ 18 140 A99995_99 HT_ ?_
      refine pB_ 19 141 A99995_100 HT_ ?_
      refine pB_ 20 142 A99995_101 HT_ ?_
      refine pB_ 21 143 A99995_102 HT_ ?_
      refine pB_ 22 144 A99995_103 HT_ ?_
      refine pB_ 23 145 A99995_104 HT_ ?_
      refine pB_ 24 146 A99995_105 HT_ ?_
      refine pB_ 25 147 A99995_106 HT_ ?_
      refine pB_ 26 148 A99995_107 HT_ ?_
      refine pB_ 27 149 A99995_108 HT_ ?_
      refine pA_ 28 150 A99995_109 HT_ ?_
      refine done_ (done_of HT_.out (by kernel_rfl)) ?_
      try go_wp2
      go_roundg k4
      case measure => have := HK1.out; have := HJ37.out; have := HK3.out; have := HK4.out; omega
      case rel => exact ⟨(wrap64 (x19_4 + 1)), (wrap64 (x20_4 + 1)), qgsleuthlaw45changepointsizes_11, qgsleuthlaw45changepointsizes_11, H', ⟨qgsleuthlaw45changepointsizes_14⟩, ⟨qgsleuthlaw45changepointsizes_3⟩, ⟨qgsleuthlaw45changepointsizes_6⟩, ⟨qgsleuthlaw45changepointsizes_1⟩, ⟨qgsleuthlaw45changepointsizes_4⟩, ⟨qgsleuthlaw45changepointsizes_0⟩⟩
     rw [if_neg c58] at H
     have c58b0 : decide (t721 < t719) = false := decide_eq_false c58
     clear c58
     replace H := Option.bind_eq_some_iff.mp H
     obtain ⟨t723, A620, H⟩ := H
     replace H : ((sleuthlaw45_size.f ((rd_T41 t694 x18_3).f0) ((rd_T41 t694 x18_3).f1) ((rd_T41 t694 x18_3).f2)).bind fun t725 => (if t723 = t725 then (if x20_4 < x18_3 then (sleuthlaw45_ChangepointSizes.l2 k4 a2 t694 t715 x17_3 x18_3 (wrap64 (x19_4 + 1)) (wrap64 (x20_4 + 1))) else (sleuthlaw45_ChangepointSizes.l2 k4 a2 t694 t715 x17_3 x18_3 x19_4 (wrap64 (x20_4 + 1)))) else (sleuthlaw45_ChangepointSizes.l2 k4 a2 t694 t715 x17_3 x18_3 x19_4 (wrap64 (x20_4 + 1))))) = some r := H
     have A62 := Aside0.mk A620
     clear A620
     replace H := Option.bind_eq_some_iff.mp H
     obtain ⟨t725, A630, H⟩ := H
     replace H : (if t723 = t725 then (if x20_4 < x18_3 then (sleuthlaw45_ChangepointSizes.l2 k4 a2 t694 t715 x17_3 x18_3 (wrap64 (x19_4 + 1)) (wrap64 (x20_4 + 1))) else (sleuthlaw45_ChangepointSizes.l2 k4 a2 t694 t715 x17_3 x18_3 x19_4 (wrap64 (x20_4 + 1)))) else (sleuthlaw45_ChangepointSizes.l2 k4 a2 t694 t715 x17_3 x18_3 x19_4 (wrap64 (x20_4 + 1)))) = some r := H
     have A63 := Aside0.mk A630
     clear A630
     by_cases c64 : t723 = t725
     rotate_left
     ·rw [if_neg c64] at H
      have c64b0 : (t723 == t725) = false := beq_eq_false_iff_ne.mpr c64
      have c64b1 : (t723 != t725) = true := bne_iff_ne.mpr c64
      have H' := Aside0.mk H
      clear H
      try go_wp2
      have n0_ := Aside0.mk (Kd.R_drew HO_7.out)
      have n1_ := Aside0.mk (Kd.R_drew HO_16.out)
      have n2_ := Aside0.mk (blk_drew BK697.out)
      have n3_ := Aside0.mk (blk_drew BK714.out)
      have n4_ := Aside0.mk (below_drew1 HB.out)
      clear HO_7
      clear HO_16
      clear BK697
      clear BK714
      clear HB
      have HO_7 := n0_
      have HO_16 := n1_
      have BK697 := n2_
      have BK714 := n3_
      have HB := n4_
      clear n0_ n1_ n2_ n3_ n4_
      have p718 : 0 ≤ (x20_4 : Int) := of_decide_eq_true qgsleuthlaw45changepointsizes_7
      have q718 : x20_4 < (t694.length : Int) := of_decide_eq_true qgsleuthlaw45changepointsizes_7
      obtain ⟨ad718, e718, hx718_0, hx718_1, hx718_2⟩ := at_T41 (Kd.R_reads' HO_7.out).2.2 x20_4 p718 q718
      cases e718
      replace p718 := eq_true p718
      replace q718 := eq_true q718
      have p720 : 0 ≤ (x18_3 : Int) := of_decide_eq_true qgsleuthlaw45changepointsizes_7
      have q720 : x18_3 < (t694.length : Int) := of_decide_eq_true qgsleuthlaw45changepointsizes_7
      obtain ⟨ad720, e720, hx720_0, hx720_1, hx720_2⟩ := at_T41 (Kd.R_reads' HO_7.out).2.2 x18_3 p720 q720
      obtain rfl : ad718 = ad720 := (by injection e720)
      replace p720 := eq_true p720
      replace q720 := eq_true q720
      have p722 : 0 ≤ (x20_4 : Int) := of_decide_eq_true qgsleuthlaw45changepointsizes_7
      have q722 : x20_4 < (t694.length : Int) := of_decide_eq_true qgsleuthlaw45changepointsizes_7
      obtain ⟨ad722, e722, hx722_0, hx722_1, hx722_2⟩ := at_T41 (Kd.R_reads' HO_7.out).2.2 x20_4 p722 q722
      obtain rfl : ad718 = ad722 := (by injection e722)
      replace p722 := eq_true p722
      replace q722 := eq_true q722
      have p724 : 0 ≤ (x18_3 : Int) := of_decide_eq_true qgsleuthlaw45changepointsizes_7
      have q724 : x18_3 < (t694.length : Int) := of_decide_eq_true qgsleuthlaw45changepointsizes_7
      obtain ⟨ad724, e724, hx724_0, hx724_1, hx724_2⟩ := at_T41 (Kd.R_reads' HO_7.out).2.2 x18_3 p724 q724
      obtain rfl : ad718 = ad724 := (by injection e724)
      replace p724 := eq_true p724
      replace q724 := eq_true q724
      refine start_ (n := 29) (S := fun w' => w'.cell? (ad718.add ((x20_4).toNat * 3)) = some (.int .i64 ((rd_T41 t694 x20_4).f0)) ∧ w'.cell? ⟨(ad718.add ((x20_4).toNat * 3)).block, (ad718.add ((x20_4).toNat * 3)).off + 1, none⟩ = some (.int .i64 ((rd_T41 t694 x20_4).f1)) ∧ w'.cell? ⟨(ad718.add ((x20_4).toNat * 3)).block, (ad718.add ((x20_4).toNat * 3)).off + 2, none⟩ = some (.int .i64 ((rd_T41 t694 x20_4).f2)) ∧ w'.cell? (ad718.add ((x18_3).toNat * 3)) = some (.int .i64 ((rd_T41 t694 x18_3).f0)) ∧ w'.cell? ⟨(ad718.add ((x18_3).toNat * 3)).block, (ad718.add ((x18_3).toNat * 3)).off + 1, none⟩ = some (.int .i64 ((rd_T41 t694 x18_3).f1)) ∧ w'.cell? ⟨(ad718.add ((x18_3).toNat * 3)).block, (ad718.add ((x18_3).toNat * 3)).off + 2, none⟩ = some (.int .i64 ((rd_T41 t694 x18_3).f2)) ∧ w'.cell? (ad718.add ((x20_4).toNat * 3)) = some (.int .i64 ((rd_T41 t694 x20_4).f0)) ∧ w'.cell? ⟨(ad718.add ((x20_4).toNat * 3)).block, (ad718.add ((x20_4).toNat * 3)).off + 1, none⟩ = some (.int .i64 ((rd_T41 t694 x20_4).f1)) ∧ w'.cell? ⟨(ad718.add ((x20_4).toNat * 3)).block, (ad718.add ((x20_4).toNat * 3)).off + 2, none⟩ = some (.int .i64 ((rd_T41 t694 x20_4).f2)) ∧ w'.cell? (ad718.add ((x18_3).toNat * 3)) = some (.int .i64 ((rd_T41 t694 x18_3).f0)) ∧ w'.cell? ⟨(ad718.add ((x18_3).toNat * 3)).block, (ad718.add ((x18_3).toNat * 3)).off + 1, none⟩ = some (.int .i64 ((rd_T41 t694 x18_3).f1)) ∧ w'.cell? ⟨(ad718.add ((x18_3).toNat * 3)).block, (ad718.add ((x18_3).toNat * 3)).off + 2, none⟩ = some (.int .i64 ((rd_T41 t694 x18_3).f2))) (ds := []) A99995_80 (by kernel_rfl) rfl rfl ⟨hx718_0, hx718_1, hx718_2, hx720_0, hx720_1, hx720_2, hx722_0, hx722_1, hx722_2, hx724_0, hx724_1, hx724_2⟩ (fun hHeld => ?_); refine with_tabW sleuthlaw45_ChangepointSizes.tab26 sleuthlaw45_ChangepointSizes.bits26 (fun HT_ HW_ => ?_)
      generalize wr.drew = w76 at HO_7 HO_16 BK697 BK714 HB hx718_0 hx718_1 hx718_2 hx720_0 hx720_1 hx720_2 hx722_0 hx722_1 hx722_2 hx724_0 hx724_1 hx724_2 hHeld ⊢
      refine pA_ 0 122 A99995_81 HT_ ?_
      refine pA_ 1 123 A99995_82 HT_ ?_
      refine pA_ 2 124 A99995_83 HT_ ?_
      refine pA_ 5 127 A99995_84 HT_ ?_
      refine pA_ 6 128 A99995_85 HT_ ?_
      refine pA_ 7 129 A99995_86 HT_ ?_
      refine take_ (i := 3) (N := some 125) (v := ?_) (a' := ?_) A99995_87 rfl rfl (take_ofW HT_.out HW_.out (by kernel_rfl)) (fun _ _ _ h => h) (Or.inl ⟨by rfl, ?_⟩) hHeld ?_ ?_
      rotate_left
      ·rintro w' ⟨s0, s1, s2, s3, s4, s5, s6, s7, s8, s9, s10, s11⟩
       go_simp
       with_reducible rfl
      rotate_left
      ·simp only [Act.put, List.setIfInBounds_toArray, List.set_cons_zero, List.set_cons_succ, i64_w, i32_w]
       rfl
      refine take_ (i := 8) (N := some 130) (v := ?_) (a' := ?_) A99995_88 rfl rfl (take_ofW HT_.out HW_.out (by kernel_rfl)) (fun _ _ _ h => h) (Or.inl ⟨by rfl, ?_⟩) hHeld ?_ ?_
      rotate_left
      ·rintro w' ⟨s0, s1, s2, s3, s4, s5, s6, s7, s8, s9, s10, s11⟩
       go_simp
       with_reducible rfl
      rotate_left
      ·simp only [Act.put, List.setIfInBounds_toArray, List.set_cons_zero, List.set_cons_succ, i64_w, i32_w]
       rfl
      refine one_ (i := 4) (N := some 126) A99995_89 rfl rfl (one_of HT_.out (by kernel_rfl)) (by decide) (fun K hK => ?_)
      refine goes_ Try.func34 (by kernel_rfl) rfl #[.agg #[.int .i64 ((rd_T41 t694 x20_4).f0), .int .i64 ((rd_T41 t694 x20_4).f1), .int .i64 ((rd_T41 t694 x20_4).f2)]] (by rfl) rfl rfl qgsleuthlaw45changepointsizes_2 ?_
      with_reducible refine (sleuthlaw45_size.calls ((rd_T41 t694 x20_4).f0) ((rd_T41 t694 x20_4).f1) ((rd_T41 t694 x20_4).f2) t719 _ A54.out).mono ?_
      rintro e w77 ⟨rfl, hb⟩
      have HS0_ := (hb.cell (World.block_lt_of_cell? _ _ (hHeld.1))).trans (hHeld.1)
      have HS1_ := (hb.cell (World.block_lt_of_cell? _ _ (hHeld.2.1))).trans (hHeld.2.1)
      have HS2_ := (hb.cell (World.block_lt_of_cell? _ _ (hHeld.2.2.1))).trans (hHeld.2.2.1)
      have HS3_ := (hb.cell (World.block_lt_of_cell? _ _ (hHeld.2.2.2.1))).trans (hHeld.2.2.2.1)
      have HS4_ := (hb.cell (World.block_lt_of_cell? _ _ (hHeld.2.2.2.2.1))).trans (hHeld.2.2.2.2.1)
      have HS5_ := (hb.cell (World.block_lt_of_cell? _ _ (hHeld.2.2.2.2.2.1))).trans (hHeld.2.2.2.2.2.1)
      have HS6_ := (hb.cell (World.block_lt_of_cell? _ _ (hHeld.2.2.2.2.2.2.1))).trans (hHeld.2.2.2.2.2.2.1)
      have HS7_ := (hb.cell (World.block_lt_of_cell? _ _ (hHeld.2.2.2.2.2.2.2.1))).trans (hHeld.2.2.2.2.2.2.2.1)
      have HS8_ := (hb.cell (World.block_lt_of_cell? _ _ (hHeld.2.2.2.2.2.2.2.2.1))).trans (hHeld.2.2.2.2.2.2.2.2.1)
      have HS9_ := (hb.cell (World.block_lt_of_cell? _ _ (hHeld.2.2.2.2.2.2.2.2.2.1))).trans (hHeld.2.2.2.2.2.2.2.2.2.1)
      have HS10_ := (hb.cell (World.block_lt_of_cell? _ _ (hHeld.2.2.2.2.2.2.2.2.2.2.1))).trans (hHeld.2.2.2.2.2.2.2.2.2.2.1)
      have HS11_ := (hb.cell (World.block_lt_of_cell? _ _ (hHeld.2.2.2.2.2.2.2.2.2.2.2))).trans (hHeld.2.2.2.2.2.2.2.2.2.2.2)
      refine ⟨_, rfl, ?_⟩
      have n0_ := Aside0.mk (Kd.R_below qgsleuthlaw45changepointsizes_3 hb)
      have n1_ := Aside0.mk (Kd.R_below qgsleuthlaw45changepointsizes_6 hb)
      have n2_ := Aside0.mk (blk_below (g := gb697) (o := .cells #[.int .i64 x698000_1, .int .i64 x698001_1, .int .i64 x698002_1] 41 (0, 0)) qgsleuthlaw45changepointsizes_1 hb)
      have n3_ := Aside0.mk (blk_below (g := gb714) (o := .cells #[.int .i64 t710, .int .i64 t711, .int .i64 t712] 41 (0, 0)) qgsleuthlaw45changepointsizes_4 hb)
      have n4_ := Aside0.mk (below_step qgsleuthlaw45changepointsizes_0 hb)
      clear HO_7
      clear HO_16
      clear BK697
      clear BK714
      clear HB
      have HO_7 := n0_
      have HO_16 := n1_
      have BK697 := n2_
      have BK714 := n3_
      have HB := n4_
      clear n0_ n1_ n2_ n3_ n4_
      (try clear hb)
      (try clear hb2)
      (try clear hk)
      (try clear hi)
      refine hK.out _ _ ⟨HS0_, HS1_, HS2_, HS3_, HS4_, HS5_, HS6_, HS7_, HS8_, HS9_, HS10_, HS11_⟩ (fun hHeld => ?_)
      clear hK K
      refine norm_ (a' := ?_) ?_ ?_
      rotate_left
      ·show Act.put _ (some 126) _ = _
       simp only [Act.put, List.setIfInBounds_toArray, List.set_cons_zero, List.set_cons_succ, i64_w, i32_w]
       rfl
      refine one_ (i := 9) (N := some 131) A99995_90 rfl rfl (one_of HT_.out (by kernel_rfl)) (by decide) (fun K hK => ?_)
      refine goes_ Try.func34 (by kernel_rfl) rfl #[.agg #[.int .i64 ((rd_T41 t694 x18_3).f0), .int .i64 ((rd_T41 t694 x18_3).f1), .int .i64 ((rd_T41 t694 x18_3).f2)]] (by rfl) rfl rfl qgsleuthlaw45changepointsizes_2 ?_
      with_reducible refine (sleuthlaw45_size.calls ((rd_T41 t694 x18_3).f0) ((rd_T41 t694 x18_3).f1) ((rd_T41 t694 x18_3).f2) t721 _ A57.out).mono ?_
      rintro e w78 ⟨rfl, hb⟩
      have HS0_ := (hb.cell (World.block_lt_of_cell? _ _ (hHeld.1))).trans (hHeld.1)
      have HS1_ := (hb.cell (World.block_lt_of_cell? _ _ (hHeld.2.1))).trans (hHeld.2.1)
      have HS2_ := (hb.cell (World.block_lt_of_cell? _ _ (hHeld.2.2.1))).trans (hHeld.2.2.1)
      have HS3_ := (hb.cell (World.block_lt_of_cell? _ _ (hHeld.2.2.2.1))).trans (hHeld.2.2.2.1)
      have HS4_ := (hb.cell (World.block_lt_of_cell? _ _ (hHeld.2.2.2.2.1))).trans (hHeld.2.2.2.2.1)
      have HS5_ := (hb.cell (World.block_lt_of_cell? _ _ (hHeld.2.2.2.2.2.1))).trans (hHeld.2.2.2.2.2.1)
      have HS6_ := (hb.cell (World.block_lt_of_cell? _ _ (hHeld.2.2.2.2.2.2.1))).trans (hHeld.2.2.2.2.2.2.1)
      have HS7_ := (hb.cell (World.block_lt_of_cell? _ _ (hHeld.2.2.2.2.2.2.2.1))).trans (hHeld.2.2.2.2.2.2.2.1)
      have HS8_ := (hb.cell (World.block_lt_of_cell? _ _ (hHeld.2.2.2.2.2.2.2.2.1))).trans (hHeld.2.2.2.2.2.2.2.2.1)
      have HS9_ := (hb.cell (World.block_lt_of_cell? _ _ (hHeld.2.2.2.2.2.2.2.2.2.1))).trans (hHeld.2.2.2.2.2.2.2.2.2.1)
      have HS10_ := (hb.cell (World.block_lt_of_cell? _ _ (hHeld.2.2.2.2.2.2.2.2.2.2.1))).trans (hHeld.2.2.2.2.2.2.2.2.2.2.1)
      have HS11_ := (hb.cell (World.block_lt_of_cell? _ _ (hHeld.2.2.2.2.2.2.2.2.2.2.2))).trans (hHeld.2.2.2.2.2.2.2.2.2.2.2)
      refine ⟨_, rfl, ?_⟩
      have n0_ := Aside0.mk (Kd.R_below qgsleuthlaw45changepointsizes_3 hb)
      have n1_ := Aside0.mk (Kd.R_below qgsleuthlaw45changepointsizes_6 hb)
      have n2_ := Aside0.mk (blk_below (g := gb697) (o := .cells #[.int .i64 x698000_1, .int .i64 x698001_1, .int .i64 x698002_1] 41 (0, 0)) qgsleuthlaw45changepointsizes_1 hb)
      have n3_ := Aside0.mk (blk_below (g := gb714) (o := .cells #[.int .i64 t710, .int .i64 t711, .int .i64 t712] 41 (0, 0)) qgsleuthlaw45changepointsizes_4 hb)
      have n4_ := Aside0.mk (below_step qgsleuthlaw45changepointsizes_0 hb)
      clear HO_7
      clear HO_16
      clear BK697
      clear BK714
      clear HB
      have HO_7 := n0_
      have HO_16 := n1_
      have BK697 := n2_
      have BK714 := n3_
      have HB := n4_
      clear n0_ n1_ n2_ n3_ n4_
      (try clear hb)
      (try clear hb2)
      (try clear hk)
      (try clear hi)
      refine hK.out _ _ ⟨HS0_, HS1_, HS2_, HS3_, HS4_, HS5_, HS6_, HS7_, HS8_, HS9_, HS10_, HS11_⟩ (fun hHeld => ?_)
      clear hK K
      refine norm_ (a' := ?_) ?_ ?_
      rotate_left
      ·show Act.put _ (some 131) _ = _
       simp only [Act.put, List.setIfInBounds_toArray, List.set_cons_zero, List.set_cons_succ, i64_w, i32_w]
       rfl
      refine pA_ 10 132 A99995_91 HT_ ?_
      refine pA_ 11 133 A99995_92 HT_ ?_
      refine pA_ 12 134 A99995_93 HT_ ?_
      refine pA_ 13 135 A99995_94 HT_ ?_
      refine pA_ 14 136 A99995_95 HT_ ?_
      refine pA_ 17 139 A99995_110 HT_ ?_
      refine pA_ 18 140 A99995_111 HT_ ?_
      refine pA_ 19 141 A99995_112 HT_ ?_
      refine take_ (i := 15) (N := some 137) (v := ?_) (a' := ?_) A99995_113 rfl rfl (take_ofW HT_.out HW_.out (by kernel_rfl)) (fun _ _ _ h => h) (Or.inl ⟨by rfl, ?_⟩) hHeld ?_ ?_
      rotate_left
      ·rintro w' ⟨s0, s1, s2, s3, s4, s5, s6, s7, s8, s9, s10, s11⟩
       go_simp
       with_reducible rfl
      rotate_left
      ·simp only [Act.put, List.setIfInBounds_toArray, List.set_cons_zero, List.set_cons_succ, i64_w, i32_w]
       rfl
      refine take_ (i := 20) (N := some 142) (v := ?_) (a' := ?_) A99995_114 rfl rfl (take_ofW HT_.out HW_.out (by kernel_rfl)) (fun _ _ _ h => h) (Or.inl ⟨by rfl, ?_⟩) hHeld ?_ ?_
      rotate_left
      ·rintro w' ⟨s0, s1, s2, s3, s4, s5, s6, s7, s8, s9, s10, s11⟩
       go_simp
       with_reducible rfl
      rotate_left
      ·simp only [Act.put, List.setIfInBounds_toArray, List.set_cons_zero, List.set_cons_succ, i64_w, i32_w]
       rfl
      refine one_ (i := 16) (N := some 138) A99995_101 rfl rfl (one_of HT_.out (by kernel_rfl)) (by decide) (fun K hK => ?_)
      refine goes_ Try.func34 (by kernel_rfl) rfl #[.agg #[.int .i64 ((rd_T41 t694 x20_4).f0), .int .i64 ((rd_T41 t694 x20_4).f1), .int .i64 ((rd_T41 t694 x20_4).f2)]] (by rfl) rfl rfl qgsleuthlaw45changepointsizes_2 ?_
      with_reducible refine (sleuthlaw45_size.calls ((rd_T41 t694 x20_4).f0) ((rd_T41 t694 x20_4).f1) ((rd_T41 t694 x20_4).f2) t723 _ A62.out).mono ?_
      rintro e w79 ⟨rfl, hb⟩
      have HS0_ := (hb.cell (World.block_lt_of_cell? _ _ (hHeld.1))).trans (hHeld.1)
      have HS1_ := (hb.cell (World.block_lt_of_cell? _ _ (hHeld.2.1))).trans (hHeld.2.1)
      have HS2_ := (hb.cell (World.block_lt_of_cell? _ _ (hHeld.2.2.1))).trans (hHeld.2.2.1)
      have HS3_ := (hb.cell (World.block_lt_of_cell? _ _ (hHeld.2.2.2.1))).trans (hHeld.2.2.2.1)
      have HS4_ := (hb.cell (World.block_lt_of_cell? _ _ (hHeld.2.2.2.2.1))).trans (hHeld.2.2.2.2.1)
      have HS5_ := (hb.cell (World.block_lt_of_cell? _ _ (hHeld.2.2.2.2.2.1))).trans (hHeld.2.2.2.2.2.1)
      have HS6_ := (hb.cell (World.block_lt_of_cell? _ _ (hHeld.2.2.2.2.2.2.1))).trans (hHeld.2.2.2.2.2.2.1)
      have HS7_ := (hb.cell (World.block_lt_of_cell? _ _ (hHeld.2.2.2.2.2.2.2.1))).trans (hHeld.2.2.2.2.2.2.2.1)
      have HS8_ := (hb.cell (World.block_lt_of_cell? _ _ (hHeld.2.2.2.2.2.2.2.2.1))).trans (hHeld.2.2.2.2.2.2.2.2.1)
      have HS9_ := (hb.cell (World.block_lt_of_cell? _ _ (hHeld.2.2.2.2.2.2.2.2.2.1))).trans (hHeld.2.2.2.2.2.2.2.2.2.1)
      have HS10_ := (hb.cell (World.block_lt_of_cell? _ _ (hHeld.2.2.2.2.2.2.2.2.2.2.1))).trans (hHeld.2.2.2.2.2.2.2.2.2.2.1)
      have HS11_ := (hb.cell (World.block_lt_of_cell? _ _ (hHeld.2.2.2.2.2.2.2.2.2.2.2))).trans (hHeld.2.2.2.2.2.2.2.2.2.2.2)
      refine ⟨_, rfl, ?_⟩
      have n0_ := Aside0.mk (Kd.R_below qgsleuthlaw45changepointsizes_3 hb)
      have n1_ := Aside0.mk (Kd.R_below qgsleuthlaw45changepointsizes_6 hb)
      have n2_ := Aside0.mk (blk_below (g := gb697) (o := .cells #[.int .i64 x698000_1, .int .i64 x698001_1, .int .i64 x698002_1] 41 (0, 0)) qgsleuthlaw45changepointsizes_1 hb)
      have n3_ := Aside0.mk (blk_below (g := gb714) (o := .cells #[.int .i64 t710, .int .i64 t711, .int .i64 t712] 41 (0, 0)) qgsleuthlaw45changepointsizes_4 hb)
      have n4_ := Aside0.mk (below_step qgsleuthlaw45changepointsizes_0 hb)
      clear HO_7
      clear HO_16
      clear BK697
      clear BK714
      clear HB
      have HO_7 := n0_
      have HO_16 := n1_
      have BK697 := n2_
      have BK714 := n3_
      have HB := n4_
      clear n0_ n1_ n2_ n3_ n4_
      (try clear hb)
      (try clear hb2)
      (try clear hk)
      (try clear hi)
      refine hK.out _ _ ⟨HS0_, HS1_, HS2_, HS3_, HS4_, HS5_, HS6_, HS7_, HS8_, HS9_, HS10_, HS11_⟩ (fun hHeld => ?_)
      clear hK K
      refine norm_ (a' := ?_) ?_ ?_
      rotate_left
      ·show Act.put _ (some 138) _ = _
       simp only [Act.put, List.setIfInBounds_toArray, List.set_cons_zero, List.set_cons_succ, i64_w, i32_w]
       rfl
      refine one_ (i := 21) (N := some 143) A99995_102 rfl rfl (one_of HT_.out (by kernel_rfl)) (by decide) (fun K hK => ?_)
      refine goes_ Try.func34 (by kernel_rfl) rfl #[.agg #[.int .i64 ((rd_T41 t694 x18_3).f0), .int .i64 ((rd_T41 t694 x18_3).f1), .int .i64 ((rd_T41 t694 x18_3).f2)]] (by rfl) rfl rfl qgsleuthlaw45changepointsizes_2 ?_
      with_reducible refine (sleuthlaw45_size.calls ((rd_T41 t694 x18_3).f0) ((rd_T41 t694 x18_3).f1) ((rd_T41 t694 x18_3).f2) t725 _ A63.out).mono ?_
      rintro e w80 ⟨rfl, hb⟩
      have HS0_ := (hb.cell (World.block_lt_of_cell? _ _ (hHeld.1))).trans (hHeld.1)
      have HS1_ := (hb.cell (World.block_lt_of_cell? _ _ (hHeld.2.1))).trans (hHeld.2.1)
      have HS2_ := (hb.cell (World.block_lt_of_cell? _ _ (hHeld.2.2.1))).trans (hHeld.2.2.1)
      have HS3_ := (hb.cell (World.block_lt_of_cell? _ _ (hHeld.2.2.2.1))).trans (hHeld.2.2.2.1)
      have HS4_ := (hb.cell (World.block_lt_of_cell? _ _ (hHeld.2.2.2.2.1))).trans (hHeld.2.2.2.2.1)
      have HS5_ := (hb.cell (World.block_lt_of_cell? _ _ (hHeld.2.2.2.2.2.1))).trans (hHeld.2.2.2.2.2.1)
      have HS6_ := (hb.cell (World.block_lt_of_cell? _ _ (hHeld.2.2.2.2.2.2.1))).trans (hHeld.2.2.2.2.2.2.1)
      have HS7_ := (hb.cell (World.block_lt_of_cell? _ _ (hHeld.2.2.2.2.2.2.2.1))).trans (hHeld.2.2.2.2.2.2.2.1)
      have HS8_ := (hb.cell (World.block_lt_of_cell? _ _ (hHeld.2.2.2.2.2.2.2.2.1))).trans (hHeld.2.2.2.2.2.2.2.2.1)
      have HS9_ := (hb.cell (World.block_lt_of_cell? _ _ (hHeld.2.2.2.2.2.2.2.2.2.1))).trans (hHeld.2.2.2.2.2.2.2.2.2.1)
      have HS10_ := (hb.cell (World.block_lt_of_cell? _ _ (hHeld.2.2.2.2.2.2.2.2.2.2.1))).trans (hHeld.2.2.2.2.2.2.2.2.2.2.1)
      have HS11_ := (hb.cell (World.block_lt_of_cell? _ _ (hHeld.2.2.2.2.2.2.2.2.2.2.2))).trans (hHeld.2.2.2.2.2.2.2.2.2.2.2)
      refine ⟨_, rfl, ?_⟩
      have n0_ := Aside0.mk (Kd.R_below qgsleuthlaw45changepointsizes_3 hb)
      have n1_ := Aside0.mk (Kd.R_below qgsleuthlaw45changepointsizes_6 hb)
      have n2_ := Aside0.mk (blk_below (g := gb697) (o := .cells #[.int .i64 x698000_1, .int .i64 x698001_1, .int .i64 x698002_1] 41 (0, 0)) qgsleuthlaw45changepointsizes_1 hb)
      have n3_ := Aside0.mk (blk_below (g := gb714) (o := .cells #[.int .i64 t710, .int .i64 t711, .int .i64 t712] 41 (0, 0)) qgsleuthlaw45changepointsizes_4 hb)
      have n4_ := Aside0.mk (below_step qgsleuthlaw45changepointsizes_0 hb)
      clear HO_7
      clear HO_16
      clear BK697
      clear BK714
      clear HB
      have HO_7 := n0_
      have HO_16 := n1_
      have BK697 := n2_
      have BK714 := n3_
      have HB := n4_
      clear n0_ n1_ n2_ n3_ n4_
      (try clear hb)
      (try clear hb2)
      (try clear hk)
      (try clear hi)
      refine hK.out _ _ ⟨HS0_, HS1_, HS2_, HS3_, HS4_, HS5_, HS6_, HS7_, HS8_, HS9_, HS10_, HS11_⟩ (fun hHeld => ?_)
      clear hK K
      refine norm_ (a' := ?_) ?_ ?_
      rotate_left
      ·show Act.put _ (some 143) _ = _
       simp only [Act.put, List.setIfInBounds_toArray, List.set_cons_zero, List.set_cons_succ, i64_w, i32_w]
       rfl
      refine pA_ 22 144 A99995_103 HT_ ?_
      refine pA_ 23 145 A99995_104 HT_ ?_
      refine pB_ 24 146 A99995_105 HT_ ?_
      refine pB_ 25 147 A99995_106 HT_ ?_
      refine pB_ 26 148 A99995_107 HT_ ?_
      refine pA_ 27 149 A99995_108 HT_ ?_
      refine pA_ 28 150 A99995_109 HT_ ?_
      refine done_ (done_of HT_.out (by kernel_rfl)) ?_
      try go_wp2
      go_roundg k4
      case measure => have := HK1.out; have := HJ37.out; have := HK3.out; have := HK4.out; omega
      case rel => exact ⟨(x19_4), (wrap64 (x20_4 + 1)), qgsleuthlaw45changepointsizes_11, qgsleuthlaw45changepointsizes_11, H', ⟨qgsleuthlaw45changepointsizes_14⟩, ⟨qgsleuthlaw45changepointsizes_3⟩, ⟨qgsleuthlaw45changepointsizes_6⟩, ⟨qgsleuthlaw45changepointsizes_1⟩, ⟨qgsleuthlaw45changepointsizes_4⟩, ⟨qgsleuthlaw45changepointsizes_0⟩⟩
     rw [if_pos c64] at H
     have c64b0 : (t723 == t725) = true := beq_iff_eq.mpr c64
     have c64b1 : (t723 != t725) = false := bne_eq_false_iff_eq.mpr c64
     clear c64
     by_cases c65 : x20_4 < x18_3
     rotate_left
     ·rw [if_neg c65] at H
      have c65b0 : decide (x20_4 < x18_3) = false := decide_eq_false c65
      clear c65
      have H' := Aside0.mk H
      clear H
      try go_wp2
      have n0_ := Aside0.mk (Kd.R_drew HO_7.out)
      have n1_ := Aside0.mk (Kd.R_drew HO_16.out)
      have n2_ := Aside0.mk (blk_drew BK697.out)
      have n3_ := Aside0.mk (blk_drew BK714.out)
      have n4_ := Aside0.mk (below_drew1 HB.out)
      clear HO_7
      clear HO_16
      clear BK697
      clear BK714
      clear HB
      have HO_7 := n0_
      have HO_16 := n1_
      have BK697 := n2_
      have BK714 := n3_
      have HB := n4_
      clear n0_ n1_ n2_ n3_ n4_
      have p718 : 0 ≤ (x20_4 : Int) := of_decide_eq_true qgsleuthlaw45changepointsizes_7
      have q718 : x20_4 < (t694.length : Int) := of_decide_eq_true qgsleuthlaw45changepointsizes_7
      obtain ⟨ad718, e718, hx718_0, hx718_1, hx718_2⟩ := at_T41 (Kd.R_reads' HO_7.out).2.2 x20_4 p718 q718
      cases e718
      replace p718 := eq_true p718
      replace q718 := eq_true q718
      have p720 : 0 ≤ (x18_3 : Int) := of_decide_eq_true qgsleuthlaw45changepointsizes_7
      have q720 : x18_3 < (t694.length : Int) := of_decide_eq_true qgsleuthlaw45changepointsizes_7
      obtain ⟨ad720, e720, hx720_0, hx720_1, hx720_2⟩ := at_T41 (Kd.R_reads' HO_7.out).2.2 x18_3 p720 q720
      obtain rfl : ad718 = ad720 := (by injection e720)
      replace p720 := eq_true p720
      replace q720 := eq_true q720
      have p722 : 0 ≤ (x20_4 : Int) := of_decide_eq_true qgsleuthlaw45changepointsizes_7
      have q722 : x20_4 < (t694.length : Int) := of_decide_eq_true qgsleuthlaw45changepointsizes_7
      obtain ⟨ad722, e722, hx722_0, hx722_1, hx722_2⟩ := at_T41 (Kd.R_reads' HO_7.out).2.2 x20_4 p722 q722
      obtain rfl : ad718 = ad722 := (by injection e722)
      replace p722 := eq_true p722
      replace q722 := eq_true q722
      have p724 : 0 ≤ (x18_3 : Int) := of_decide_eq_true qgsleuthlaw45changepointsizes_7
      have q724 : x18_3 < (t694.length : Int) := of_decide_eq_true qgsleuthlaw45changepointsizes_7
      obtain ⟨ad724, e724, hx724_0, hx724_1, hx724_2⟩ := at_T41 (Kd.R_reads' HO_7.out).2.2 x18_3 p724 q724
      obtain rfl : ad718 = ad724 := (by injection e724)
      replace p724 := eq_true p724
      replace q724 := eq_true q724
      refine start_ (n := 29) (S := fun w' => w'.cell? (ad718.add ((x20_4).toNat * 3)) = some (.int .i64 ((rd_T41 t694 x20_4).f0)) ∧ w'.cell? ⟨(ad718.add ((x20_4).toNat * 3)).block, (ad718.add ((x20_4).toNat * 3)).off + 1, none⟩ = some (.int .i64 ((rd_T41 t694 x20_4).f1)) ∧ w'.cell? ⟨(ad718.add ((x20_4).toNat * 3)).block, (ad718.add ((x20_4).toNat * 3)).off + 2, none⟩ = some (.int .i64 ((rd_T41 t694 x20_4).f2)) ∧ w'.cell? (ad718.add ((x18_3).toNat * 3)) = some (.int .i64 ((rd_T41 t694 x18_3).f0)) ∧ w'.cell? ⟨(ad718.add ((x18_3).toNat * 3)).block, (ad718.add ((x18_3).toNat * 3)).off + 1, none⟩ = some (.int .i64 ((rd_T41 t694 x18_3).f1)) ∧ w'.cell? ⟨(ad718.add ((x18_3).toNat * 3)).block, (ad718.add ((x18_3).toNat * 3)).off + 2, none⟩ = some (.int .i64 ((rd_T41 t694 x18_3).f2)) ∧ w'.cell? (ad718.add ((x20_4).toNat * 3)) = some (.int .i64 ((rd_T41 t694 x20_4).f0)) ∧ w'.cell? ⟨(ad718.add ((x20_4).toNat * 3)).block, (ad718.add ((x20_4).toNat * 3)).off + 1, none⟩ = some (.int .i64 ((rd_T41 t694 x20_4).f1)) ∧ w'.cell? ⟨(ad718.add ((x20_4).toNat * 3)).block, (ad718.add ((x20_4).toNat * 3)).off + 2, none⟩ = some (.int .i64 ((rd_T41 t694 x20_4).f2)) ∧ w'.cell? (ad718.add ((x18_3).toNat * 3)) = some (.int .i64 ((rd_T41 t694 x18_3).f0)) ∧ w'.cell? ⟨(ad718.add ((x18_3).toNat * 3)).block, (ad718.add ((x18_3).toNat * 3)).off + 1, none⟩ = some (.int .i64 ((rd_T41 t694 x18_3).f1)) ∧ w'.cell? ⟨(ad718.add ((x18_3).toNat * 3)).block, (ad718.add ((x18_3).toNat * 3)).off + 2, none⟩ = some (.int .i64 ((rd_T41 t694 x18_3).f2))) (ds := []) A99995_80 (by kernel_rfl) rfl rfl ⟨hx718_0, hx718_1, hx718_2, hx720_0, hx720_1, hx720_2, hx722_0, hx722_1, hx722_2, hx724_0, hx724_1, hx724_2⟩ (fun hHeld => ?_); refine with_tabW sleuthlaw45_ChangepointSizes.tab26 sleuthlaw45_ChangepointSizes.bits26 (fun HT_ HW_ => ?_)
      generalize wr.drew = w71 at HO_7 HO_16 BK697 BK714 HB hx718_0 hx718_1 hx718_2 hx720_0 hx720_1 hx720_2 hx722_0 hx722_1 hx722_2 hx724_0 hx724_1 hx724_2 hHeld ⊢
      refine pA_ 0 122 A99995_81 HT_ ?_
      refine pA_ 1 123 A99995_82 HT_ ?_
      refine pA_ 2 124 A99995_83 HT_ ?_
      refine pA_ 5 127 A99995_84 HT_ ?_
      refine pA_ 6 128 A99995_85 HT_ ?_
      refine pA_ 7 129 A99995_86 HT_ ?_
      refine take_ (i := 3) (N := some 125) (v := ?_) (a' := ?_) A99995_87 rfl rfl (take_ofW HT_.out HW_.out (by kernel_rfl)) (fun _ _ _ h => h) (Or.inl ⟨by rfl, ?_⟩) hHeld ?_ ?_
      rotate_left
      ·rintro w' ⟨s0, s1, s2, s3, s4, s5, s6, s7, s8, s9, s10, s11⟩
       go_simp
       with_reducible rfl
      rotate_left
      ·simp only [Act.put, List.setIfInBounds_toArray, List.set_cons_zero, List.set_cons_succ, i64_w, i32_w]
       rfl
      refine take_ (i := 8) (N := some 130) (v := ?_) (a' := ?_) A99995_88 rfl rfl (take_ofW HT_.out HW_.out (by kernel_rfl)) (fun _ _ _ h => h) (Or.inl ⟨by rfl, ?_⟩) hHeld ?_ ?_
      rotate_left
      ·rintro w' ⟨s0, s1, s2, s3, s4, s5, s6, s7, s8, s9, s10, s11⟩
       go_simp
       with_reducible rfl
      rotate_left
      ·simp only [Act.put, List.setIfInBounds_toArray, List.set_cons_zero, List.set_cons_succ, i64_w, i32_w]
       rfl
      refine one_ (i := 4) (N := some 126) A99995_89 rfl rfl (one_of HT_.out (by kernel_rfl)) (by decide) (fun K hK => ?_)
      refine goes_ Try.func34 (by kernel_rfl) rfl #[.agg #[.int .i64 ((rd_T41 t694 x20_4).f0), .int .i64 ((rd_T41 t694 x20_4).f1), .int .i64 ((rd_T41 t694 x20_4).f2)]] (by rfl) rfl rfl qgsleuthlaw45changepointsizes_2 ?_
      with_reducible refine (sleuthlaw45_size.calls ((rd_T41 t694 x20_4).f0) ((rd_T41 t694 x20_4).f1) ((rd_T41 t694 x20_4).f2) t719 _ A54.out).mono ?_
      rintro e w72 ⟨rfl, hb⟩
      have HS0_ := (hb.cell (World.block_lt_of_cell? _ _ (hHeld.1))).trans (hHeld.1)
      have HS1_ := (hb.cell (World.block_lt_of_cell? _ _ (hHeld.2.1))).trans (hHeld.2.1)
      have HS2_ := (hb.cell (World.block_lt_of_cell? _ _ (hHeld.2.2.1))).trans (hHeld.2.2.1)
      have HS3_ := (hb.cell (World.block_lt_of_cell? _ _ (hHeld.2.2.2.1))).trans (hHeld.2.2.2.1)
      have HS4_ := (hb.cell (World.block_lt_of_cell? _ _ (hHeld.2.2.2.2.1))).trans (hHeld.2.2.2.2.1)
      have HS5_ := (hb.cell (World.block_lt_of_cell? _ _ (hHeld.2.2.2.2.2.1))).trans (hHeld.2.2.2.2.2.1)
      have HS6_ := (hb.cell (World.block_lt_of_cell? _ _ (hHeld.2.2.2.2.2.2.1))).trans (hHeld.2.2.2.2.2.2.1)
      have HS7_ := (hb.cell (World.block_lt_of_cell? _ _ (hHeld.2.2.2.2.2.2.2.1))).trans (hHeld.2.2.2.2.2.2.2.1)
      have HS8_ := (hb.cell (World.block_lt_of_cell? _ _ (hHeld.2.2.2.2.2.2.2.2.1))).trans (hHeld.2.2.2.2.2.2.2.2.1)
      have HS9_ := (hb.cell (World.block_lt_of_cell? _ _ (hHeld.2.2.2.2.2.2.2.2.2.1))).trans (hHeld.2.2.2.2.2.2.2.2.2.1)
      have HS10_ := (hb.cell (World.block_lt_of_cell? _ _ (hHeld.2.2.2.2.2.2.2.2.2.2.1))).trans (hHeld.2.2.2.2.2.2.2.2.2.2.1)
      have HS11_ := (hb.cell (World.block_lt_of_cell? _ _ (hHeld.2.2.2.2.2.2.2.2.2.2.2))).trans (hHeld.2.2.2.2.2.2.2.2.2.2.2)
      refine ⟨_, rfl, ?_⟩
      have n0_ := Aside0.mk (Kd.R_below qgsleuthlaw45changepointsizes_3 hb)
      have n1_ := Aside0.mk (Kd.R_below qgsleuthlaw45changepointsizes_6 hb)
      have n2_ := Aside0.mk (blk_below (g := gb697) (o := .cells #[.int .i64 x698000_1, .int .i64 x698001_1, .int .i64 x698002_1] 41 (0, 0)) qgsleuthlaw45changepointsizes_1 hb)
      have n3_ := Aside0.mk (blk_below (g := gb714) (o := .cells #[.int .i64 t710, .int .i64 t711, .int .i64 t712] 41 (0, 0)) qgsleuthlaw45changepointsizes_4 hb)
      have n4_ := Aside0.mk (below_step qgsleuthlaw45changepointsizes_0 hb)
      clear HO_7
      clear HO_16
      clear BK697
      clear BK714
      clear HB
      have HO_7 := n0_
      have HO_16 := n1_
      have BK697 := n2_
      have BK714 := n3_
      have HB := n4_
      clear n0_ n1_ n2_ n3_ n4_
      (try clear hb)
      (try clear hb2)
      (try clear hk)
      (try clear hi)
      refine hK.out _ _ ⟨HS0_, HS1_, HS2_, HS3_, HS4_, HS5_, HS6_, HS7_, HS8_, HS9_, HS10_, HS11_⟩ (fun hHeld => ?_)
      clear hK K
      refine norm_ (a' := ?_) ?_ ?_
      rotate_left
      ·show Act.put _ (some 126) _ = _
       simp only [Act.put, List.setIfInBounds_toArray, List.set_cons_zero, List.set_cons_succ, i64_w, i32_w]
       rfl
      refine one_ (i := 9) (N := some 131) A99995_90 rfl rfl (one_of HT_.out (by kernel_rfl)) (by decide) (fun K hK => ?_)
      refine goes_ Try.func34 (by kernel_rfl) rfl #[.agg #[.int .i64 ((rd_T41 t694 x18_3).f0), .int .i64 ((rd_T41 t694 x18_3).f1), .int .i64 ((rd_T41 t694 x18_3).f2)]] (by rfl) rfl rfl qgsleuthlaw45changepointsizes_2 ?_
      with_reducible refine (sleuthlaw45_size.calls ((rd_T41 t694 x18_3).f0) ((rd_T41 t694 x18_3).f1) ((rd_T41 t694 x18_3).f2) t721 _ A57.out).mono ?_
      rintro e w73 ⟨rfl, hb⟩
      have HS0_ := (hb.cell (World.block_lt_of_cell? _ _ (hHeld.1))).trans (hHeld.1)
      have HS1_ := (hb.cell (World.block_lt_of_cell? _ _ (hHeld.2.1))).trans (hHeld.2.1)
      have HS2_ := (hb.cell (World.block_lt_of_cell? _ _ (hHeld.2.2.1))).trans (hHeld.2.2.1)
      have HS3_ := (hb.cell (World.block_lt_of_cell? _ _ (hHeld.2.2.2.1))).trans (hHeld.2.2.2.1)
      have HS4_ := (hb.cell (World.block_lt_of_cell? _ _ (hHeld.2.2.2.2.1))).trans (hHeld.2.2.2.2.1)
      have HS5_ := (hb.cell (World.block_lt_of_cell? _ _ (hHeld.2.2.2.2.2.1))).trans (hHeld.2.2.2.2.2.1)
      have HS6_ := (hb.cell (World.block_lt_of_cell? _ _ (hHeld.2.2.2.2.2.2.1))).trans (hHeld.2.2.2.2.2.2.1)
      have HS7_ := (hb.cell (World.block_lt_of_cell? _ _ (hHeld.2.2.2.2.2.2.2.1))).trans (hHeld.2.2.2.2.2.2.2.1)
      have HS8_ := (hb.cell (World.block_lt_of_cell? _ _ (hHeld.2.2.2.2.2.2.2.2.1))).trans (hHeld.2.2.2.2.2.2.2.2.1)
      have HS9_ := (hb.cell (World.block_lt_of_cell? _ _ (hHeld.2.2.2.2.2.2.2.2.2.1))).trans (hHeld.2.2.2.2.2.2.2.2.2.1)
      have HS10_ := (hb.cell (World.block_lt_of_cell? _ _ (hHeld.2.2.2.2.2.2.2.2.2.2.1))).trans (hHeld.2.2.2.2.2.2.2.2.2.2.1)
      have HS11_ := (hb.cell (World.block_lt_of_cell? _ _ (hHeld.2.2.2.2.2.2.2.2.2.2.2))).trans (hHeld.2.2.2.2.2.2.2.2.2.2.2)
      refine ⟨_, rfl, ?_⟩
      have n0_ := Aside0.mk (Kd.R_below qgsleuthlaw45changepointsizes_3 hb)
      have n1_ := Aside0.mk (Kd.R_below qgsleuthlaw45changepointsizes_6 hb)
      have n2_ := Aside0.mk (blk_below (g := gb697) (o := .cells #[.int .i64 x698000_1, .int .i64 x698001_1, .int .i64 x698002_1] 41 (0, 0)) qgsleuthlaw45changepointsizes_1 hb)
      have n3_ := Aside0.mk (blk_below (g := gb714) (o := .cells #[.int .i64 t710, .int .i64 t711, .int .i64 t712] 41 (0, 0)) qgsleuthlaw45changepointsizes_4 hb)
      have n4_ := Aside0.mk (below_step qgsleuthlaw45changepointsizes_0 hb)
      clear HO_7
      clear HO_16
      clear BK697
      clear BK714
      clear HB
      have HO_7 := n0_
      have HO_16 := n1_
      have BK697 := n2_
      have BK714 := n3_
      have HB := n4_
      clear n0_ n1_ n2_ n3_ n4_
      (try clear hb)
      (try clear hb2)
      (try clear hk)
      (try clear hi)
      refine hK.out _ _ ⟨HS0_, HS1_, HS2_, HS3_, HS4_, HS5_, HS6_, HS7_, HS8_, HS9_, HS10_, HS11_⟩ (fun hHeld => ?_)
      clear hK K
      refine norm_ (a' := ?_) ?_ ?_
      rotate_left
      ·show Act.put _ (some 131) _ = _
       simp only [Act.put, List.setIfInBounds_toArray, List.set_cons_zero, List.set_cons_succ, i64_w, i32_w]
       rfl
      refine pA_ 10 132 A99995_91 HT_ ?_
      refine pA_ 11 133 A99995_92 HT_ ?_
      refine pA_ 12 134 A99995_93 HT_ ?_
      refine pA_ 13 135 A99995_94 HT_ ?_
      refine pA_ 14 136 A99995_95 HT_ ?_
      refine pA_ 17 139 A99995_110 HT_ ?_
      refine pA_ 18 140 A99995_111 HT_ ?_
      refine pA_ 19 141 A99995_112 HT_ ?_
      refine take_ (i := 15) (N := some 137) (v := ?_) (a' := ?_) A99995_113 rfl rfl (take_ofW HT_.out HW_.out (by kernel_rfl)) (fun _ _ _ h => h) (Or.inl ⟨by rfl, ?_⟩) hHeld ?_ ?_
      rotate_left
      ·rintro w' ⟨s0, s1, s2, s3, s4, s5, s6, s7, s8, s9, s10, s11⟩
       go_simp
       with_reducible rfl
      rotate_left
      ·simp only [Act.put, List.setIfInBounds_toArray, List.set_cons_zero, List.set_cons_succ, i64_w, i32_w]
       rfl
      refine take_ (i := 20) (N := some 142) (v := ?_) (a' := ?_) A99995_114 rfl rfl (take_ofW HT_.out HW_.out (by kernel_rfl)) (fun _ _ _ h => h) (Or.inl ⟨by rfl, ?_⟩) hHeld ?_ ?_
      rotate_left
      ·rintro w' ⟨s0, s1, s2, s3, s4, s5, s6, s7, s8, s9, s10, s11⟩
       go_simp
       with_reducible rfl
      rotate_left
      ·simp only [Act.put, List.setIfInBounds_toArray, List.set_cons_zero, List.set_cons_succ, i64_w, i32_w]
       rfl
      refine one_ (i := 16) (N := some 138) A99995_101 rfl rfl (one_of HT_.out (by kernel_rfl)) (by decide) (fun K hK => ?_)
      refine goes_ Try.func34 (by kernel_rfl) rfl #[.agg #[.int .i64 ((rd_T41 t694 x20_4).f0), .int .i64 ((rd_T41 t694 x20_4).f1), .int .i64 ((rd_T41 t694 x20_4).f2)]] (by rfl) rfl rfl qgsleuthlaw45changepointsizes_2 ?_
      with_reducible refine (sleuthlaw45_size.calls ((rd_T41 t694 x20_4).f0) ((rd_T41 t694 x20_4).f1) ((rd_T41 t694 x20_4).f2) t723 _ A62.out).mono ?_
      rintro e w74 ⟨rfl, hb⟩
      have HS0_ := (hb.cell (World.block_lt_of_cell? _ _ (hHeld.1))).trans (hHeld.1)
      have HS1_ := (hb.cell (World.block_lt_of_cell? _ _ (hHeld.2.1))).trans (hHeld.2.1)
      have HS2_ := (hb.cell (World.block_lt_of_cell? _ _ (hHeld.2.2.1))).trans (hHeld.2.2.1)
      have HS3_ := (hb.cell (World.block_lt_of_cell? _ _ (hHeld.2.2.2.1))).trans (hHeld.2.2.2.1)
      have HS4_ := (hb.cell (World.block_lt_of_cell? _ _ (hHeld.2.2.2.2.1))).trans (hHeld.2.2.2.2.1)
      have HS5_ := (hb.cell (World.block_lt_of_cell? _ _ (hHeld.2.2.2.2.2.1))).trans (hHeld.2.2.2.2.2.1)
      have HS6_ := (hb.cell (World.block_lt_of_cell? _ _ (hHeld.2.2.2.2.2.2.1))).trans (hHeld.2.2.2.2.2.2.1)
      have HS7_ := (hb.cell (World.block_lt_of_cell? _ _ (hHeld.2.2.2.2.2.2.2.1))).trans (hHeld.2.2.2.2.2.2.2.1)
      have HS8_ := (hb.cell (World.block_lt_of_cell? _ _ (hHeld.2.2.2.2.2.2.2.2.1))).trans (hHeld.2.2.2.2.2.2.2.2.1)
      have HS9_ := (hb.cell (World.block_lt_of_cell? _ _ (hHeld.2.2.2.2.2.2.2.2.2.1))).trans (hHeld.2.2.2.2.2.2.2.2.2.1)
      have HS10_ := (hb.cell (World.block_lt_of_cell? _ _ (hHeld.2.2.2.2.2.2.2.2.2.2.1))).trans (hHeld.2.2.2.2.2.2.2.2.2.2.1)
      have HS11_ := (hb.cell (World.block_lt_of_cell? _ _ (hHeld.2.2.2.2.2.2.2.2.2.2.2))).trans (hHeld.2.2.2.2.2.2.2.2.2.2.2)
      refine ⟨_, rfl, ?_⟩
      have n0_ := Aside0.mk (Kd.R_below qgsleuthlaw45changepointsizes_3 hb)
      have n1_ := Aside0.mk (Kd.R_below qgsleuthlaw45changepointsizes_6 hb)
      have n2_ := Aside0.mk (blk_below (g := gb697) (o := .cells #[.int .i64 x698000_1, .int .i64 x698001_1, .int .i64 x698002_1] 41 (0, 0)) qgsleuthlaw45changepointsizes_1 hb)
      have n3_ := Aside0.mk (blk_below (g := gb714) (o := .cells #[.int .i64 t710, .int .i64 t711, .int .i64 t712] 41 (0, 0)) qgsleuthlaw45changepointsizes_4 hb)
      have n4_ := Aside0.mk (below_step qgsleuthlaw45changepointsizes_0 hb)
      clear HO_7
      clear HO_16
      clear BK697
      clear BK714
      clear HB
      have HO_7 := n0_
      have HO_16 := n1_
      have BK697 := n2_
      have BK714 := n3_
      have HB := n4_
      clear n0_ n1_ n2_ n3_ n4_
      (try clear hb)
      (try clear hb2)
      (try clear hk)
      (try clear hi)
      refine hK.out _ _ ⟨HS0_, HS1_, HS2_, HS3_, HS4_, HS5_, HS6_, HS7_, HS8_, HS9_, HS10_, HS11_⟩ (fun hHeld => ?_)
      clear hK K
      refine norm_ (a' := ?_) ?_ ?_
      rotate_left
      ·show Act.put _ (some 138) _ = _
       simp only [Act.put, List.setIfInBounds_toArray, List.set_cons_zero, List.set_cons_succ, i64_w, i32_w]
       rfl
      refine one_ (i := 21) (N := some 143) A99995_102 rfl rfl (one_of HT_.out (by kernel_rfl)) (by decide) (fun K hK => ?_)
      refine goes_ Try.func34 (by kernel_rfl) rfl #[.agg #[.int .i64 ((rd_T41 t694 x18_3).f0), .int .i64 ((rd_T41 t694 x18_3).f1), .int .i64 ((rd_T41 t694 x18_3).f2)]] (by rfl) rfl rfl qgsleuthlaw45changepointsizes_2 ?_
      with_reducible refine (sleuthlaw45_size.calls ((rd_T41 t694 x18_3).f0) ((rd_T41 t694 x18_3).f1) ((rd_T41 t694 x18_3).f2) t725 _ A63.out).mono ?_
      rintro e w75 ⟨rfl, hb⟩
      have HS0_ := (hb.cell (World.block_lt_of_cell? _ _ (hHeld.1))).trans (hHeld.1)
      have HS1_ := (hb.cell (World.block_lt_of_cell? _ _ (hHeld.2.1))).trans (hHeld.2.1)
      have HS2_ := (hb.cell (World.block_lt_of_cell? _ _ (hHeld.2.2.1))).trans (hHeld.2.2.1)
      have HS3_ := (hb.cell (World.block_lt_of_cell? _ _ (hHeld.2.2.2.1))).trans (hHeld.2.2.2.1)
      have HS4_ := (hb.cell (World.block_lt_of_cell? _ _ (hHeld.2.2.2.2.1))).trans (hHeld.2.2.2.2.1)
      have HS5_ := (hb.cell (World.block_lt_of_cell? _ _ (hHeld.2.2.2.2.2.1))).trans (hHeld.2.2.2.2.2.1)
      have HS6_ := (hb.cell (World.block_lt_of_cell? _ _ (hHeld.2.2.2.2.2.2.1))).trans (hHeld.2.2.2.2.2.2.1)
      have HS7_ := (hb.cell (World.block_lt_of_cell? _ _ (hHeld.2.2.2.2.2.2.2.1))).trans (hHeld.2.2.2.2.2.2.2.1)
      have HS8_ := (hb.cell (World.block_lt_of_cell? _ _ (hHeld.2.2.2.2.2.2.2.2.1))).trans (hHeld.2.2.2.2.2.2.2.2.1)
      have HS9_ := (hb.cell (World.block_lt_of_cell? _ _ (hHeld.2.2.2.2.2.2.2.2.2.1))).trans (hHeld.2.2.2.2.2.2.2.2.2.1)
      have HS10_ := (hb.cell (World.block_lt_of_cell? _ _ (hHeld.2.2.2.2.2.2.2.2.2.2.1))).trans (hHeld.2.2.2.2.2.2.2.2.2.2.1)
      have HS11_ := (hb.cell (World.block_lt_of_cell? _ _ (hHeld.2.2.2.2.2.2.2.2.2.2.2))).trans (hHeld.2.2.2.2.2.2.2.2.2.2.2)
      refine ⟨_, rfl, ?_⟩
      have n0_ := Aside0.mk (Kd.R_below qgsleuthlaw45changepointsizes_3 hb)
      have n1_ := Aside0.mk (Kd.R_below qgsleuthlaw45changepointsizes_6 hb)
      have n2_ := Aside0.mk (blk_below (g := gb697) (o := .cells #[.int .i64 x698000_1, .int .i64 x698001_1, .int .i64 x698002_1] 41 (0, 0)) qgsleuthlaw45changepointsizes_1 hb)
      have n3_ := Aside0.mk (blk_below (g := gb714) (o := .cells #[.int .i64 t710, .int .i64 t711, .int .i64 t712] 41 (0, 0)) qgsleuthlaw45changepointsizes_4 hb)
      have n4_ := Aside0.mk (below_step qgsleuthlaw45changepointsizes_0 hb)
      clear HO_7
      clear HO_16
      clear BK697
      clear BK714
      clear HB
      have HO_7 := n0_
      have HO_16 := n1_
      have BK697 := n2_
      have BK714 := n3_
      have HB := n4_
      clear n0_ n1_ n2_ n3_ n4_
      (try clear hb)
      (try clear hb2)
      (try clear hk)
      (try clear hi)
      refine hK.out _ _ ⟨HS0_, HS1_, HS2_, HS3_, HS4_, HS5_, HS6_, HS7_, HS8_, HS9_, HS10_, HS11_⟩ (fun hHeld => ?_)
      clear hK K
      refine norm_ (a' := ?_) ?_ ?_
      rotate_left
      ·show Act.put _ (some 143) _ = _
       simp only [Act.put, List.setIfInBounds_toArray, List.set_cons_zero, List.set_cons_succ, i64_w, i32_w]
       rfl
      refine pA_ 22 144 A99995_103 HT_ ?_
      refine pA_ 23 145 A99995_104 HT_ ?_
      refine pA_ 24 146 A99995_105 HT_ ?_
      refine pA_ 25 147 A99995_106 HT_ ?_
      refine pA_ 26 148 A99995_107 HT_ ?_
      refine pA_ 27 149 A99995_108 HT_ ?_
      refine pA_ 28 150 A99995_109 HT_ ?_
      refine done_ (done_of HT_.out (by kernel_rfl)) ?_
      try go_wp2
      go_roundg k4
      case measure => have := HK1.out; have := HJ37.out; have := HK3.out; have := HK4.out; omega
      case rel => exact ⟨(x19_4), (wrap64 (x20_4 + 1)), qgsleuthlaw45changepointsizes_11, qgsleuthlaw45changepointsizes_11, H', ⟨qgsleuthlaw45changepointsizes_14⟩, ⟨qgsleuthlaw45changepointsizes_3⟩, ⟨qgsleuthlaw45changepointsizes_6⟩, ⟨qgsleuthlaw45changepointsizes_1⟩, ⟨qgsleuthlaw45changepointsizes_4⟩, ⟨qgsleuthlaw45changepointsizes_0⟩⟩
     rw [if_pos c65] at H
     have c65b0 : decide (x20_4 < x18_3) = true := decide_eq_true c65
     clear c65
     have H' := Aside0.mk H
     clear H
     try go_wp2
     have n0_ := Aside0.mk (Kd.R_drew HO_7.out)
     have n1_ := Aside0.mk (Kd.R_drew HO_16.out)
     have n2_ := Aside0.mk (blk_drew BK697.out)
     have n3_ := Aside0.mk (blk_drew BK714.out)
     have n4_ := Aside0.mk (below_drew1 HB.out)
     clear HO_7
     clear HO_16
     clear BK697
     clear BK714
     clear HB
     have HO_7 := n0_
     have HO_16 := n1_
     have BK697 := n2_
     have BK714 := n3_
     have HB := n4_
     clear n0_ n1_ n2_ n3_ n4_
     have p718 : 0 ≤ (x20_4 : Int) := of_decide_eq_true qgsleuthlaw45changepointsizes_7
     have q718 : x20_4 < (t694.length : Int) := of_decide_eq_true qgsleuthlaw45changepointsizes_7
     obtain ⟨ad718, e718, hx718_0, hx718_1, hx718_2⟩ := at_T41 (Kd.R_reads' HO_7.out).2.2 x20_4 p718 q718
     cases e718
     replace p718 := eq_true p718
     replace q718 := eq_true q718
     have p720 : 0 ≤ (x18_3 : Int) := of_decide_eq_true qgsleuthlaw45changepointsizes_7
     have q720 : x18_3 < (t694.length : Int) := of_decide_eq_true qgsleuthlaw45changepointsizes_7
     obtain ⟨ad720, e720, hx720_0, hx720_1, hx720_2⟩ := at_T41 (Kd.R_reads' HO_7.out).2.2 x18_3 p720 q720
     obtain rfl : ad718 = ad720 := (by injection e720)
     replace p720 := eq_true p720
     replace q720 := eq_true q720
     have p722 : 0 ≤ (x20_4 : Int) := of_decide_eq_true qgsleuthlaw45changepointsizes_7
     have q722 : x20_4 < (t694.length : Int) := of_decide_eq_true qgsleuthlaw45changepointsizes_7
     obtain ⟨ad722, e722, hx722_0, hx722_1, hx722_2⟩ := at_T41 (Kd.R_reads' HO_7.out).2.2 x20_4 p722 q722
     obtain rfl : ad718 = ad722 := (by injection e722)
     replace p722 := eq_true p722
     replace q722 := eq_true q722
     have p724 : 0 ≤ (x18_3 : Int) := of_decide_eq_true qgsleuthlaw45changepointsizes_7
     have q724 : x18_3 < (t694.length : Int) := of_decide_eq_true qgsleuthlaw45changepointsizes_7
     obtain ⟨ad724, e724, hx724_0, hx724_1, hx724_2⟩ := at_T41 (Kd.R_reads' HO_7.out).2.2 x18_3 p724 q724
     obtain rfl : ad718 = ad724 := (by injection e724)
     replace p724 := eq_true p724
     replace q724 := eq_true q724
     refine start_ (n := 29) (S := fun w' => w'.cell? (ad718.add ((x20_4).toNat * 3)) = some (.int .i64 ((rd_T41 t694 x20_4).f0)) ∧ w'.cell? ⟨(ad718.add ((x20_4).toNat * 3)).block, (ad718.add ((x20_4).toNat * 3)).off + 1, none⟩ = some (.int .i64 ((rd_T41 t694 x20_4).f1)) ∧ w'.cell? ⟨(ad718.add ((x20_4).toNat * 3)).block, (ad718.add ((x20_4).toNat * 3)).off + 2, none⟩ = some (.int .i64 ((rd_T41 t694 x20_4).f2)) ∧ w'.cell? (ad718.add ((x18_3).toNat * 3)) = some (.int .i64 ((rd_T41 t694 x18_3).f0)) ∧ w'.cell? ⟨(ad718.add ((x18_3).toNat * 3)).block, (ad718.add ((x18_3).toNat * 3)).off + 1, none⟩ = some (.int .i64 ((rd_T41 t694 x18_3).f1)) ∧ w'.cell? ⟨(ad718.add ((x18_3).toNat * 3)).block, (ad718.add ((x18_3).toNat * 3)).off + 2, none⟩ = some (.int .i64 ((rd_T41 t694 x18_3).f2)) ∧ w'.cell? (ad718.add ((x20_4).toNat * 3)) = some (.int .i64 ((rd_T41 t694 x20_4).f0)) ∧ w'.cell? ⟨(ad718.add ((x20_4).toNat * 3)).block, (ad718.add ((x20_4).toNat * 3)).off + 1, none⟩ = some (.int .i64 ((rd_T41 t694 x20_4).f1)) ∧ w'.cell? ⟨(ad718.add ((x20_4).toNat * 3)).block, (ad718.add ((x20_4).toNat * 3)).off + 2, none⟩ = some (.int .i64 ((rd_T41 t694 x20_4).f2)) ∧ w'.cell? (ad718.add ((x18_3).toNat * 3)) = some (.int .i64 ((rd_T41 t694 x18_3).f0)) ∧ w'.cell? ⟨(ad718.add ((x18_3).toNat * 3)).block, (ad718.add ((x18_3).toNat * 3)).off + 1, none⟩ = some (.int .i64 ((rd_T41 t694 x18_3).f1)) ∧ w'.cell? ⟨(ad718.add ((x18_3).toNat * 3)).block, (ad718.add ((x18_3).toNat * 3)).off + 2, none⟩ = some (.int .i64 ((rd_T41 t694 x18_3).f2))) (ds := []) A99995_80 (by kernel_rfl) rfl rfl ⟨hx718_0, hx718_1, hx718_2, hx720_0, hx720_1, hx720_2, hx722_0, hx722_1, hx722_2, hx724_0, hx724_1, hx724_2⟩ (fun hHeld => ?_); refine with_tabW sleuthlaw45_ChangepointSizes.tab26 sleuthlaw45_ChangepointSizes.bits26 (fun HT_ HW_ => ?_)
     generalize wr.drew = w66 at HO_7 HO_16 BK697 BK714 HB hx718_0 hx718_1 hx718_2 hx720_0 hx720_1 hx720_2 hx722_0 hx722_1 hx722_2 hx724_0 hx724_1 hx724_2 hHeld ⊢
     refine pA_ 0 122 A99995_81 HT_ ?_
     refine pA_ 1 123 A99995_82 HT_ ?_
     refine pA_ 2 124 A99995_83 HT_ ?_
     refine pA_ 5 127 A99995_84 HT_ ?_
     refine pA_ 6 128 A99995_85 HT_ ?_
     refine pA_ 7 129 A99995_86 HT_ ?_
     refine take_ (i := 3) (N := some 125) (v := ?_) (a' := ?_) A99995_87 rfl rfl (take_ofW HT_.out HW_.out (by kernel_rfl)) (fun _ _ _ h => h) (Or.inl ⟨by rfl, ?_⟩) hHeld ?_ ?_
     rotate_left
     ·rintro w' ⟨s0, s1, s2, s3, s4, s5, s6, s7, s8, s9, s10, s11⟩
      go_simp
      with_reducible rfl
     rotate_left
     ·simp only [Act.put, List.setIfInBounds_toArray, List.set_cons_zero, List.set_cons_succ, i64_w, i32_w]
      rfl
     refine take_ (i := 8) (N := some 130) (v := ?_) (a' := ?_) A99995_88 rfl rfl (take_ofW HT_.out HW_.out (by kernel_rfl)) (fun _ _ _ h => h) (Or.inl ⟨by rfl, ?_⟩) hHeld ?_ ?_
     rotate_left
     ·rintro w' ⟨s0, s1, s2, s3, s4, s5, s6, s7, s8, s9, s10, s11⟩
      go_simp
      with_reducible rfl
     rotate_left
     ·simp only [Act.put, List.setIfInBounds_toArray, List.set_cons_zero, List.set_cons_succ, i64_w, i32_w]
      rfl
     refine one_ (i := 4) (N := some 126) A99995_89 rfl rfl (one_of HT_.out (by kernel_rfl)) (by decide) (fun K hK => ?_)
     refine goes_ Try.func34 (by kernel_rfl) rfl #[.agg #[.int .i64 ((rd_T41 t694 x20_4).f0), .int .i64 ((rd_T41 t694 x20_4).f1), .int .i64 ((rd_T41 t694 x20_4).f2)]] (by rfl) rfl rfl qgsleuthlaw45changepointsizes_2 ?_
     with_reducible refine (sleuthlaw45_size.calls ((rd_T41 t694 x20_4).f0) ((rd_T41 t694 x20_4).f1) ((rd_T41 t694 x20_4).f2) t719 _ A54.out).mono ?_
     rintro e w67 ⟨rfl, hb⟩
     have HS0_ := (hb.cell (World.block_lt_of_cell? _ _ (hHeld.1))).trans (hHeld.1)
     have HS1_ := (hb.cell (World.block_lt_of_cell? _ _ (hHeld.2.1))).trans (hHeld.2.1)
     have HS2_ := (hb.cell (World.block_lt_of_cell? _ _ (hHeld.2.2.1))).trans (hHeld.2.2.1)
     have HS3_ := (hb.cell (World.block_lt_of_cell? _ _ (hHeld.2.2.2.1))).trans (hHeld.2.2.2.1)
     have HS4_ := (hb.cell (World.block_lt_of_cell? _ _ (hHeld.2.2.2.2.1))).trans (hHeld.2.2.2.2.1)
     have HS5_ := (hb.cell (World.block_lt_of_cell? _ _ (hHeld.2.2.2.2.2.1))).trans (hHeld.2.2.2.2.2.1)
     have HS6_ := (hb.cell (World.block_lt_of_cell? _ _ (hHeld.2.2.2.2.2.2.1))).trans (hHeld.2.2.2.2.2.2.1)
     have HS7_ := (hb.cell (World.block_lt_of_cell? _ _ (hHeld.2.2.2.2.2.2.2.1))).trans (hHeld.2.2.2.2.2.2.2.1)
     have HS8_ := (hb.cell (World.block_lt_of_cell? _ _ (hHeld.2.2.2.2.2.2.2.2.1))).trans (hHeld.2.2.2.2.2.2.2.2.1)
     have HS9_ := (hb.cell (World.block_lt_of_cell? _ _ (hHeld.2.2.2.2.2.2.2.2.2.1))).trans (hHeld.2.2.2.2.2.2.2.2.2.1)
     have HS10_ := (hb.cell (World.block_lt_of_cell? _ _ (hHeld.2.2.2.2.2.2.2.2.2.2.1))).trans (hHeld.2.2.2.2.2.2.2.2.2.2.1)
     have HS11_ := (hb.cell (World.block_lt_of_cell? _ _ (hHeld.2.2.2.2.2.2.2.2.2.2.2))).trans (hHeld.2.2.2.2.2.2.2.2.2.2.2)
     refine ⟨_, rfl, ?_⟩
     have n0_ := Aside0.mk (Kd.R_below qgsleuthlaw45changepointsizes_3 hb)
     have n1_ := Aside0.mk (Kd.R_below qgsleuthlaw45changepointsizes_6 hb)
     have n2_ := Aside0.mk (blk_below (g := gb697) (o := .cells #[.int .i64 x698000_1, .int .i64 x698001_1, .int .i64 x698002_1] 41 (0, 0)) qgsleuthlaw45changepointsizes_1 hb)
     have n3_ := Aside0.mk (blk_below (g := gb714) (o := .cells #[.int .i64 t710, .int .i64 t711, .int .i64 t712] 41 (0, 0)) qgsleuthlaw45changepointsizes_4 hb)
     have n4_ := Aside0.mk (below_step qgsleuthlaw45changepointsizes_0 hb)
     clear HO_7
     clear HO_16
     clear BK697
     clear BK714
     clear HB
     have HO_7 := n0_
     have HO_16 := n1_
     have BK697 := n2_
     have BK714 := n3_
     have HB := n4_
     clear n0_ n1_ n2_ n3_ n4_
     (try clear hb)
     (try clear hb2)
     (try clear hk)
     (try clear hi)
     refine hK.out _ _ ⟨HS0_, HS1_, HS2_, HS3_, HS4_, HS5_, HS6_, HS7_, HS8_, HS9_, HS10_, HS11_⟩ (fun hHeld => ?_)
     clear hK K
     refine norm_ (a' := ?_) ?_ ?_
     rotate_left
     ·show Act.put _ (some 126) _ = _
      simp only [Act.put, List.setIfInBounds_toArray, List.set_cons_zero, List.set_cons_succ, i64_w, i32_w]
      rfl
     refine one_ (i := 9) (N := some 131) A99995_90 rfl rfl (one_of HT_.out (by kernel_rfl)) (by decide) (fun K hK => ?_)
     refine goes_ Try.func34 (by kernel_rfl) rfl #[.agg #[.int .i64 ((rd_T41 t694 x18_3).f0), .int .i64 ((rd_T41 t694 x18_3).f1), .int .i64 ((rd_T41 t694 x18_3).f2)]] (by rfl) rfl rfl qgsleuthlaw45changepointsizes_2 ?_
     with_reducible refine (sleuthlaw45_size.calls ((rd_T41 t694 x18_3).f0) ((rd_T41 t694 x18_3).f1) ((rd_T41 t694 x18_3).f2) t721 _ A57.out).mono ?_
     rintro e w68 ⟨rfl, hb⟩
     have HS0_ := (hb.cell (World.block_lt_of_cell? _ _ (hHeld.1))).trans (hHeld.1)
     have HS1_ := (hb.cell (World.block_lt_of_cell? _ _ (hHeld.2.1))).trans (hHeld.2.1)
     have HS2_ := (hb.cell (World.block_lt_of_cell? _ _ (hHeld.2.2.1))).trans (hHeld.2.2.1)
     have HS3_ := (hb.cell (World.block_lt_of_cell? _ _ (hHeld.2.2.2.1))).trans (hHeld.2.2.2.1)
     have HS4_ := (hb.cell (World.block_lt_of_cell? _ _ (hHeld.2.2.2.2.1))).trans (hHeld.2.2.2.2.1)
     have HS5_ := (hb.cell (World.block_lt_of_cell? _ _ (hHeld.2.2.2.2.2.1))).trans (hHeld.2.2.2.2.2.1)
     have HS6_ := (hb.cell (World.block_lt_of_cell? _ _ (hHeld.2.2.2.2.2.2.1))).trans (hHeld.2.2.2.2.2.2.1)
     have HS7_ := (hb.cell (World.block_lt_of_cell? _ _ (hHeld.2.2.2.2.2.2.2.1))).trans (hHeld.2.2.2.2.2.2.2.1)
     have HS8_ := (hb.cell (World.block_lt_of_cell? _ _ (hHeld.2.2.2.2.2.2.2.2.1))).trans (hHeld.2.2.2.2.2.2.2.2.1)
     have HS9_ := (hb.cell (World.block_lt_of_cell? _ _ (hHeld.2.2.2.2.2.2.2.2.2.1))).trans (hHeld.2.2.2.2.2.2.2.2.2.1)
     have HS10_ := (hb.cell (World.block_lt_of_cell? _ _ (hHeld.2.2.2.2.2.2.2.2.2.2.1))).trans (hHeld.2.2.2.2.2.2.2.2.2.2.1)
     have HS11_ := (hb.cell (World.block_lt_of_cell? _ _ (hHeld.2.2.2.2.2.2.2.2.2.2.2))).trans (hHeld.2.2.2.2.2.2.2.2.2.2.2)
     refine ⟨_, rfl, ?_⟩
     have n0_ := Aside0.mk (Kd.R_below qgsleuthlaw45changepointsizes_3 hb)
     have n1_ := Aside0.mk (Kd.R_below qgsleuthlaw45changepointsizes_6 hb)
     have n2_ := Aside0.mk (blk_below (g := gb697) (o := .cells #[.int .i64 x698000_1, .int .i64 x698001_1, .int .i64 x698002_1] 41 (0, 0)) qgsleuthlaw45changepointsizes_1 hb)
     have n3_ := Aside0.mk (blk_below (g := gb714) (o := .cells #[.int .i64 t710, .int .i64 t711, .int .i64 t712] 41 (0, 0)) qgsleuthlaw45changepointsizes_4 hb)
     have n4_ := Aside0.mk (below_step qgsleuthlaw45changepointsizes_0 hb)
     clear HO_7
     clear HO_16
     clear BK697
     clear BK714
     clear HB
     have HO_7 := n0_
     have HO_16 := n1_
     have BK697 := n2_
     have BK714 := n3_
     have HB := n4_
     clear n0_ n1_ n2_ n3_ n4_
     (try clear hb)
     (try clear hb2)
     (try clear hk)
     (try clear hi)
     refine hK.out _ _ ⟨HS0_, HS1_, HS2_, HS3_, HS4_, HS5_, HS6_, HS7_, HS8_, HS9_, HS10_, HS11_⟩ (fun hHeld => ?_)
     clear hK K
     refine norm_ (a' := ?_) ?_ ?_
     rotate_left
     ·show Act.put _ (some 131) _ = _
      simp only [Act.put, List.setIfInBounds_toArray, List.set_cons_zero, List.set_cons_succ, i64_w, i32_w]
      rfl
     refine pA_ 10 132 A99995_91 HT_ ?_
     refine pA_ 11 133 A99995_92 HT_ ?_
     refine pA_ 12 134 A99995_93 HT_ ?_
     refine pA_ 13 135 A99995_94 HT_ ?_
     refine pA_ 14 136 A99995_95 HT_ ?_
     refine pA_ 17 139 A99995_110 HT_ ?_
     refine pA_ 18 140 A99995_111 HT_ ?_
     refine pA_ 19 141 A99995_112 HT_ ?_
     refine take_ (i := 15) (N := some 137) (v := ?_) (a' := ?_) A99995_113 rfl rfl (take_ofW HT_.out HW_.out (by kernel_rfl)) (fun _ _ _ h => h) (Or.inl ⟨by rfl, ?_⟩) hHeld ?_ ?_
     rotate_left
     ·rintro w' ⟨s0, s1, s2, s3, s4, s5, s6, s7, s8, s9, s10, s11⟩
      go_simp
      with_reducible rfl
     rotate_left
     ·simp only [Act.put, List.setIfInBounds_toArray, List.set_cons_zero, List.set_cons_succ, i64_w, i32_w]
      rfl
     refine take_ (i := 20) (N := some 142) (v := ?_) (a' := ?_) A99995_114 rfl rfl (take_ofW HT_.out HW_.out (by kernel_rfl)) (fun _ _ _ h => h) (Or.inl ⟨by rfl, ?_⟩) hHeld ?_ ?_
     rotate_left
     ·rintro w' ⟨s0, s1, s2, s3, s4, s5, s6, s7, s8, s9, s10, s11⟩
      go_simp
      with_reducible rfl
     rotate_left
     ·simp only [Act.put, List.setIfInBounds_toArray, List.set_cons_zero, List.set_cons_succ, i64_w, i32_w]
      rfl
     refine one_ (i := 16) (N := some 138) A99995_101 rfl rfl (one_of HT_.out (by kernel_rfl)) (by decide) (fun K hK => ?_)
     refine goes_ Try.func34 (by kernel_rfl) rfl #[.agg #[.int .i64 ((rd_T41 t694 x20_4).f0), .int .i64 ((rd_T41 t694 x20_4).f1), .int .i64 ((rd_T41 t694 x20_4).f2)]] (by rfl) rfl rfl qgsleuthlaw45changepointsizes_2 ?_
     with_reducible refine (sleuthlaw45_size.calls ((rd_T41 t694 x20_4).f0) ((rd_T41 t694 x20_4).f1) ((rd_T41 t694 x20_4).f2) t723 _ A62.out).mono ?_
     rintro e w69 ⟨rfl, hb⟩
     have HS0_ := (hb.cell (World.block_lt_of_cell? _ _ (hHeld.1))).trans (hHeld.1)
     have HS1_ := (hb.cell (World.block_lt_of_cell? _ _ (hHeld.2.1))).trans (hHeld.2.1)
     have HS2_ := (hb.cell (World.block_lt_of_cell? _ _ (hHeld.2.2.1))).trans (hHeld.2.2.1)
     have HS3_ := (hb.cell (World.block_lt_of_cell? _ _ (hHeld.2.2.2.1))).trans (hHeld.2.2.2.1)
     have HS4_ := (hb.cell (World.block_lt_of_cell? _ _ (hHeld.2.2.2.2.1))).trans (hHeld.2.2.2.2.1)
     have HS5_ := (hb.cell (World.block_lt_of_cell? _ _ (hHeld.2.2.2.2.2.1))).trans (hHeld.2.2.2.2.2.1)
     have HS6_ := (hb.cell (World.block_lt_of_cell? _ _ (hHeld.2.2.2.2.2.2.1))).trans (hHeld.2.2.2.2.2.2.1)
     have HS7_ := (hb.cell (World.block_lt_of_cell? _ _ (hHeld.2.2.2.2.2.2.2.1))).trans (hHeld.2.2.2.2.2.2.2.1)
     have HS8_ := (hb.cell (World.block_lt_of_cell? _ _ (hHeld.2.2.2.2.2.2.2.2.1))).trans (hHeld.2.2.2.2.2.2.2.2.1)
     have HS9_ := (hb.cell (World.block_lt_of_cell? _ _ (hHeld.2.2.2.2.2.2.2.2.2.1))).trans (hHeld.2.2.2.2.2.2.2.2.2.1)
     have HS10_ := (hb.cell (World.block_lt_of_cell? _ _ (hHeld.2.2.2.2.2.2.2.2.2.2.1))).trans (hHeld.2.2.2.2.2.2.2.2.2.2.1)
     have HS11_ := (hb.cell (World.block_lt_of_cell? _ _ (hHeld.2.2.2.2.2.2.2.2.2.2.2))).trans (hHeld.2.2.2.2.2.2.2.2.2.2.2)
     refine ⟨_, rfl, ?_⟩
     have n0_ := Aside0.mk (Kd.R_below qgsleuthlaw45changepointsizes_3 hb)
     have n1_ := Aside0.mk (Kd.R_below qgsleuthlaw45changepointsizes_6 hb)
     have n2_ := Aside0.mk (blk_below (g := gb697) (o := .cells #[.int .i64 x698000_1, .int .i64 x698001_1, .int .i64 x698002_1] 41 (0, 0)) qgsleuthlaw45changepointsizes_1 hb)
     have n3_ := Aside0.mk (blk_below (g := gb714) (o := .cells #[.int .i64 t710, .int .i64 t711, .int .i64 t712] 41 (0, 0)) qgsleuthlaw45changepointsizes_4 hb)
     have n4_ := Aside0.mk (below_step qgsleuthlaw45changepointsizes_0 hb)
     clear HO_7
     clear HO_16
     clear BK697
     clear BK714
     clear HB
     have HO_7 := n0_
     have HO_16 := n1_
     have BK697 := n2_
     have BK714 := n3_
     have HB := n4_
     clear n0_ n1_ n2_ n3_ n4_
     (try clear hb)
     (try clear hb2)
     (try clear hk)
     (try clear hi)
     refine hK.out _ _ ⟨HS0_, HS1_, HS2_, HS3_, HS4_, HS5_, HS6_, HS7_, HS8_, HS9_, HS10_, HS11_⟩ (fun hHeld => ?_)
     clear hK K
     refine norm_ (a' := ?_) ?_ ?_
     rotate_left
     ·show Act.put _ (some 138) _ = _
      simp only [Act.put, List.setIfInBounds_toArray, List.set_cons_zero, List.set_cons_succ, i64_w, i32_w]
      rfl
     refine one_ (i := 21) (N := some 143) A99995_102 rfl rfl (one_of HT_.out (by kernel_rfl)) (by decide) (fun K hK => ?_)
     refine goes_ Try.func34 (by kernel_rfl) rfl #[.agg #[.int .i64 ((rd_T41 t694 x18_3).f0), .int .i64 ((rd_T41 t694 x18_3).f1), .int .i64 ((rd_T41 t694 x18_3).f2)]] (by rfl) rfl rfl qgsleuthlaw45changepointsizes_2 ?_
     with_reducible refine (sleuthlaw45_size.calls ((rd_T41 t694 x18_3).f0) ((rd_T41 t694 x18_3).f1) ((rd_T41 t694 x18_3).f2) t725 _ A63.out).mono ?_
     rintro e w70 ⟨rfl, hb⟩
     have HS0_ := (hb.cell (World.block_lt_of_cell? _ _ (hHeld.1))).trans (hHeld.1)
     have HS1_ := (hb.cell (World.block_lt_of_cell? _ _ (hHeld.2.1))).trans (hHeld.2.1)
     have HS2_ := (hb.cell (World.block_lt_of_cell? _ _ (hHeld.2.2.1))).trans (hHeld.2.2.1)
     have HS3_ := (hb.cell (World.block_lt_of_cell? _ _ (hHeld.2.2.2.1))).trans (hHeld.2.2.2.1)
     have HS4_ := (hb.cell (World.block_lt_of_cell? _ _ (hHeld.2.2.2.2.1))).trans (hHeld.2.2.2.2.1)
     have HS5_ := (hb.cell (World.block_lt_of_cell? _ _ (hHeld.2.2.2.2.2.1))).trans (hHeld.2.2.2.2.2.1)
     have HS6_ := (hb.cell (World.block_lt_of_cell? _ _ (hHeld.2.2.2.2.2.2.1))).trans (hHeld.2.2.2.2.2.2.1)
     have HS7_ := (hb.cell (World.block_lt_of_cell? _ _ (hHeld.2.2.2.2.2.2.2.1))).trans (hHeld.2.2.2.2.2.2.2.1)
     have HS8_ := (hb.cell (World.block_lt_of_cell? _ _ (hHeld.2.2.2.2.2.2.2.2.1))).trans (hHeld.2.2.2.2.2.2.2.2.1)
     have HS9_ := (hb.cell (World.block_lt_of_cell? _ _ (hHeld.2.2.2.2.2.2.2.2.2.1))).trans (hHeld.2.2.2.2.2.2.2.2.2.1)
     have HS10_ := (hb.cell (World.block_lt_of_cell? _ _ (hHeld.2.2.2.2.2.2.2.2.2.2.1))).trans (hHeld.2.2.2.2.2.2.2.2.2.2.1)
     have HS11_ := (hb.cell (World.block_lt_of_cell? _ _ (hHeld.2.2.2.2.2.2.2.2.2.2.2))).trans (hHeld.2.2.2.2.2.2.2.2.2.2.2)
     refine ⟨_, rfl, ?_⟩
     have n0_ := Aside0.mk (Kd.R_below qgsleuthlaw45changepointsizes_3 hb)
     have n1_ := Aside0.mk (Kd.R_below qgsleuthlaw45changepointsizes_6 hb)
     have n2_ := Aside0.mk (blk_below (g := gb697) (o := .cells #[.int .i64 x698000_1, .int .i64 x698001_1, .int .i64 x698002_1] 41 (0, 0)) qgsleuthlaw45changepointsizes_1 hb)
     have n3_ := Aside0.mk (blk_below (g := gb714) (o := .cells #[.int .i64 t710, .int .i64 t711, .int .i64 t712] 41 (0, 0)) qgsleuthlaw45changepointsizes_4 hb)
     have n4_ := Aside0.mk (below_step qgsleuthlaw45changepointsizes_0 hb)
     clear HO_7
     clear HO_16
     clear BK697
     clear BK714
     clear HB
     have HO_7 := n0_
     have HO_16 := n1_
     have BK697 := n2_
     have BK714 := n3_
     have HB := n4_
     clear n0_ n1_ n2_ n3_ n4_
     (try clear hb)
     (try clear hb2)
     (try clear hk)
     (try clear hi)
     refine hK.out _ _ ⟨HS0_, HS1_, HS2_, HS3_, HS4_, HS5_, HS6_, HS7_, HS8_, HS9_, HS10_, HS11_⟩ (fun hHeld => ?_)
     clear hK K
     refine norm_ (a' := ?_) ?_ ?_
     rotate_left
     ·show Act.put _ (some 143) _ = _
      simp only [Act.put, List.setIfInBounds_toArray, List.set_cons_zero, List.set_cons_succ, i64_w, i32_w]
      rfl
     refine pA_ 22 144 A99995_103 HT_ ?_
     refine pA_ 23 145 A99995_104 HT_ ?_
     refine pA_ 24 146 A99995_105 HT_ ?_
     refine pA_ 25 147 A99995_106 HT_ ?_
     refine pA_ 26 148 A99995_107 HT_ ?_
     refine pA_ 27 149 A99995_108 HT_ ?_
     refine pA_ 28 150 A99995_109 HT_ ?_
     refine done_ (done_of HT_.out (by kernel_rfl)) ?_
     try go_wp2
     go_roundg k4
     case measure => have := HK1.out; have := HJ37.out; have := HK3.out; have := HK4.out; omega
     case rel => exact ⟨(wrap64 (x19_4 + 1)), (wrap64 (x20_4 + 1)), qgsleuthlaw45changepointsizes_11, qgsleuthlaw45changepointsizes_11, H', ⟨qgsleuthlaw45changepointsizes_14⟩, ⟨qgsleuthlaw45changepointsizes_3⟩, ⟨qgsleuthlaw45changepointsizes_6⟩, ⟨qgsleuthlaw45changepointsizes_1⟩, ⟨qgsleuthlaw45changepointsizes_4⟩, ⟨qgsleuthlaw45changepointsizes_0⟩⟩

end Go.Proofs.Ytcjgmofgfblmnaa.Q
