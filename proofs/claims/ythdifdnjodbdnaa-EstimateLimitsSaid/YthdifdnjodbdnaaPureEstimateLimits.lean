/- EstimateLimits: its plain side. -/
import Derived.Test.YthdifdnjodbdnaaPlC
namespace Go.Proofs.Ythdifdnjodbdnaa.Pure
open Go.RowKit Go.Proofs.Ythdifdnjodbdnaa.Q Go.Proofs.YthdifdnjodbdnaaW.PrintWords Go.Proofs.YthdifdnjodbdnaaW.PrintLast
theorem EstimateLimits : sleuthlaw25_EstimateLimits.Pure := fun a0 a1 a2 h0 h1 h2 => Pl.limits a0 a1 a2 h0 h1 h2
end Go.Proofs.Ythdifdnjodbdnaa.Pure
