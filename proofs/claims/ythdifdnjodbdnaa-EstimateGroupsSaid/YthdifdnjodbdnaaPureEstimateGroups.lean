/- EstimateGroups answers true (the plain side, as the row wants it). -/
import Derived.Test.YthdifdnjodbdnaaPlO
namespace Go.Proofs.Ythdifdnjodbdnaa.Pure
open Go.RowKit Go.Proofs.YthdifdnjodbdnaaW.PrintWords Go.Proofs.Ythdifdnjodbdnaa.Q Go.Proofs.Ythdifdnjodbdnaa.RowS
set_option linter.unusedVariables false
set_option linter.unusedSimpArgs false
theorem EstimateGroups (l0 : List S104) (o1 o2 o3 o4 : Int) (l5 : List S193) (wr a b c lv : Int) (ht : ∀ t ∈ l0, TreeOk t) (ho : I8 o1 ∧ I8 o2 ∧ I8 o3 ∧ I8 o4) (hy : ∀ y ∈ l5, SyncOk y) (hg : U8 wr) (h1 : l0.length ≤ 9223372036854775807) (h2 : l5.length ≤ 9223372036854775807) (hw1 : (Lit.int .u8 a).wf = true) (hw2 : (Lit.int .u8 b).wf = true) (hw3 : (Lit.int .u8 c).wf = true) (hw4 : (Lit.int .i64 lv).wf = true) : ∃ k, sleuthlaw25_EstimateGroups.f k l0 o1 o2 o3 o4 l5 wr a b c lv = some true :=
  Pl.groups l0 o1 o2 o3 o4 l5 wr a b c lv ht ho h1 ⟨u8_of hw1, u8_of hw2, u8_of hw3⟩
end Go.Proofs.Ythdifdnjodbdnaa.Pure
