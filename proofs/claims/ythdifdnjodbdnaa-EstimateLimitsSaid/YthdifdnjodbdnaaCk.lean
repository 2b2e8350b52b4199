/- estimate.Check of one trace, told by its spans. -/
import Derived.Test.YthdifdnjodbdnaaQgEsC
namespace Go.Proofs.Ythdifdnjodbdnaa.Q
open Go.RowKit Go.Proofs.YthdifdnjodbdnaaW.PrintWords Go.Proofs.YthdifdnjodbdnaaW.PrintLast Go.Proofs.YthdifdnjodbdnaaW.PrintMore
set_option linter.unusedVariables false
set_option linter.unusedSimpArgs false
set_option linter.unusedSimpArgs false
def Check1.f (k : Nat) (l : List S58) : Option Int := estimate_Check.f k [⟨9, 1, l⟩]
theorem Check1.mono : ∀ a k, LeO (Check1.f k a) (Check1.f (k + 1) a) := fun a k => estimate_Check.mono _ k
theorem Check1.calls (k : Nat) (A : Option Addr) (c : Nat) (l : List S58) (r : Int) (w : World) (hr : Kd.C k58 w A l.length l) (hc : l.length ≤ c) {g : Nat} (hg : w.heap.size = g) (h : Check1.f k l = some r) :
    Calls Try.prog 30 #[.slice (some ⟨g, 0, none⟩) 1 1] (w.alloc (.cells #[.int .i64 9, .int .i64 1, .slice A l.length c] 53)) fun e w' => e = .returned (.int .i64 r) ∧ Below (w.alloc (.cells #[.int .i64 9, .int .i64 1, .slice A l.length c] 53)).heap.size (w.alloc (.cells #[.int .i64 9, .int .i64 1, .slice A l.length c] 53)) w' := by
  subst hg
  refine estimate_Check.calls k (some ⟨w.heap.size, 0, none⟩) 1 [⟨9, 1, l⟩] r _ ?_ (Nat.le_refl _) h
  refine ⟨rfl, (by show (1 : Nat) ≤ 9223372036854775807; omega), fun _ => ⟨_, rfl, fun j p hj => ?_⟩⟩
  match j, hj with
  | 0, hj =>
    obtain rfl : (⟨9, 1, l⟩ : S53) = p := by simpa using hj
    refine ⟨_, rfl, k53_mk _ ⟨9, 1, l⟩ hc (Kd.C_below hr (below_alloc (Below.refl _ _) _)), fun i u hu => ?_⟩
    rw [show (⟨w.heap.size, 0, none⟩ : Addr).add (0 * Kd.sz k53 + i) = ⟨w.heap.size, i, none⟩ by rw [Nat.zero_mul, Nat.zero_add]; unfold Addr.add; split <;> simp_all]
    rw [blk_cell (blk_new w _) i]
    simpa using hu
  | j + 1, hj => simp at hj
end Go.Proofs.Ythdifdnjodbdnaa.Q
