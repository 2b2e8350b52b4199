/- sleuthlaw13.Offset: an array read at a reckoned place. -/
import Derived.Test.YthdifdnjodbdnaaTy
namespace Go.Proofs.Ythdifdnjodbdnaa.Q
open Go.RowKit Go.Proofs.YthdifdnjodbdnaaW.PrintWords Go.Proofs.YthdifdnjodbdnaaW.PrintLast Go.Proofs.YthdifdnjodbdnaaW.PrintMore
set_option linter.unusedVariables false
set_option linter.unusedSimpArgs false
set_option linter.unusedSimpArgs false
def sleuthlaw13_Offset.f (l0_0 : List S104) (a0_1 a0_2 a0_3 a0_4 : Int) (l0_5 : List S193) (a0_6 : Int) (a1 : Int) : Option Int :=
  if a1 = 1 then some (Int.tmod (wrap64 a0_1) 21) else if a1 = 2 then some (Int.tmod (wrap64 a0_2) 21) else if a1 = 3 then some (Int.tmod (wrap64 a0_3) 21) else if a1 = 4 then some (Int.tmod (wrap64 a0_4) 21) else none
set_option maxHeartbeats 2000000 in
set_option maxRecDepth 100000 in
theorem sleuthlaw13_Offset.calls (A0_0 : Option Addr) (c0_0 : Nat) (l0_0 : List (S104)) (a0_1 : Int) (a0_2 : Int) (a0_3 : Int) (a0_4 : Int) (A0_5 : Option Addr) (c0_5 : Nat) (l0_5 : List (S193)) (a0_6 : Int) (a1 : Int) (r : Int) (w : World) (hr0_0 : Kd.C k104 w A0_0 l0_0.length l0_0) (hc0_0 : l0_0.length ≤ c0_0) (hr0_5 : Kd.C k193 w A0_5 l0_5.length l0_5) (hc0_5 : l0_5.length ≤ c0_5) (h : sleuthlaw13_Offset.f l0_0 a0_1 a0_2 a0_3 a0_4 l0_5 a0_6 a1 = some r) :
  Calls Try.prog 70 #[.agg #[.slice A0_0 l0_0.length c0_0, .int .i8 a0_1, .int .i8 a0_2, .int .i8 a0_3, .int .i8 a0_4, .slice A0_5 l0_5.length c0_5, .int .u8 a0_6], .int .i64 a1] w fun e w' => e = .returned (.int .i64 r) ∧ Below w.heap.size w w' := by
  have hu27 := Try.underlying27
  have hu24 := Try.underlying24
  clear hr0_0 hc0_0 hr0_5 hc0_5
  have h4 : (a1 = 1 ∧ Int.tmod (wrap64 a0_1) 21 = r) ∨ (a1 = 2 ∧ Int.tmod (wrap64 a0_2) 21 = r) ∨ (a1 = 3 ∧ Int.tmod (wrap64 a0_3) 21 = r) ∨ (a1 = 4 ∧ Int.tmod (wrap64 a0_4) 21 = r) := by
    unfold sleuthlaw13_Offset.f at h
    by_cases h1 : a1 = 1
    · rw [if_pos h1] at h; exact .inl ⟨h1, Option.some.inj h⟩
    · by_cases h2 : a1 = 2
      · rw [if_neg h1, if_pos h2] at h; exact .inr (.inl ⟨h2, Option.some.inj h⟩)
      · by_cases h3 : a1 = 3
        · rw [if_neg h1, if_neg h2, if_pos h3] at h; exact .inr (.inr (.inl ⟨h3, Option.some.inj h⟩))
        · by_cases h5 : a1 = 4
          · rw [if_neg h1, if_neg h2, if_neg h3, if_pos h5] at h; exact .inr (.inr (.inr ⟨h5, Option.some.inj h⟩))
          · rw [if_neg h1, if_neg h2, if_neg h3, if_neg h5] at h; cases h
  clear h
  rcases h4 with ⟨rfl, rfl⟩ | ⟨rfl, rfl⟩ | ⟨rfl, rfl⟩ | ⟨rfl, rfl⟩
  all_goals
    go_enter Try.func70, Try.ntmps70
    go_wp2
    go_ret
    exact ⟨rfl, below_alloc (Below.refl _ _) _⟩
end Go.Proofs.Ythdifdnjodbdnaa.Q
