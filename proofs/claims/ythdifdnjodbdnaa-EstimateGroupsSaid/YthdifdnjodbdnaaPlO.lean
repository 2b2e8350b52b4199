/- The plain law of EstimateGroups. -/
import Derived.Test.YthdifdnjodbdnaaPlN
import Derived.Test.YthdifdnjodbdnaaQgSleuthlaw25EstimateGroups
namespace Go.Proofs.Ythdifdnjodbdnaa.Pl
open Go.RowKit Go.Proofs.YthdifdnjodbdnaaW.PrintWords Go.Proofs.YthdifdnjodbdnaaW.PrintLast Go.Proofs.YthdifdnjodbdnaaW.PrintMore Go.Proofs.Ythdifdnjodbdnaa.Q Go.Proofs.Ythdifdnjodbdnaa.RowS
set_option linter.unusedVariables false
set_option linter.unusedSimpArgs false
set_option linter.unusedSimpArgs false
theorem groupOf_f (lv : Int) (h : lv = 1 ∨ lv = 2 ∨ lv = 3) (s : S58) : estimate_GroupOf.f s.f0 s.f1 s.f2 s.f3 s.f4 s.f5 s.f6 s.f7 s.f8 s.f9 s.f10 s.f11 s.f12 s.f13 lv = some (s.f6, (if lv = 2 then s.f7 else ⟨#[]⟩), (if lv = 3 then s.f8 else ⟨#[]⟩), 0) := by
  unfold estimate_GroupOf.f
  rcases h with rfl | rfl | rfl <;> rfl
theorem g_l1 (lv : Int) (h : lv = 1 ∨ lv = 2 ∨ lv = 3) (ts : List S53) (hG : Good ts) (R : Bool) {i : Nat} (hi : i < ts.length) (hR : Ev (fun k => sleuthlaw25_EstimateGroups.l0 k lv ts ((i + 1 : Nat) : Int)) R) : ∀ (d j : Nat), ts[i].f2.length - j = d → j ≤ ts[i].f2.length → Ev (fun k => sleuthlaw25_EstimateGroups.l1 k lv ts (i : Int) (j : Int)) R := by
  have hr : rd_T53 ts (i : Int) = ts[i] := getD_at ts z53 hi
  have h8 := hG.len ts[i] (List.getElem_mem hi)
  have hn := hG.n
  intro d
  induction d with
  | zero =>
    intro j hd hj
    refine Ev.step (fun k => ?_) hR
    simp only [sleuthlaw25_EstimateGroups.l1, hr]
    rw [if_pos (by omega), if_pos (by omega), if_neg (by omega), wsucc hi (by omega)]
  | succ d ih =>
    intro j hd hj
    have hlt : j < ts[i].f2.length := by omega
    have hrs : rd_T58 ts[i].f2 (j : Int) = ts[i].f2[j] := getD_at _ z58 hlt
    refine Ev.step (fun k => ?_) (ih (j + 1) (by omega) (by omega))
    simp only [sleuthlaw25_EstimateGroups.l1, hr, hrs, groupOf_f lv h, group_f, Option.bind_some]
    rw [if_pos (by omega), if_pos (by omega), if_pos (by omega), if_pos (by omega), wsucc hlt (by omega)]
    simp
theorem g_l0 (lv : Int) (h : lv = 1 ∨ lv = 2 ∨ lv = 3) (ts : List S53) (hG : Good ts) (R : Bool) (hR : Ev (fun k => (estimate_By.f k ts lv).bind fun bt => if bt.2 = 0 then (sleuthlaw25_by.f k ts lv).bind fun t => (sleuthlaw25_same.f k bt.1 t).bind fun t2 => some t2 else none) R) : ∀ (d i : Nat), ts.length - i = d → i ≤ ts.length → Ev (fun k => sleuthlaw25_EstimateGroups.l0 k lv ts (i : Int)) R := by
  intro d
  induction d with
  | zero =>
    intro i hd hi
    refine Ev.step (fun k => ?_) hR
    simp only [sleuthlaw25_EstimateGroups.l0]
    rw [if_neg (by omega)]
  | succ d ih =>
    intro i hd hi
    have hlt : i < ts.length := by omega
    refine Ev.step (fun k => ?_) (g_l1 lv h ts hG R hlt (ih (i + 1) (by omega) (by omega)) ts[i].f2.length 0 rfl (Nat.zero_le _))
    simp only [sleuthlaw25_EstimateGroups.l0]
    rw [if_pos (by omega)]
    rfl
theorem groups (l0 : List S104) (o1 o2 o3 o4 : Int) (l5 : List S193) (wr a b c lv : Int) (ht : ∀ t ∈ l0, TreeOk t) (ho : I8 o1 ∧ I8 o2 ∧ I8 o3 ∧ I8 o4) (hn : l0.length ≤ 9223372036854775807) (habc : U8 a ∧ U8 b ∧ U8 c) : ∃ k, sleuthlaw25_EstimateGroups.f k l0 o1 o2 o3 o4 l5 wr a b c lv = some true := by
  obtain ⟨ts, h3, hW, hts⟩ := weighted_ev l0 o1 o2 o3 o4 l5 wr a b c ht ho hn habc
  by_cases h : lv = 1 ∨ lv = 2 ∨ lv = 3
  · obtain ⟨X, hX, hXe⟩ := by_ev lv h ts hW.good hW.names
    obtain ⟨Y, hY, hYe⟩ := by2_ev lv ts hW (by omega)
    obtain rfl := hX.uniq hY
    have hl := hX.len
    have key : Ev (fun k => sleuthlaw25_EstimateGroups.j0 k lv ts false) true := by
      refine Ev.step (fun k => ?_) (g_l0 lv h ts hW.good true (Ev.bind (f := fun k bt => if bt.2 = 0 then (sleuthlaw25_by.f k ts lv).bind fun t => (sleuthlaw25_same.f k bt.1 t).bind fun t2 => some t2 else none) hXe (Ev.congr (fun k => if_pos rfl) (Ev.bind (f := fun k t => (sleuthlaw25_same.f k X t).bind fun t2 => some t2) hYe (Ev.bind (f := fun _ t2 => some t2) (same_self X (by omega)) (Ev.now _))))) ts.length 0 rfl (Nat.zero_le _))
      simp only [sleuthlaw25_EstimateGroups.j0]
      rw [if_neg (by decide)]
      rfl
    refine Ev.rounds (Ev.bind known_ev (Ev.congr (fun k => if_pos rfl) (Ev.bind hts (Ev.congr (fun k => ?_) key))))
    rw [if_neg (by omega), decide_eq_false (by omega)]
  · have key : Ev (fun k => sleuthlaw25_EstimateGroups.j0 k lv ts true) true := by
      refine Ev.step (f := fun _ => some true) (fun k => ?_) (Ev.now _)
      have e : estimate_GroupOf.f 0 0 0 0 0 0 (⟨#[115]⟩ : ByteArray) (⟨#[]⟩ : ByteArray) (⟨#[]⟩ : ByteArray) 0 0 false ([] : List S141) ([] : List S146) lv = some (⟨#[]⟩, ⟨#[]⟩, ⟨#[]⟩, 12) := by
        unfold estimate_GroupOf.f
        rw [if_neg (fun e => h (.inl e)), if_neg (fun e => h (.inr (.inl e))), if_neg (fun e => h (.inr (.inr e)))]
      have z : (⟨#[]⟩ : ByteArray).toList = [] := ByteArray.toList_eq _
      simp only [sleuthlaw25_EstimateGroups.j0, by_none ts lv h, e, Option.bind_some, z]
      rfl
    refine Ev.rounds (Ev.bind known_ev (Ev.congr (fun k => if_pos rfl) (Ev.bind hts (Ev.congr (fun k => ?_) key))))
    by_cases h1 : lv < 1
    · rw [if_pos h1]
    · rw [if_neg h1, decide_eq_true (by omega)]
end Go.Proofs.Ythdifdnjodbdnaa.Pl
