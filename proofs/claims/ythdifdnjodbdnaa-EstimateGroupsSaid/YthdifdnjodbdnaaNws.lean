/- Rows that lead on, made in a drawn region: what one literal, one append and a cut do to a list of them, whatever the order. -/
import Derived.Test.YthdifdnjodbdnaaRws
import Derived.Test.YthdifdnjodbdnaaPw
namespace Go.Proofs.Ythdifdnjodbdnaa.Q
open Go.RowKit Go.Proofs.YthdifdnjodbdnaaW.PrintWords Go.Proofs.YthdifdnjodbdnaaW.PrintLast Go.Proofs.YthdifdnjodbdnaaW.PrintMore
set_option linter.unusedVariables false
set_option linter.unusedSimpArgs false
set_option linter.unusedSimpArgs false
section
variable {α : Type} {d : Kd α} {e lo : Nat} {W0 W w1 : World} {L : List (Value × List α)}
/-- What row i may lead to: blocks from lo on, but the others' own ones. -/
def okN (lo : Nat) (L : List (Value × List α)) (i : Nat) (k : Nat) : Prop := lo ≤ k ∧ ∀ (j : Nat) (q : Value × List α), L[j]? = some q → j ≠ i → some k ≠ q.1.ownBlock
/-- The rows of a list, made behind W0; what lies before W0 stays. -/
structure Nws (d : Kd α) (e lo : Nat) (W0 : World) (L : List (Value × List α)) (W : World) : Prop where
  b : Below W0.heap.size W0 W
  r : ∀ (i : Nat) (p : Value × List α), L[i]? = some p → Kd.N d e W W0.heap.size (okN lo L i) p.1 p.2
namespace Nws
theorem start : Nws d e lo W0 [] W0 := ⟨Below.refl _ _, fun i p h => by simp at h⟩
theorem nil_ (h : Nws d e lo W0 L W) : Nws d e lo W0 ((.slice none 0 0, []) :: L) W := by
  refine ⟨h.b, fun i p hp => ?_⟩
  cases i with
  | zero => cases hp; exact Kd.N_nil _ _ _ _ _
  | succ i =>
    refine Kd.N_mono (h.r i p hp) (fun k hk => ⟨hk.1, fun j q hq hj => ?_⟩)
    cases j with
    | zero => cases hq; simp [Value.ownBlock]
    | succ j => exact hk.2 j q hq (fun e => hj (by rw [e]))
theorem getset {L : List (Value × List α)} {i j : Nat} {p q : Value × List α} (h : (L.set i p)[j]? = some q) : (j = i ∧ q = p) ∨ (j ≠ i ∧ L[j]? = some q) := by
  rw [List.getElem?_set] at h
  split at h
  · rename_i e
    split at h
    · exact .inl ⟨e.symm, (Option.some.inj h).symm⟩
    · cases h
  · rename_i e
    exact .inr ⟨fun e2 => e e2.symm, h⟩
theorem ok_nil {i j k : Nat} (h : okN lo L j k) : okN lo (L.set i (.slice none 0 0, [])) j k := by
  refine ⟨h.1, fun m q hq hm => ?_⟩
  rcases getset hq with ⟨_, rfl⟩ | ⟨_, hq⟩
  · simp [Value.ownBlock]
  · exact h.2 m q hq hm
theorem setNil (h : Nws d e lo W0 L W) (i : Nat) : Nws d e lo W0 (L.set i (.slice none 0 0, [])) W := by
  refine ⟨h.b, fun j p hp => ?_⟩
  rcases getset hp with ⟨_, rfl⟩ | ⟨_, hp⟩
  · exact Kd.N_nil _ _ _ _ _
  · exact Kd.N_mono (h.r j p hp) (fun k hk => ok_nil hk)
theorem lt (h : Nws d e lo W0 L W) {j : Nat} {q : Value × List α} (hq : L[j]? = some q) {k : Nat} (hk : some k = q.1.ownBlock) : W0.heap.size ≤ k ∧ k < W.heap.size := ⟨Kd.N_base (h.r j q hq) k hk.symm, Kd.N_lt (h.r j q hq) k hk.symm⟩
/-- A row that has come into place i: own block new, or the one before. -/
theorem put (h : Nws d e lo W0 L W) (i : Nat) (hb : Below W0.heap.size W0 w1) {v : Value} {xs : List α} {row : Option Nat} (hg : W.grownBy w1 row) (hrow : ∀ (j : Nat) (q : Value × List α), L[j]? = some q → j ≠ i → ∀ k, okN lo L j k → some k ≠ row)
    (hat : ∀ k, v.ownBlock = some k → W.heap.size ≤ k ∨ row = some k) (hr : Kd.N d e w1 W0.heap.size (okN lo L i) v xs) : Nws d e lo W0 (L.set i (v, xs)) w1 := by
  refine ⟨hb, fun j p hp => ?_⟩
  rcases getset hp with ⟨rfl, rfl⟩ | ⟨hji, hp2⟩
  · refine Kd.N_mono hr (fun k hk => ⟨hk.1, fun m q hq hm => ?_⟩)
    rcases getset hq with ⟨rfl, _⟩ | ⟨_, hq2⟩
    · exact absurd rfl hm
    · exact hk.2 m q hq2 hm
  · refine Kd.N_mono (Kd.N_grown (Kd.N_bound (h.r j p hp2)) hg (fun k hk => hrow j p hp2 hji k hk.1)) (fun k hk => ⟨hk.1.1, fun m q hq hm => ?_⟩)
    rcases getset hq with ⟨rfl, rfl⟩ | ⟨_, hq2⟩
    · intro e
      rcases hat k e.symm with hn | hn
      · have := hk.2; omega
      · exact hrow j p hp2 hji k hk.1 hn.symm
    · exact hk.1.2 m q hq2 hm
theorem out (h : Nws d e lo W0 L W) (i : Nat) {v : Value} {xs : List α} (hi : L[i]? = some (v, xs)) (hlo : lo ≤ W0.heap.size) : Kd.N d e W lo (fun k => lo ≤ k) v xs := Kd.N_lower (Kd.N_mono (h.r i _ hi) (fun k hk => hk.1)) hlo
end Nws
variable {P : Program} {ops : Array Oper} {o : Oper} {a : Act} {Q : Exit → Act → World → Prop} {Kc : Act → World → Prop}
/-- A literal, laid at place i of the rows. -/
theorem ltN_ (hR : Aside0 (Nws d e lo W0 L W)) (i N : Nat) {xs : List α} {inner : List Value} (hlo : lo ≤ W0.heap.size)
    (hrep : Reps (Kd.FK d W (fun k => lo ≤ k ∧ k < W0.heap.size)) d.sz xs inner)
    (h : ∀ v1 w1, Aside0 (Nws d e lo W0 (L.set i (v1, xs)) w1) → Kc (a.put (some N) v1) w1)
    (hi : L[i]? = some (.slice none 0 0, []) := by rfl)
    (hrun : (execOp a.eval o).run P W = .ok (.value (.slice (some ⟨W.heap.size, 0, none⟩) xs.length xs.length)) (W.alloc (.cells inner.toArray e)) := by first | (go_simp; done) | (go_simp; rfl))
    (hw : Region.wanted o (yielded ops a.tmps) = true := by rfl) (hd : o.dst = some N := by rfl) (hm : xs.length ≤ 9223372036854775807 := by simp) : if Region.wanted o (yielded ops a.tmps) = true then Oper.wp P o a W Kc Q else Kc (a.put (some N) undef) W := by
  have hsz : W0.heap.size ≤ W.heap.size := hR.out.b.size
  have hE := Kd.N_lit_step (P := P) (ops := ops) (o := o) (a := a) (Kc := Kc) (Q := Q) d (w0 := W0) W0.heap.size e hw hd (xs := xs) (inner := inner) (ok := okN lo L i) (okp := fun k => lo ≤ k ∧ k < W0.heap.size) hrun hrep
    (fun k hk => ⟨hk.1, fun j q hq _ he => by have := hR.out.lt hq he; omega⟩) ⟨Nat.le_trans hlo hsz, fun j q hq _ he => by have := (hR.out.lt hq he).2; omega⟩ hR.out.b hsz hm (by
    intro v1 w1 hr hb hg hat
    rw [hd]
    refine h v1 w1 ⟨hR.out.put i hb hg (fun j q hq _ k hk he => by cases he) (fun k hk => ?_) hr⟩
    obtain ⟨b, hb1, hb2⟩ := hat
    rw [hb1] at hk
    cases hk
    exact .inl hb2)
  rw [hd] at hE
  exact hE
/-- append(v, u...): u the row at place i (struck behind it), v the one at place j. -/
theorem apN_ (s x : Operand) (t : TypeId) (z : Value) (bytes i j N : Nat) {u v : Value} {xs ys : List α} (hR : Aside0 (Nws d e lo W0 L W)) (hlo : lo ≤ W0.heap.size)
    (hs : a.eval s = v) (hx : a.eval x = u) (hi : L[i]? = some (u, ys)) (hj : L[j]? = some (v, xs)) (hl : (xs.length + ys.length) * bytes ≤ 140737488355328)
    (h : ∀ v1 w1, Aside0 (Nws d e lo W0 ((L.set i (.slice none 0 0, [])).set j (v1, xs ++ ys)) w1) → Kc (a.put (some N) v1) w1)
    (ht : P.underlying t = some (.slice e)) (hinfo : (P.info? e).map (fun i => (i.zero, i.size, i.bytes)) = some (some z, d.sz, bytes)) (hz : z.cells.size = d.sz := by rfl) (hs0 : 0 < d.sz := by decide) (hb0 : 0 < bytes := by decide)
    (ho : o.op = .call { callee := .builtin .append, args := #[s, x], argTypes := #[t, t] } := by rfl)
    (hw : Region.wanted o (yielded ops a.tmps) = true := by rfl) (hd : o.dst = some N := by rfl) (hij : i ≠ j := by decide) : if Region.wanted o (yielded ops a.tmps) = true then Oper.wp P o a W Kc Q else Kc (a.put (some N) undef) W := by
  have hsz : W0.heap.size ≤ W.heap.size := hR.out.b.size
  obtain ⟨A, c, hu⟩ := Kd.N_slice (hR.out.r i (u, ys) hi)
  have hu2 : u = .slice A ys.length c := hu
  subst hu2
  have hR2 := hR.out.setNil i
  have hj2 : (L.set i (.slice none 0 0, []))[j]? = some (v, xs) := by rw [List.getElem?_set_ne hij]; exact hj
  have hE := Kd.N_append_rows_step (P := P) (ops := ops) (o := o) (a := a) (Kc := Kc) (Q := Q) d (w0 := W0) W0.heap.size hw s x t e z bytes ho ht hinfo hz hs0 hb0 v xs ys A ys.length c (okN lo (L.set i (.slice none 0 0, [])) j) (okN lo L i) hs hx (hR2.r j _ hj2) (Kd.N_F (hR.out.r i _ hi))
    (fun k hk => ⟨⟨hk.1, fun m q hq hm => by
      rcases Nws.getset hq with ⟨_, rfl⟩ | ⟨hmi, hq⟩
      · simp [Value.ownBlock]
      · exact hk.2 m q hq hmi⟩, hk.2 j _ hj (Ne.symm hij)⟩)
    (fun k hk => ⟨Nat.le_trans hlo (Nat.le_trans hsz hk), fun m q hq hm he => by have := (hR2.lt hq he).2; omega⟩) hR.out.b hsz hl (by
    intro v1 w1 hr hb hg hat
    rw [hd]
    refine h v1 w1 ⟨hR2.put j hb hg (fun m q hq hm k hk he => hk.2 j _ hj2 (Ne.symm hm) he) (fun k hk => ?_) hr⟩
    rcases hat with hat | ⟨b, hb1, hb2⟩
    · exact .inr (hat ▸ hk)
    · rw [hb1] at hk
      cases hk
      exact .inl hb2)
  rw [hd] at hE
  exact hE
/-- append(v, u...): u a row that is read and lies before W0, v the one at place j. -/
theorem apC_N (s x : Operand) (t : TypeId) (z : Value) (bytes j N : Nat) {A : Option Addr} {c : Nat} {v : Value} {xs ys : List α} (hR : Aside0 (Nws d e lo W0 L W)) (hlo : lo ≤ W0.heap.size)
    (hs : a.eval s = v) (hx : a.eval x = .slice A ys.length c) (hC : Kd.F d W0 (fun k => lo ≤ k ∧ k < W0.heap.size) A ys.length ys) (hj : L[j]? = some (v, xs)) (hl : (xs.length + ys.length) * bytes ≤ 140737488355328)
    (h : ∀ v1 w1, Aside0 (Nws d e lo W0 (L.set j (v1, xs ++ ys)) w1) → Kc (a.put (some N) v1) w1)
    (ht : P.underlying t = some (.slice e)) (hinfo : (P.info? e).map (fun i => (i.zero, i.size, i.bytes)) = some (some z, d.sz, bytes)) (hz : z.cells.size = d.sz := by rfl) (hs0 : 0 < d.sz := by decide) (hb0 : 0 < bytes := by decide)
    (ho : o.op = .call { callee := .builtin .append, args := #[s, x], argTypes := #[t, t] } := by rfl)
    (hw : Region.wanted o (yielded ops a.tmps) = true := by rfl) (hd : o.dst = some N := by rfl) : if Region.wanted o (yielded ops a.tmps) = true then Oper.wp P o a W Kc Q else Kc (a.put (some N) undef) W := by
  have hsz : W0.heap.size ≤ W.heap.size := hR.out.b.size
  have hE := Kd.N_append_rows_step (P := P) (ops := ops) (o := o) (a := a) (Kc := Kc) (Q := Q) d (w0 := W0) W0.heap.size hw s x t e z bytes ho ht hinfo hz hs0 hb0 v xs ys A ys.length c (okN lo L j) (fun k => lo ≤ k ∧ k < W0.heap.size) hs hx (hR.out.r j _ hj) (Kd.F_step hC (fun k hk _ => hR.out.b.block k hk.2))
    (fun k hk => ⟨⟨hk.1, fun m q hq hm he => by have := (hR.out.lt hq he).1; omega⟩, fun he => by have := (hR.out.lt hj he).1; omega⟩)
    (fun k hk => ⟨Nat.le_trans hlo (Nat.le_trans hsz hk), fun m q hq hm he => by have := (hR.out.lt hq he).2; omega⟩) hR.out.b hsz hl (by
    intro v1 w1 hr hb hg hat
    rw [hd]
    refine h v1 w1 ⟨hR.out.put j hb hg (fun m q hq hm k hk he => hk.2 j _ hj (Ne.symm hm) he) (fun k hk => ?_) hr⟩
    rcases hat with hat | ⟨b, hb1, hb2⟩
    · exact .inr (hat ▸ hk)
    · rw [hb1] at hk
      cases hk
      exact .inl hb2)
  rw [hd] at hE
  exact hE
end
end Go.Proofs.Ythdifdnjodbdnaa.Q
