/- A list of own rows of ints, each in a block apart from the others: what one literal and one append do to it. -/
import Derived.Test.YthdifdnjodbdnaaTy
namespace Go.Proofs.Ythdifdnjodbdnaa.Q
open Go.RowKit Go.Proofs.YthdifdnjodbdnaaW.PrintWords Go.Proofs.YthdifdnjodbdnaaW.PrintLast Go.Proofs.YthdifdnjodbdnaaW.PrintMore
set_option linter.unusedVariables false
set_option linter.unusedSimpArgs false
set_option linter.unusedSimpArgs false
/-- The rows of a list, each with what it holds; no two of them lie in one block. -/
def Rws (w : World) (base : Nat) (L : List (Value × List Int)) : Prop :=
  (∀ (i : Nat) (p : Value × List Int), L[i]? = some p → (Kd.int .i64).R 3 w base (fun _ => True) p.1 p.2) ∧ (∀ (i j : Nat) (p q : Value × List Int), L[i]? = some p → L[j]? = some q → i ≠ j → ∀ k, p.1.ownBlock = some k → q.1.ownBlock ≠ some k)
namespace Rws
variable {w W w1 : World} {base : Nat} {L : List (Value × List Int)}
theorem empty : Rws w base [] := ⟨fun i p h => by simp at h, fun i j p q h => by simp at h⟩
theorem cons {v : Value} {xs : List Int} {ok : Nat → Prop} (h : (Kd.int .i64).R 3 w base ok v xs) (hok : ∀ k, ok k → ∀ q ∈ L, some k ≠ q.1.ownBlock) (hL : Rws w base L) : Rws w base ((v, xs) :: L) := by
  refine ⟨fun i p hp => ?_, fun i j p q hp hq hij k hk => ?_⟩
  · cases i with
    | zero => cases hp; exact Kd.R_mono h (fun _ _ => trivial)
    | succ i => exact hL.1 i p hp
  · cases i with
    | zero =>
      cases hp
      cases j with
      | zero => exact absurd rfl hij
      | succ j => exact fun he => hok k (h.1 k hk) q (List.mem_of_getElem? hq) he.symm
    | succ i =>
      cases j with
      | zero =>
        cases hq
        exact fun he => hok k (h.1 k he) p (List.mem_of_getElem? hp) hk.symm
      | succ j => exact hL.2 i j p q hp hq (fun e => hij (by rw [e])) k hk
theorem nil_ (hL : Rws w base L) : Rws w base ((.slice none 0 0, []) :: L) :=
  cons (Kd.R_nil _ _ _ _ (fun _ => False)) (fun _ h => h.elim) hL
theorem out (hL : Rws w base L) (i : Nat) {v : Value} {xs : List Int} {ok : Nat → Prop} (hi : L[i]? = some (v, xs)) (hok : ∀ k, (∀ (j : Nat) (q : Value × List Int), L[j]? = some q → j ≠ i → some k ≠ q.1.ownBlock) → ok k) :
    (Kd.int .i64).R 3 w base ok v xs :=
  Kd.R_reok rfl (hL.1 i _ hi) (fun k hk => hok k (fun j q hq hji he => hL.2 i j _ q hi hq (fun e => hji e.symm) k hk he.symm))
theorem getset {L : List (Value × List Int)} {i j : Nat} {p q : Value × List Int} (h : (L.set i p)[j]? = some q) : (j = i ∧ q = p) ∨ (j ≠ i ∧ L[j]? = some q) := by
  rw [List.getElem?_set] at h
  split at h
  · rename_i e
    split at h
    · exact .inl ⟨e.symm, (Option.some.inj h).symm⟩
    · cases h
  · rename_i e
    exact .inr ⟨fun e2 => e e2.symm, h⟩
/-- A row that is struck, or one that is not there any more. -/
theorem setNil (hL : Rws w base L) (i : Nat) : Rws w base (L.set i (.slice none 0 0, [])) := by
  refine ⟨fun a p hp => ?_, fun a b p q hp hq hab k hk => ?_⟩
  · rcases getset hp with ⟨_, rfl⟩ | ⟨_, h⟩
    · exact Kd.R_nil _ _ _ _ _
    · exact hL.1 a p h
  · rcases getset hp with ⟨_, rfl⟩ | ⟨_, h⟩
    · simp [Value.ownBlock] at hk
    · rcases getset hq with ⟨_, rfl⟩ | ⟨_, h2⟩
      · simp [Value.ownBlock]
      · exact hL.2 a b p q h h2 hab k hk
theorem below (hL : Rws W base L) (hb : Below W.heap.size W w1) : Rws w1 base L :=
  ⟨fun i p hp => Kd.R_below (hL.1 i p hp) hb, hL.2⟩
/-- A new row. -/
theorem setNew (hL : Rws W base L) (hb : Below W.heap.size W w1) (i : Nat) {v : Value} {xs : List Int} {ok : Nat → Prop} (hr : (Kd.int .i64).R 3 w1 base ok v xs) (hn : ∀ k, v.ownBlock = some k → W.heap.size ≤ k) :
    Rws w1 base (L.set i (v, xs)) := by
  have hlt : ∀ (a : Nat) (p : Value × List Int), L[a]? = some p → ∀ k, p.1.ownBlock = some k → k < W.heap.size := fun a p hp => Kd.R_lt (hL.1 a p hp)
  refine ⟨fun a p hp => ?_, fun a b p q hp hq hab k hk => ?_⟩
  · rcases getset hp with ⟨_, rfl⟩ | ⟨_, h⟩
    · exact Kd.R_mono hr (fun _ _ => trivial)
    · exact Kd.R_below (hL.1 a p h) hb
  · rcases getset hp with ⟨ha, rfl⟩ | ⟨_, h⟩
    · rcases getset hq with ⟨hb2, rfl⟩ | ⟨_, h2⟩
      · exact absurd (ha.trans hb2.symm) hab
      · intro he; have := hn k hk; have := hlt b q h2 k he; omega
    · rcases getset hq with ⟨_, rfl⟩ | ⟨_, h2⟩
      · intro he; have := hn k he; have := hlt a p h k hk; omega
      · exact hL.2 a b p q h h2 hab k hk
/-- A row that has grown. -/
theorem setGrown (hL : Rws W base L) (i : Nat) {u v : Value} {xs ys : List Int} {ok : Nat → Prop} (hi : L[i]? = some (u, xs)) (hg : W.grownBy w1 u.ownBlock)
    (hat : v.ownBlock = u.ownBlock ∨ ∃ b, v.ownBlock = some b ∧ W.heap.size ≤ b) (hr : (Kd.int .i64).R 3 w1 base ok v ys) : Rws w1 base (L.set i (v, ys)) := by
  have hlt : ∀ (a : Nat) (p : Value × List Int), L[a]? = some p → ∀ k, p.1.ownBlock = some k → k < W.heap.size := fun a p hp => Kd.R_lt (hL.1 a p hp)
  have hv : ∀ (a : Nat) (p : Value × List Int), L[a]? = some p → a ≠ i → ∀ k, p.1.ownBlock = some k → v.ownBlock ≠ some k := by
    intro a p hp hai k hk he
    rcases hat with hat | ⟨b, hb, hle⟩
    · rw [hat] at he
      exact hL.2 a i p _ hp hi hai k hk he
    · rw [hb] at he
      injection he with he
      have := hlt a p hp k hk
      omega
  refine ⟨fun a p hp => ?_, fun a b p q hp hq hab k hk => ?_⟩
  · rcases getset hp with ⟨_, rfl⟩ | ⟨hai, h⟩
    · exact Kd.R_mono hr (fun _ _ => trivial)
    · refine Kd.R_mono (Kd.R_move (ok := fun k => p.1.ownBlock = some k) (Kd.R_reok rfl (hL.1 a p h) (fun k hk => hk)) (fun k hk => hg.block k (hlt a p h k hk) (fun he => ?_))) (fun _ _ => trivial)
      exact hL.2 a i p _ h hi hai k hk he.symm
  · rcases getset hp with ⟨ha, rfl⟩ | ⟨hai, h⟩
    · rcases getset hq with ⟨hb2, rfl⟩ | ⟨hbi, h2⟩
      · exact absurd (ha.trans hb2.symm) hab
      · intro he; exact hv b q h2 hbi k he hk
    · rcases getset hq with ⟨_, rfl⟩ | ⟨_, h2⟩
      · exact hv a p h hai k hk
      · exact hL.2 a b p q h h2 hab k hk
theorem drop1 {p : Value × List Int} (hL : Rws w base (p :: L)) : Rws w base L := ⟨fun i q hq => hL.1 (i + 1) q hq, fun i j q s hq hs hij k hk => hL.2 (i + 1) (j + 1) q s hq hs (fun e => hij (by omega)) k hk⟩
theorem drop2 {p q : Value × List Int} (hL : Rws w base (p :: q :: L)) : Rws w base L := hL.drop1.drop1
end Rws
theorem Rws.outA {w : World} {base : Nat} {L : List (Value × List Int)} (hL : Aside0 (Rws w base L)) (i : Nat) {v : Value} {xs : List Int} {ok : Nat → Prop} (hi : L[i]? = some (v, xs) := by rfl)
    (hok : ∀ k, (∀ (j : Nat) (q : Value × List Int), L[j]? = some q → j ≠ i → some k ≠ q.1.ownBlock) → ok k := by
      intro k hk; (try dsimp only); (repeat' apply And.intro) <;> first | exact trivial | exact hk 0 _ rfl (by decide) | exact hk 1 _ rfl (by decide) | exact hk 2 _ rfl (by decide) | exact hk 3 _ rfl (by decide) | exact hk 4 _ rfl (by decide) | exact hk 5 _ rfl (by decide) | exact hk 6 _ rfl (by decide) | exact hk 7 _ rfl (by decide) | exact hk 8 _ rfl (by decide)) :
    (Kd.int .i64).R 3 w base ok v xs := hL.out.out i hi hok
theorem Rws.consA {w : World} {base : Nat} {L : List (Value × List Int)} {v : Value} {xs : List Int} {ok : Nat → Prop} (h : Aside0 ((Kd.int .i64).R 3 w base ok v xs)) (hL : Rws w base L)
    (hok : ∀ k, ok k → ∀ q ∈ L, some k ≠ q.1.ownBlock := by
      intro k hk; (try simp only [List.forall_mem_cons]); (repeat' apply And.intro) <;> first | exact hk.1 | exact hk.2.1 | exact hk.2.2.1 | exact hk.2.2.2.1 | exact hk.2.2.2.2.1 | exact hk.2 | exact hk.2.2 | exact hk.2.2.2 | exact hk.2.2.2.2 | simp [Value.ownBlock]) : Rws w base ((v, xs) :: L) := Rws.cons h.out hok hL
section
variable {ops : Array Oper} {o : Oper} {a : Act} {Q : Exit → Act → World → Prop} {Kc : Act → World → Prop}
/-- The literal []int{..}, laid at place i of the rows. -/
theorem lt_ {w0 W : World} {base : Nat} {L : List (Value × List Int)} (hR : Aside0 (Rws W base L)) (HB : Aside0 (Below base w0 W)) (i N : Nat) {xs ys : List Int} (hy : Aside0 (ys = xs)) (hbase : base = w0.heap.size)
    (h : ∀ v1 w1, Aside0 (Rws w1 base (L.set i (v1, ys))) → Aside0 (Below base w0 w1) → Kc (a.put (some N) v1) w1)
    (hrun : (execOp a.eval o).run Try.prog W = .ok (.value (.slice (some ⟨W.heap.size, 0, none⟩) xs.length xs.length)) (W.alloc (.cells (xs.map (Value.int .i64)).toArray 3)) := by first | (go_simp; done) | (go_simp; rfl))
    (hw : Region.wanted o (yielded ops a.tmps) = true := by rfl) (hd : o.dst = some N := by rfl) (hm : xs.length ≤ 9223372036854775807 := by simp) : if Region.wanted o (yielded ops a.tmps) = true then Oper.wp Try.prog o a W Kc Q else Kc (a.put (some N) undef) W := by
  have hsz : base ≤ W.heap.size := hbase ▸ HB.out.size
  have hE := Kd.R_lit_step (ops := ops) (a := a) (Kc := Kc) (Q := Q) (Kd.int .i64) (w0 := W) W.heap.size 3 hw hd (xs := xs) (inner := xs.map (Value.int .i64)) (ok := fun _ => True) (okp := fun _ => True) hrun (Kd.reps_scalar xs) (fun _ hk => hk) trivial (Below.refl _ _) (Nat.le_refl _) hm (by
    intro v1 w1 hr hb _ _
    rw [hd]
    refine h v1 w1 ⟨?_⟩ ⟨?_⟩
    · rw [hy.out]
      exact hR.out.setNew hb i (Kd.R_lower hr hsz) (Kd.R_base hr)
    · subst hbase
      exact below_step HB.out hb)
  rw [hd] at hE
  exact hE
/-- append(v, u...): u the row at place i (struck behind it), v the one at place j. -/
theorem ap_ {w0 W : World} {base : Nat} {L : List (Value × List Int)} (s x : Operand) (i j N : Nat) {u v : Value} {xs ys zs : List Int} (hR : Aside0 (Rws W base L)) (HB : Aside0 (Below base w0 W)) (hz : Aside0 (zs = xs ++ ys)) (hbase : base = w0.heap.size)
    (hs : a.eval s = v) (hx : a.eval x = u) (hi : L[i]? = some (u, ys)) (hj : L[j]? = some (v, xs)) (hl : xs.length + ys.length < 17592186044416)
    (h : ∀ v1 w1, Aside0 (Rws w1 base ((L.set i (.slice none 0 0, [])).set j (v1, zs))) → Aside0 (Below base w0 w1) → Kc (a.put (some N) v1) w1)
    (ho : o.op = .call { callee := .builtin .append, args := #[s, x], argTypes := #[82, 82] } := by rfl)
    (hw : Region.wanted o (yielded ops a.tmps) = true := by rfl) (hd : o.dst = some N := by rfl) (hij : i ≠ j := by decide) : if Region.wanted o (yielded ops a.tmps) = true then Oper.wp Try.prog o a W Kc Q else Kc (a.put (some N) undef) W := by
  have hsz : base ≤ W.heap.size := hbase ▸ HB.out.size
  obtain ⟨A, c, hu⟩ := Kd.R_slice (hR.out.1 i (u, ys) hi)
  have hu2 : u = .slice A ys.length c := hu
  subst hu2
  have hl2 : (xs.length + ys.length) * 8 ≤ 140737488355328 := by omega
  have hE := Kd.R_append_rows_step (ops := ops) (a := a) (Kc := Kc) (Q := Q) (Kd.int .i64) (w0 := w0) base hw s x 82 3 (.int .i64 0) 8 ho Try.underlying82 (by kernel_rfl) rfl (by decide) (by omega) v xs ys A ys.length c (fun _ => True) (fun _ => False) hs hx (hR.out.1 j _ hj)
    (Kd.R_reads' (hR.out.1 i _ hi)).2.2 (fun _ _ h => h) (fun _ h => h.elim) (fun _ _ => trivial) HB.out hsz hl2 (by
      intro v1 w1 hr hb hg hat
      rw [hd]
      refine h v1 w1 ⟨?_⟩ ⟨hb⟩
      rw [hz.out]
      have hj2 : (L.set i (.slice none 0 0, []))[j]? = some (v, xs) := by rw [List.getElem?_set_ne hij]; exact hj
      exact (hR.out.setNil i).setGrown j hj2 hg hat hr)
  rw [hd] at hE
  exact hE
/-- The literal []int{..}, laid at place i of the rows; the blocks before it stay. -/
theorem ltK_ {w0 W : World} {base : Nat} {L : List (Value × List Int)} (hR : Aside0 (Rws W base L)) (HB : Aside0 (Below base w0 W)) (i N : Nat) {xs ys : List Int} (hy : Aside0 (ys = xs)) (hbase : base = w0.heap.size)
    (h : ∀ v1 w1, Aside0 (Rws w1 base (L.set i (v1, ys))) → Aside0 (Below base w0 w1) → (∀ b, b < W.heap.size → w1.heap[b]? = W.heap[b]?) → Kc (a.put (some N) v1) w1)
    (hrun : (execOp a.eval o).run Try.prog W = .ok (.value (.slice (some ⟨W.heap.size, 0, none⟩) xs.length xs.length)) (W.alloc (.cells (xs.map (Value.int .i64)).toArray 3)) := by first | (go_simp; done) | (go_simp; rfl))
    (hw : Region.wanted o (yielded ops a.tmps) = true := by rfl) (hd : o.dst = some N := by rfl) (hm : xs.length ≤ 9223372036854775807 := by simp) : if Region.wanted o (yielded ops a.tmps) = true then Oper.wp Try.prog o a W Kc Q else Kc (a.put (some N) undef) W := by
  have hsz : base ≤ W.heap.size := hbase ▸ HB.out.size
  have hE := Kd.R_lit_step (ops := ops) (a := a) (Kc := Kc) (Q := Q) (Kd.int .i64) (w0 := W) W.heap.size 3 hw hd (xs := xs) (inner := xs.map (Value.int .i64)) (ok := fun _ => True) (okp := fun _ => True) hrun (Kd.reps_scalar xs) (fun _ hk => hk) trivial (Below.refl _ _) (Nat.le_refl _) hm (by
    intro v1 w1 hr hb _ _
    rw [hd]
    refine h v1 w1 ⟨?_⟩ ⟨?_⟩ ?_
    · rw [hy.out]
      exact hR.out.setNew hb i (Kd.R_lower hr hsz) (Kd.R_base hr)
    · subst hbase
      exact below_step HB.out hb
    · exact fun b hb2 => hb.block b hb2)
  rw [hd] at hE
  exact hE
/-- append(v, u...): u the row at place i (struck behind it), v the one at place j; the blocks but v's stay. -/
theorem apK_ {w0 W : World} {base : Nat} {L : List (Value × List Int)} (s x : Operand) (i j N : Nat) {u v : Value} {xs ys zs : List Int} (hR : Aside0 (Rws W base L)) (HB : Aside0 (Below base w0 W)) (hz : Aside0 (zs = xs ++ ys)) (hbase : base = w0.heap.size)
    (hs : a.eval s = v) (hx : a.eval x = u) (hi : L[i]? = some (u, ys)) (hj : L[j]? = some (v, xs)) (hl : xs.length + ys.length < 17592186044416)
    (h : ∀ v1 w1, Aside0 (Rws w1 base ((L.set i (.slice none 0 0, [])).set j (v1, zs))) → Aside0 (Below base w0 w1) → (∀ b, b < W.heap.size → v.ownBlock ≠ some b → w1.heap[b]? = W.heap[b]?) → Kc (a.put (some N) v1) w1)
    (ho : o.op = .call { callee := .builtin .append, args := #[s, x], argTypes := #[82, 82] } := by rfl)
    (hw : Region.wanted o (yielded ops a.tmps) = true := by rfl) (hd : o.dst = some N := by rfl) (hij : i ≠ j := by decide) : if Region.wanted o (yielded ops a.tmps) = true then Oper.wp Try.prog o a W Kc Q else Kc (a.put (some N) undef) W := by
  have hsz : base ≤ W.heap.size := hbase ▸ HB.out.size
  obtain ⟨A, c, hu⟩ := Kd.R_slice (hR.out.1 i (u, ys) hi)
  have hu2 : u = .slice A ys.length c := hu
  subst hu2
  have hl2 : (xs.length + ys.length) * 8 ≤ 140737488355328 := by omega
  have hE := Kd.R_append_rows_step (ops := ops) (a := a) (Kc := Kc) (Q := Q) (Kd.int .i64) (w0 := w0) base hw s x 82 3 (.int .i64 0) 8 ho Try.underlying82 (by kernel_rfl) rfl (by decide) (by omega) v xs ys A ys.length c (fun _ => True) (fun _ => False) hs hx (hR.out.1 j _ hj)
    (Kd.R_reads' (hR.out.1 i _ hi)).2.2 (fun _ _ h => h) (fun _ h => h.elim) (fun _ _ => trivial) HB.out hsz hl2 (by
      intro v1 w1 hr hb hg hat
      rw [hd]
      refine h v1 w1 ⟨?_⟩ ⟨hb⟩ (fun b hb2 hne => hg.block b hb2 (Ne.symm hne))
      rw [hz.out]
      have hj2 : (L.set i (.slice none 0 0, []))[j]? = some (v, xs) := by rw [List.getElem?_set_ne hij]; exact hj
      exact (hR.out.setNil i).setGrown j hj2 hg hat hr)
  rw [hd] at hE
  exact hE
/-- append(v, u...): u a row that is read (a cut of one of the rows), v the row at place j. -/
theorem apC_ {w0 W : World} {base : Nat} {L : List (Value × List Int)} (s x : Operand) (j N : Nat) {A : Option Addr} {c : Nat} {v : Value} {xs ys zs : List Int} (hR : Aside0 (Rws W base L)) (HB : Aside0 (Below base w0 W)) (hz : Aside0 (zs = xs ++ ys)) (hbase : base = w0.heap.size)
    (hs : a.eval s = v) (hx : a.eval x = .slice A ys.length c) (hC : Kd.C (Kd.int .i64) W A ys.length ys) (hj : L[j]? = some (v, xs)) (hl : xs.length + ys.length < 17592186044416)
    (h : ∀ v1 w1, Aside0 (Rws w1 base (L.set j (v1, zs))) → Aside0 (Below base w0 w1) → Kc (a.put (some N) v1) w1)
    (ho : o.op = .call { callee := .builtin .append, args := #[s, x], argTypes := #[82, 82] } := by rfl)
    (hw : Region.wanted o (yielded ops a.tmps) = true := by rfl) (hd : o.dst = some N := by rfl) : if Region.wanted o (yielded ops a.tmps) = true then Oper.wp Try.prog o a W Kc Q else Kc (a.put (some N) undef) W := by
  have hsz : base ≤ W.heap.size := hbase ▸ HB.out.size
  have hl2 : (xs.length + ys.length) * 8 ≤ 140737488355328 := by omega
  have hE := Kd.R_append_rows_step (ops := ops) (a := a) (Kc := Kc) (Q := Q) (Kd.int .i64) (w0 := w0) base hw s x 82 3 (.int .i64 0) 8 ho Try.underlying82 (by kernel_rfl) rfl (by decide) (by omega) v xs ys A ys.length c (fun _ => True) (fun _ => False) hs hx (hR.out.1 j _ hj)
    hC (fun _ _ h => h) (fun _ h => h.elim) (fun _ _ => trivial) HB.out hsz hl2 (by
      intro v1 w1 hr hb hg hat
      rw [hd]
      refine h v1 w1 ⟨?_⟩ ⟨hb⟩
      rw [hz.out]
      exact hR.out.setGrown j hj hg hat hr)
  rw [hd] at hE
  exact hE
end
/-- The act written out. -/
theorem nm_ {P : Program} {md : Region.Mode} {ops : Array Oper} {Q : Exit → Act → World → Prop} {S : World → Prop} {ds : List Nat} {fuel : Nat} {l : Array Bool} {a a' : Act} {w : World} (h : wpAnyLast P md ops Q S ds fuel l a' w)
    (ha : a = a' := by first | (simp only [putAll, Act.put, List.setIfInBounds_toArray, List.set_cons_zero, List.set_cons_succ, i64_w, i32_w]; done) | (simp only [putAll, Act.put, List.setIfInBounds_toArray, List.set_cons_zero, List.set_cons_succ, i64_w, i32_w]; rfl)) : wpAnyLast P md ops Q S ds fuel l a w := norm_ ha h
end Go.Proofs.Ythdifdnjodbdnaa.Q
