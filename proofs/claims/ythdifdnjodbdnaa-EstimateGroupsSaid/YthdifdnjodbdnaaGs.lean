/- Order of strings; worlds that only grew; slices.SortFunc at lines. -/
import Derived.Laws.Cover1
import Derived.RowKit
import Derived.Shelf.SlSortCmp.InsertionK
import Derived.Shelf.Small.Bits
import Derived.Test.YthdifdnjodbdnaaProg
import Derived.Test.YthdifdnjodbdnaaTy
import Derived.Sort.Grow
namespace Go.Proofs.Ythdifdnjodbdnaa.Str
open Go
theorem less_trich : ∀ a b : List UInt8, (!(Op.bytesLess a b || a == b)) = Op.bytesLess b a
  | [], [] => rfl
  | [], _ :: _ => by simp [Op.bytesLess]
  | _ :: _, [] => by simp [Op.bytesLess]
  | x :: a, y :: b => by
    have ih := less_trich a b
    rcases Nat.lt_trichotomy x.toNat y.toNat with h | h | h
    · have h1 : x < y := UInt8.lt_iff_toNat_lt.2 h
      have h2 : ¬ y < x := fun e => by have := UInt8.lt_iff_toNat_lt.1 e; omega
      have h3 : (y == x) = false := by simp; intro e; subst e; omega
      simp [Op.bytesLess, h1, h2, h3]
    · have h1 : x = y := UInt8.toNat_inj.1 h
      subst h1
      have h2 : ¬ x < x := fun e => by have := UInt8.lt_iff_toNat_lt.1 e; omega
      simp only [Op.bytesLess, h2, decide_false, Bool.false_or, beq_self_eq_true, Bool.true_and, List.cons_beq_cons]
      exact ih
    · have h1 : y < x := UInt8.lt_iff_toNat_lt.2 h
      have h2 : ¬ x < y := fun e => by have := UInt8.lt_iff_toNat_lt.1 e; omega
      have h3 : (x == y) = false := by simp; intro e; subst e; omega
      simp [Op.bytesLess, h1, h2, h3]
theorem binOp_string_gtr' (t : TypeId) (a b : ByteArray) : binOp .gtr t (.string a) (.string b) = pure (.bool (Op.bytesLess b.toList a.toList)) := by rw [binOp_string_gtr, less_trich]
theorem binOp_string_leq' (t : TypeId) (a b : ByteArray) : binOp .leq t (.string a) (.string b) = pure (.bool !(Op.bytesLess b.toList a.toList)) := by rw [binOp_string_leq, ← less_trich a.toList b.toList, Bool.not_not]
/-- A quotient of bytes. -/
theorem u8w (x : Int) : IntKind.u8.wrap x = x % 256 := by simp [IntKind.wrap, IntKind.bits, IntKind.signed]
theorem tmod256 (x n : Int) : Int.tmod (x % 256) n = x % 256 % n := Int.tmod_eq_emod_of_nonneg (Int.emod_nonneg _ (by omega))
theorem w64m2 (x : Int) : Go.RowKit.wrap64 (x % 2) = x % 2 := by unfold Go.RowKit.wrap64; omega
end Go.Proofs.Ythdifdnjodbdnaa.Str
namespace Go.Proofs.Ythdifdnjodbdnaa.Srt
open Go.Shelf Go.Proofs
def renI : Go.Shelf.Ren := ⟨fun | 20 => 88 | n => n, fun | 0 => 0 | 3 => 3 | 4 => 4 | 22 => 32 | 25 => 128 | 24 => 41 | n => n, fun | n => n⟩
theorem layI : SlLaysF0.n20 Try.prog renI := {
  mixed := by kernel_rfl
  f20 := ⟨Try.f88.name, by kernel_rfl, Try.func88.trans (congrArg some (by kernel_rfl))⟩
  t0 := Try.underlying0
  a0 := Try.isAgg0
  z0 := Try.sizeOf0
  v0 := Try.zeroValue0
  t3 := Try.underlying3
  a3 := Try.isAgg3
  z3 := Try.sizeOf3
  v3 := Try.zeroValue3
  t4 := Try.underlying4
  a4 := Try.isAgg4
  z4 := Try.sizeOf4
  v4 := Try.zeroValue4
  t22 := Try.underlying32
  a22 := Try.isAgg32
  z22 := Try.sizeOf32
  v22 := Try.zeroValue32
  t25 := Try.underlying128
  a25 := Try.isAgg128
  z25 := Try.sizeOf128
  v25 := Try.zeroValue128 }
def renB : Go.Shelf.Ren := ⟨fun | 125 => 74 | 128 => 86 | 129 => 87 | n => n, fun | 3 => 3 | 4 => 4 | 5 => 5 | 9 => 9 | 46 => 107 | 51 => 158 | 53 => 160 | n => n, fun | n => n⟩
theorem layB : Lays.n125 Try.prog renB := {
  mixed := by kernel_rfl
  f125 := Try.func74.trans (congrArg some (by kernel_rfl))
  f128 := Try.func86.trans (congrArg some (by kernel_rfl))
  f129 := Try.func87.trans (congrArg some (by kernel_rfl))
  t3 := Try.underlying3
  a3 := Try.isAgg3
  z3 := Try.sizeOf3
  v3 := Try.zeroValue3
  t4 := Try.underlying4
  a4 := Try.isAgg4
  z4 := Try.sizeOf4
  v4 := Try.zeroValue4
  t5 := Try.underlying5
  a5 := Try.isAgg5
  z5 := Try.sizeOf5
  v5 := Try.zeroValue5
  t9 := Try.underlying9
  a9 := Try.isAgg9
  z9 := Try.sizeOf9
  v9 := Try.zeroValue9
  t46 := Try.underlying107
  a46 := Try.isAgg107
  z46 := Try.sizeOf107
  v46 := Try.zeroValue107
  t51 := Try.underlying158
  a51 := Try.isAgg158
  z51 := Try.sizeOf158
  v51 := Try.zeroValue158
  t53 := Try.underlying160
  a53 := Try.isAgg160
  z53 := Try.sizeOf160
  v53 := Try.zeroValue160 }
end Go.Proofs.Ythdifdnjodbdnaa.Srt
namespace Go.Proofs.Ythdifdnjodbdnaa
open Go.RowKit Go.Proofs.YthdifdnjodbdnaaW.PrintWords Go.Proofs.YthdifdnjodbdnaaW.PrintLast Go.Proofs.YthdifdnjodbdnaaW.PrintMore
set_option linter.unusedVariables false
set_option linter.unusedSimpArgs false
def Gw (w W : World) : Prop := Below w.heap.size w W ∧ w.drawn ≤ W.drawn
namespace Gw
variable {w W w2 : World}
theorem refl (w : World) : Gw w w := ⟨Below.refl _ _, Nat.le_refl _⟩
theorem step (h : Gw w W) (k : Gw W w2) : Gw w w2 := ⟨below_step h.1 k.1, Nat.le_trans h.2 k.2⟩
theorem alloc (h : Gw w W) (o : Obj) : Gw w (W.alloc o) := ⟨below_alloc h.1 o, h.2⟩
theorem drewN (h : Gw w W) (n : Nat) : Gw w (W.drewN n) := ⟨pw_below_drewN h.1 n, Nat.le_trans h.2 (Nat.le_add_right _ _)⟩
theorem drew1 (h : Gw w W) : Gw w W.drew := ⟨below_drew1 h.1, Nat.le_trans h.2 (Nat.le_add_right _ _)⟩
theorem drawn_set (W : World) (p : Addr) (v : Value) : (W.setCell p v).drawn = W.drawn := by
  unfold World.setCell
  split <;> rfl
theorem set {g j : Nat} {v : Value} (h : Gw w W) (hg : w.heap.size ≤ g) : Gw w (W.setCell ⟨g, j, none⟩ v) := ⟨below_set h.1 hg, by rw [drawn_set]; exact h.2⟩
theorem size (h : Gw w W) : w.heap.size ≤ W.heap.size := h.1.size
theorem grown (h : Gw w W) : ∃ q os', W = Sort.grow (w.drewN q) os' := by
  obtain ⟨hb, hd⟩ := h
  refine ⟨W.drawn - w.drawn, W.heap.extract w.heap.size W.heap.size, ?_⟩
  have hheap : W.heap = w.heap ++ W.heap.extract w.heap.size W.heap.size := by
    apply Array.ext'
    rw [Array.toList_append, Array.toList_extract]
    apply List.ext_getElem?
    intro i
    have hs := hb.size
    by_cases hi : i < w.heap.size
    · rw [List.getElem?_append_left (by simpa using hi)]
      have := hb.block i hi
      simpa using this
    · rw [List.getElem?_append_right (by simpa using hi)]
      simp only [Array.length_toList]
      have h2 : i = w.heap.size + (i - w.heap.size) := by omega
      by_cases h3 : i < W.heap.size
      · simp [List.extract, List.getElem?_take, List.getElem?_drop]
        rw [if_pos (by omega), ← h2]
      · rw [List.getElem?_eq_none (by simpa using h3), List.getElem?_eq_none (by simp [List.extract]; omega)]
  obtain ⟨heap, tape, drawn, os, output⟩ := W
  obtain ⟨heap', tape', drawn', os', output'⟩ := w
  have e1 := hb.os
  have e2 := hb.tape
  have e3 := hb.output
  simp only at hheap e1 e2 e3 hd
  subst e1 e2 e3
  simp only [Sort.grow, World.drewN]
  congr 1
  omega
section
variable {P : Program} {ops : Array Oper} {rest : List Oper} {o : Oper} {a : Act} {Q : Exit → Act → World → Prop} {Kc : Act → World → Prop} {α : Type}
theorem box_event (hgd : o.guard = none) {N : Tmp} (_hd : o.dst = some N) {cs : Array Value} {t : TypeId}
    (hrun : (execOp a.eval o).run P W = .ok (.value (.pointer (some ⟨W.heap.size, 0, none⟩))) (W.alloc (.cells cs t (0, 0))))
    (h : ∀ g, g = W.heap.size → ∀ w1, w1.heap[g]? = some (.cells cs t (0, 0)) → Gw W w1 → wpList P ops Q rest (a.put o.dst (.pointer (some ⟨g, 0, none⟩))) w1) : wpList P ops Q (o :: rest) a W :=
  Kd.event_run hgd hrun (h _ rfl _ (blk_new W _) ((Gw.refl W).alloc _))
theorem lit_step (d : Kd α) {w0 W : World} (base e : Nat) (hw : Region.wanted o (yielded ops a.tmps) = true) {N : Tmp} (_hd : o.dst = some N) {xs : List α} {inner : List Value} {ok okp : Nat → Prop}
    (hrun : (execOp a.eval o).run P W = .ok (.value (.slice (some ⟨W.heap.size, 0, none⟩) xs.length xs.length)) (W.alloc (.cells inner.toArray e)))
    (hrep : Reps (d.M W base okp) d.sz xs inner) (hok : ∀ k, okp k → ok k) (hfresh : ok W.heap.size) (HB : Below base w0 W) (hbase : base ≤ W.heap.size) (hm : xs.length ≤ 9223372036854775807)
    (h : ∀ v1 w1, d.R e w1 base ok v1 xs → Gw W w1 → W.grownBy w1 none → (∃ b, v1.ownBlock = some b ∧ W.heap.size ≤ b) → Kc (a.put o.dst v1) w1) : if Region.wanted o (yielded ops a.tmps) = true then Oper.wp P o a W Kc Q else Kc (a.put o.dst undef) W := by
  refine event_step hw hrun (h _ _ ⟨fun k hk => ?_, inner, ?_, ?_⟩ ((Gw.refl W).alloc _) (World.grownBy_alloc W _ none) ⟨W.heap.size, by simp [Value.ownBlock], Nat.le_refl _⟩)
  · have : W.heap.size = k := by simpa [Value.ownBlock] using hk
    subst this
    exact hfresh
  · have h2 := World.ownsRow_lit (base := base) (e := e) (size := d.sz) W inner.toArray xs.length hbase (by simpa [maxLen] using hm) (by simpa using hrep.1)
    simpa using h2
  · refine hrep.imp_ (fun p c hp => d.M_mono (fun k hk => ⟨hok k hk.1, fun he => ?_⟩) (Kd.M_below (d.M_bound hp) (below_alloc (Below.refl _ _) _)))
    have h3 : k = W.heap.size := by simpa [Value.ownBlock] using he
    have := hk.2.2.1
    omega
end
end Gw
end Go.Proofs.Ythdifdnjodbdnaa
namespace Go.Proofs.Ythdifdnjodbdnaa.Srt
open Go.RowKit Go.Shelf Go.Proofs.YthdifdnjodbdnaaW.PrintWords Go.Proofs.YthdifdnjodbdnaaW.PrintLast Go.Proofs.YthdifdnjodbdnaaW.PrintMore Go.Sort Go.Lib Go.Proofs.Ythdifdnjodbdnaa.Q
set_option linter.unusedVariables false
set_option linter.unusedSimpArgs false
set_option linter.unusedSimpArgs false
/-- A world that parts from another one in one block alone. -/
structure But (g : Nat) (w w' : World) : Prop where
  os : w'.os = w.os
  tape : w'.tape = w.tape
  output : w'.output = w.output
  size : w.heap.size ≤ w'.heap.size
  block : ∀ k, k < w.heap.size → k ≠ g → w'.heap[k]? = w.heap[k]?

theorem But.below {g : Nat} {w0 w w' : World} (h : But g w w') (hB : Below w0.heap.size w0 w) (hg : w0.heap.size ≤ g) : Below w0.heap.size w0 w' :=
  ⟨h.os.trans hB.os, h.tape.trans hB.tape, h.output.trans hB.output, Nat.le_trans hB.size h.size, fun k hk => (h.block k (Nat.lt_of_lt_of_le hk hB.size) (by omega)).trans (hB.block k hk)⟩
theorem But.kept {g : Nat} {w w' : World} {P : Nat → Prop} (h : But g w w') (hg : P g) : Kept w w' P :=
  ⟨h.size, fun i hi hn => h.block i hi (fun e => hn (e ▸ hg))⟩

theorem But.of_ahead {g n : Nat} {w w' : World} (h : But g (Sort.ahead w n) w') : But g w w' := ⟨h.os, h.tape, h.output, h.size, h.block⟩
theorem mapBlock_but (w : World) (g : Nat) (f : Array Value → Array Value) : But g w (mapBlock w g f) :=
  ⟨rfl, rfl, rfl, by simp [mapBlock], fun k _ hk => by simp [mapBlock, Array.getElem?_modify, Ne.symm hk]⟩
theorem mapBlock_at {w : World} {g : Nat} {c : Array Value} {e : TypeId} {fr : Nat × Nat} (f : Array Value → Array Value) (h : w.heap[g]? = some (.cells c e fr)) : (mapBlock w g f).heap[g]? = some (.cells (f c) e fr) := by
  simp [mapBlock, Array.getElem?_modify, h, onCells]
theorem grow_but {g : Nat} {w w' : World} (h : But g w w') (os : Array Obj) : But g w (Sort.grow w' os) :=
  ⟨h.os, h.tape, h.output, by have := h.size; simp; omega, fun k hk hn => by
    have := h.size
    rw [← h.block k hk hn]
    show (w'.heap ++ os)[k]? = _
    rw [Array.getElem?_append, if_pos (by omega)]⟩
theorem grow_at {w' : World} {g : Nat} {o : Obj} (os : Array Obj) (h : w'.heap[g]? = some o) : (Sort.grow w' os).heap[g]? = some o := by
  show (w'.heap ++ os)[g]? = _
  rw [Array.getElem?_append, if_pos (blk_lt h), h]

instance : Inhabited S41 := ⟨z41⟩
/-- A line's seven cells. -/
def encS (x : S41) : List Value := [.string x.f0.f0, .string x.f0.f1, .string x.f0.f2, .int .i64 x.f1.f0, .int .i64 x.f1.f1, .int .i64 x.f1.f2, .int .i64 x.f1.f3]
/-- The cells of a list of lines. -/
def cells (xs : List S41) : List Value := (flatK encS 7 xs.toArray).toList
theorem cells_len (xs : List S41) : (cells xs).length = xs.length * 7 := by simp [cells]
theorem cells_get (xs : List S41) (j i : Nat) (hj : j < xs.length) (hi : i < 7) : (cells xs)[j * 7 + i]? = (encS xs[j])[i]? := by
  have ht : j * 7 + i < xs.toArray.size * 7 := by simp; omega
  have h := get_flatK encS 7 xs.toArray (j * 7 + i) ht
  have e1 : (j * 7 + i) / 7 = j := by omega
  have e2 : (j * 7 + i) % 7 = i := by omega
  rw [e1, e2] at h
  have hl : j * 7 + i < (flatK encS 7 xs.toArray).size := by rw [size_flatK]; exact ht
  rw [getElem!_pos (flatK encS 7 xs.toArray) (j * 7 + i) hl, getElem!_pos xs.toArray j (by simpa using hj)] at h
  have hl3 : i < (encS xs[j]).length := hi
  unfold cells
  rw [Array.getElem?_toList, Array.getElem?_eq_getElem hl, h, List.getElem?_eq_getElem hl3]
  simp [getElem!_pos, hl3]
theorem cells_cut (xs : List S41) (j : Nat) (hj : j < xs.length) : ((cells xs).drop (j * 7)).take 7 = encS xs[j] := by
  apply List.ext_getElem?
  intro i
  rw [List.getElem?_take]
  split
  · rename_i hi
    rw [List.getElem?_drop]
    exact cells_get xs j i hj hi
  · rename_i hi
    rw [List.getElem?_eq_none (by show 7 ≤ i; omega)]
theorem reps_cells {R : S41 → List Value → Prop} (hR : ∀ x, R x (encS x)) (xs : List S41) : Reps R 7 xs (cells xs) := by
  refine ⟨cells_len xs, fun j p hp => ?_⟩
  obtain ⟨hj, rfl⟩ := List.getElem?_eq_some_iff.1 hp
  rw [cells_cut xs j hj]
  exact hR _
theorem cells_of_reps {R : S41 → List Value → Prop} (hR : ∀ x cs, R x cs → cs = encS x) {xs : List S41} {inner : List Value} (h : Reps R 7 xs inner) : inner = cells xs := by
  apply List.ext_getElem?
  intro t
  by_cases ht : t < xs.length * 7
  · have hj : t / 7 < xs.length := by omega
    have h1 := hR _ _ (h.2 (t / 7) xs[t / 7] (List.getElem?_eq_getElem hj))
    have e : t = t / 7 * 7 + t % 7 := by omega
    have h2 := congrArg (fun l => l[t % 7]?) h1
    simp only [List.getElem?_take, if_pos (Nat.mod_lt t (by omega : 0 < 7)), List.getElem?_drop] at h2
    have h3 := cells_get xs (t / 7) (t % 7) hj (Nat.mod_lt t (by omega))
    rw [← e] at h2 h3
    rw [h2, h3]
  · rw [List.getElem?_eq_none (by rw [h.1]; omega), List.getElem?_eq_none (by rw [cells_len]; omega)]
theorem openM41 {w : World} {base : Nat} {ok : Nat → Prop} {x : S41} {cs : List Value} (h : k41.M w base ok x cs) : cs = encS x := k41_openM h
theorem mkM41 (w : World) (base : Nat) (ok : Nat → Prop) (x : S41) : k41.M w base ok x (encS x) := k41_mkM w base ok x
/-- An own row of lines, laid open. -/
theorem form41 {E : Nat} {w : World} {base : Nat} {ok : Nat → Prop} {v : Value} {xs : List S41} (h : Kd.R k41 E w base ok v xs) :
    (v = .slice none 0 0 ∧ xs = []) ∨ ∃ g cap cur, v = .slice (some ⟨g, 0, none⟩) xs.length cap ∧ base ≤ g ∧ ok g ∧ g < w.heap.size ∧ w.heap[g]? = some (.cells cur E (0, 0)) ∧ xs.length ≤ cap ∧ cap ≤ maxLen ∧ cur.size = cap * 7 ∧ cur.toList.take (xs.length * 7) = cells xs := by
  obtain ⟨hok, inner, ⟨hl, hc⟩, hr⟩ := h
  have e := cells_of_reps (fun x cs hx => openM41 hx) hr
  rcases hc with ⟨rfl, hn⟩ | ⟨g, cap, cur, rfl, hb, hh, hn, hm, hs, ht⟩
  · exact .inl ⟨rfl, List.length_eq_zero_iff.1 hn⟩
  · exact .inr ⟨g, cap, cur, rfl, hb, hok g rfl, blk_lt hh, hh, hn, hm, hs, ht.trans e⟩
/-- And put together. -/
theorem make41 {E : Nat} {w : World} {base : Nat} {ok : Nat → Prop} {g cap n : Nat} {cur : Array Value} {xs : List S41} (hl : n = xs.length) (hb : base ≤ g) (hok : ok g) (hh : w.heap[g]? = some (.cells cur E (0, 0)))
    (hn : xs.length ≤ cap) (hm : cap ≤ maxLen) (hs : cur.size = cap * 7) (ht : cur.toList.take (xs.length * 7) = cells xs) : Kd.R k41 E w base ok (.slice (some ⟨g, 0, none⟩) n cap) xs := by
  subst hl
  refine ⟨fun k hk => ?_, cells xs, ⟨cells_len xs, .inr ⟨g, cap, cur, rfl, hb, hh, hn, hm, hs, ht⟩⟩, reps_cells (fun x => mkM41 _ _ _ x) xs⟩
  have : g = k := by simpa [Value.ownBlock] using hk
  exact this ▸ hok
theorem putCells_take' (d : Array Value) (c : Array Value) (h : d.size ≤ c.size) : (putCells id 0 d c).toList.take d.size = d.toList := by
  apply List.ext_getElem?
  intro j
  rw [List.getElem?_take]
  split
  · rename_i hj
    have hc : j < c.size := by omega
    simp only [putCells, Array.getElem?_toList, Array.getElem?_mapIdx, Array.getElem?_eq_getElem hc, Option.map_some]
    have h2 : (0 ≤ j ∧ j < 0 + d.size) := ⟨Nat.zero_le _, by omega⟩
    rw [if_pos h2]
    simp [hj, getElem!_pos]
  · rename_i hj
    rw [List.getElem?_eq_none (by simp; omega)]
theorem holdsK_of {w : World} {g E : Nat} {cur : Array Value} {xs : List S41} (hh : w.heap[g]? = some (.cells cur E (0, 0))) (hn : xs.length * 7 ≤ cur.size) (ht : cur.toList.take (xs.length * 7) = cells xs) : HoldsK encS 7 w g 0 xs.toArray := by
  intro j hj
  have hj' : j < xs.length * 7 := by simpa using hj
  refine ⟨?_, blk_frozen hh _⟩
  rw [Nat.zero_add, blk_cell hh j]
  have h3 := congrArg (fun l => l[j]?) ht
  simp only [List.getElem?_take, if_pos hj', Array.getElem?_toList] at h3
  rw [h3]
  unfold cells
  rw [Array.getElem?_toList, getElem!_pos (flatK encS 7 xs.toArray) j hj, Array.getElem?_eq_getElem hj]
  rfl
/-- What the insertion sort leaves. -/
def insS (cf : S41 → S41 → Int) (l : List S41) : List S41 := (Sort.insertionSort (ltOf cf) l.toArray 0 l.length).toList
theorem ins_inner_size (lt : S41 → S41 → Bool) (a : Nat) : ∀ (j : Nat) (d : Array S41), (Sort.insInner lt a j d).size = d.size
  | 0, d => rfl
  | j + 1, d => by
    unfold Sort.insInner
    split
    · rw [ins_inner_size lt a j, size_swp]
    · rfl
theorem ins_outer_size (lt : S41 → S41 → Bool) (a b : Nat) : ∀ (n i : Nat) (d : Array S41), b - i = n → (Sort.insOuter lt a b i d).size = d.size := by
  intro n
  induction n with
  | zero => intro i d h; unfold Sort.insOuter; rw [if_neg (by omega)]
  | succ n ih => intro i d h; unfold Sort.insOuter; rw [if_pos (by omega), ih _ _ (by omega), ins_inner_size]
theorem ins_size (lt : S41 → S41 → Bool) (d : Array S41) (a b : Nat) : (Sort.insertionSort lt d a b).size = d.size := ins_outer_size lt a b _ _ d rfl
theorem insS_len (cf : S41 → S41 → Int) (l : List S41) : (insS cf l).length = l.length := by unfold insS; rw [Array.length_toList, ins_size]; rfl
theorem insS_nil (cf : S41 → S41 → Int) : insS cf [] = [] := List.length_eq_zero_iff.1 (insS_len cf [])
/-- What is asked of a comparison. -/
def CmpOk (g : Nat) (cf : S41 → S41 → Int) : Prop := ∀ (W : World) (x y : S41), Calls Try.prog g #[.agg (encS x).toArray, .agg (encS y).toArray] W fun e w' => e = .returned (.int .i64 (cf x y)) ∧ ∃ q os', w' = Sort.grow (W.drewN q) os'
/-- What a sort of a row leaves. -/
def Sorted_ (P0_ : Nat → Prop) (v : Value) (l' : List S41) (w0 w : World) (e : Ending) (w' : World) : Prop :=
  e = .returned (.tuple #[]) ∧ Kd.R k41 41 w' w0.heap.size (fun k_ => (P0_ k_ ∨ w.heap.size ≤ k_)) v l' ∧ Below w0.heap.size w0 w' ∧ Kept w w' (fun k_ => P0_ k_)
theorem sorted_refl {P0_ : Nat → Prop} {w0 w : World} (hB : Below w0.heap.size w0 w) : Sorted_ P0_ (.slice none 0 0) [] w0 w (.returned (.tuple #[])) w := ⟨rfl, Kd.R_nil _ _ _ _ _, hB, Kept.refl _ _⟩
set_option maxHeartbeats 1000000 in
set_option maxRecDepth 100000 in
theorem ins_nil (g : Nat) (w : World) : Calls Try.prog 88 #[.slice none 0 0, .int .i64 0, .int .i64 0, .func (.func g) #[] #[]] w fun e w' => e = .returned (.tuple #[]) ∧ w' = w := by
  go_enter Try.func88, Try.ntmps88
  go_wp2
  refine wp_loop_rounds 1 ?_
  rw [rounds_succ]
  go_wp2
  go_end0
  exact ⟨rfl, rfl⟩
theorem ins_calls (g : Nat) (cf : S41 → S41 → Int) (eg : ∀ args w, (callFunc g args).run Try.prog w = .ok (.enter g args) w) (hc : CmpOk g cf) (P0_ : Nat → Prop) (v : Value) (l0 : List S41) (w0 w : World) (hB : Below w0.heap.size w0 w)
    (ho0 : Kd.R k41 41 w w0.heap.size P0_ v l0) (hl : l0.length < 4611686018427387904) :
    Calls Try.prog 88 #[v, .int .i64 0, .int .i64 l0.length, .func (.func g) #[] #[]] w (Sorted_ P0_ v (insS cf l0) w0 w) := by
  rcases form41 ho0 with ⟨rfl, rfl⟩ | ⟨gb, cap, cur, rfl, hb, hok, hlt, hh, hn, hm, hs, ht⟩
  · refine (ins_nil g w).mono ?_
    rintro e w' ⟨rfl, rfl⟩
    rw [insS_nil]
    exact sorted_refl hB
  · have h := AnyQ.insertionSortCmpFunc layI 7 Try.isAgg41 Try.sizeOf41 encS (fun _ => rfl) (fun x u hu => by
        simp [encS] at hu
        rcases hu with rfl | rfl | rfl | rfl | rfl | rfl | rfl <;> rfl) cf g #[] gb 0 cap 0 l0.length l0.toArray w eg (fun m os dk _ x y => hc _ x y) (holdsK_of hh (by omega) ht) hlt (Nat.zero_le _) (by simp) (by simpa using hl)
    simp only [List.size_toArray] at h
    refine h.mono ?_
    rintro e w' ⟨rfl, n, os, rfl⟩
    generalize hr : Sort.insertionSort (ltOf cf) l0.toArray 0 l0.length = r
    have hrs : r.size = l0.length := by rw [← hr, ins_size]; rfl
    have hil : insS cf l0 = r.toList := by unfold insS; rw [hr]
    have hbut := grow_but (mapBlock_but (Sort.ahead w n) gb (putCells id 0 (flatK encS 7 r))) os
    have hbut' : But gb w (sortWorldK encS 7 w gb 0 n r os) := hbut.of_ahead
    have hh' : (Sort.ahead w n).heap[gb]? = some (.cells cur 41 (0, 0)) := hh
    refine ⟨rfl, ?_, hbut'.below hB hb, hbut'.kept hok⟩
    rw [hil]
    have hrl : r.toList.length = l0.length := Array.length_toList.trans hrs
    refine make41 hrl.symm hb (.inl hok) (grow_at os (mapBlock_at _ hh')) (by rw [hrl]; exact hn) hm (by simpa [putCells] using hs) ?_
    have hsz : (flatK encS 7 r).size = r.toList.length * 7 := by rw [size_flatK, hrl, hrs]
    have h1 := putCells_take' (flatK encS 7 r) cur (by rw [hsz, hrl, hs]; omega)
    rw [hsz] at h1
    rw [h1]
    unfold cells
    rw [Array.toArray_toList]
theorem hlen (n : Nat) (W : World) (h : n ≤ 12) : Calls Try.prog 74 #[.int .u64 n] W fun e w' => (∃ l : Int, e = .returned (.int .i64 l)) ∧ w' = W :=
  (Any.bits_Len (P := Try.prog) (ρ := renB) layB n W (by omega) (by omega)).mono fun _ _ ⟨he, hw⟩ => ⟨⟨_, he⟩, hw⟩
section
variable (g : Nat) (cf : S41 → S41 → Int) (eg : ∀ args w, (callFunc g args).run Try.prog w = .ok (.enter g args) w) (hc : CmpOk g cf) (P0_ : Nat → Prop) (v : Value) (l0 : List S41) (w0 w : World) (hB : Below w0.heap.size w0 w)
  (ho0 : Kd.R k41 41 w w0.heap.size P0_ v l0) (hl : l0.length ≤ 12)
include eg hc hB ho0 hl
set_option maxHeartbeats 2000000 in
set_option maxRecDepth 100000 in
theorem pdq_calls (lim : Int) : Calls Try.prog 80 #[v, .int .i64 0, .int .i64 l0.length, .int .i64 lim, .func (.func g) #[] #[]] w (Sorted_ P0_ v (insS cf l0) w0 w) := by
  have hi := ins_calls g cf eg hc P0_ v l0 w0 w hB ho0 (by omega)
  have e1 : decide ((l0.length : Int) ≤ 12) = true := decide_eq_true (by omega)
  clear hB ho0 hc
  go_enter Try.func80, Try.ntmps80
  go_wp2
  refine wp_loop_rounds 1 ?_
  rw [rounds_succ]
  go_wp2_with (go_at_call 88; refine hi.mono ?_; rintro e w' ⟨rfl, hs⟩)
  (try simp only [Exit.inBlock, Exit.then]); refine bodyPost_ret (results_none rfl _ _ _) rfl ?_
  exact ⟨rfl, hs⟩
set_option maxHeartbeats 2000000 in
set_option maxRecDepth 100000 in
theorem sortFunc_calls : Calls Try.prog 65 #[v, .func (.func g) #[] #[]] w (Sorted_ P0_ v (insS cf l0) w0 w) := by
  obtain ⟨A, c, rfl⟩ := Kd.R_slice ho0
  have hi := fun lim => pdq_calls g cf eg hc P0_ _ l0 w0 w hB ho0 hl lim
  have hn := hlen l0.length w hl
  clear hB ho0 hc
  go_enter Try.func65, Try.ntmps65
  go_wp2_with (first | (go_at_call 74; refine hn.mono ?_; rintro e w' ⟨⟨lz, rfl⟩, rfl⟩) | (go_at_call 80; refine (hi _).mono ?_; rintro e w' ⟨rfl, hs⟩))
  go_end0
  exact ⟨rfl, hs⟩
end
end Go.Proofs.Ythdifdnjodbdnaa.Srt
