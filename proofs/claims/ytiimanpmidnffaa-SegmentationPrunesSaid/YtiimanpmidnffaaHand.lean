/- slices.Sort, Clone, Delete and Insert at []int, told of the print's own kinds (Kd.R, Kd.C), out of the shelf's contracts. -/
import Derived.Test.YtiimanpmidnffaaShelf
import Derived.Shelf.Slices.In.SortNone
import Derived.Test.YtiimanpmidnffaaWWords
import Derived.Test.YtiimanpmidnffaaWKept
namespace Go.Proofs.Ytiimanpmidnffaa.Hand
open Go.RowKit Go.Shelf Go.Proofs.YtiimanpmidnffaaW.PrintWords Go.Sort
set_option linter.unusedVariables false
set_option linter.unusedSimpArgs false

/-- An own row of ints, laid open. -/
theorem form {e : Nat} {w : World} {base : Nat} {ok : Nat → Prop} {v : Value} {xs : List Int} (h : (Kd.int .i64).R e w base ok v xs) :
    (v = .slice none 0 0 ∧ xs = []) ∨ ∃ g cap cur, v = .slice (some ⟨g, 0, none⟩) xs.length cap ∧ base ≤ g ∧ ok g ∧ g < w.heap.size ∧ w.heap[g]? = some (.cells cur e (0, 0)) ∧ xs.length ≤ cap ∧ cap ≤ 9223372036854775807 ∧ cur.size = cap ∧ cur.toList.take xs.length = xs.map (Value.int .i64) := by
  have ho := Kd.own_of_R (enc := Value.int .i64) (h1 := fun _ => rfl) h
  obtain ⟨hl, hc⟩ := ho
  rcases hc with ⟨rfl, hn⟩ | ⟨g, cap, cur, rfl, hb, hh, hn, hm, hs, ht⟩
  · exact .inl ⟨rfl, List.length_eq_zero_iff.1 hn⟩
  · refine .inr ⟨g, cap, cur, rfl, hb, h.1 g rfl, blk_lt hh, hh, hn, by simpa [maxLen] using hm, by simpa using hs, by simpa [encs] using ht⟩

/-- And put together. -/
theorem make {e : Nat} {w : World} {base : Nat} {ok : Nat → Prop} {g cap n : Nat} {cur : Array Value} {xs : List Int} (hl : n = xs.length) (hb : base ≤ g) (hok : ok g) (hh : w.heap[g]? = some (.cells cur e (0, 0)))
    (hn : xs.length ≤ cap) (hm : cap ≤ 9223372036854775807) (hs : cur.size = cap) (ht : cur.toList.take xs.length = xs.map (Value.int .i64)) : (Kd.int .i64).R e w base ok (.slice (some ⟨g, 0, none⟩) n cap) xs := by
  subst hl
  refine Kd.R_of_own (enc := Value.int .i64) (h1 := fun _ => rfl) ⟨by simp [encs], .inr ⟨g, cap, cur, rfl, hb, hh, hn, by simpa [maxLen] using hm, by simpa using hs, by simpa [encs] using ht⟩⟩ (fun k hk => ?_)
  simp [Value.ownBlock] at hk
  subst hk
  exact hok

/-- A world that parts from another one in one block alone. -/
structure But (g : Nat) (w w' : World) : Prop where
  os : w'.os = w.os
  tape : w'.tape = w.tape
  output : w'.output = w.output
  size : w.heap.size ≤ w'.heap.size
  block : ∀ k, k < w.heap.size → k ≠ g → w'.heap[k]? = w.heap[k]?

theorem But.below {g : Nat} {w0 w w' : World} (h : But g w w') (hB : Below w0.heap.size w0 w) (hg : w0.heap.size ≤ g) : Below w0.heap.size w0 w' :=
  ⟨h.os.trans hB.os, h.tape.trans hB.tape, h.output.trans hB.output, Nat.le_trans hB.size h.size, fun k hk => (h.block k (Nat.lt_of_lt_of_le hk hB.size) (by omega)).trans (hB.block k hk)⟩
theorem But.kept {g : Nat} {w w' : World} {P : Nat → Prop} (h : But g w w') (hg : P g) : Kept w w' P :=
  ⟨h.size, fun i hi hn => h.block i hi (fun e => hn (e ▸ hg))⟩

theorem But.of_ahead {g n : Nat} {w w' : World} (h : But g (Sort.ahead w n) w') : But g w w' := ⟨h.os, h.tape, h.output, h.size, h.block⟩
theorem mapBlock_but (w : World) (g : Nat) (f : Array Value → Array Value) : But g w (mapBlock w g f) :=
  ⟨rfl, rfl, rfl, by simp [mapBlock], fun k _ hk => by simp [mapBlock, Array.getElem?_modify, Ne.symm hk]⟩
theorem mapBlock_at {w : World} {g : Nat} {c : Array Value} {e : TypeId} {fr : Nat × Nat} (f : Array Value → Array Value) (h : w.heap[g]? = some (.cells c e fr)) : (mapBlock w g f).heap[g]? = some (.cells (f c) e fr) := by
  simp [mapBlock, Array.getElem?_modify, h, onCells]
theorem grow_but {g : Nat} {w w' : World} (h : But g w w') (os : Array Obj) : But g w (Sort.grow w' os) :=
  ⟨h.os, h.tape, h.output, by have := h.size; simp; omega, fun k hk hn => by
    have := h.size
    rw [← h.block k hk hn]
    show (w'.heap ++ os)[k]? = _
    rw [Array.getElem?_append, if_pos (by omega)]⟩
theorem grow_at {w' : World} {g : Nat} {o : Obj} (os : Array Obj) (h : w'.heap[g]? = some o) : (Sort.grow w' os).heap[g]? = some o := by
  show (w'.heap ++ os)[g]? = _
  rw [Array.getElem?_append, if_pos (blk_lt h), h]

theorem putCells_take (off : Nat) (d : List Int) (c : Array Value) (h : d.length ≤ c.size) : (putCells (Value.int .i64) 0 d.toArray c).toList.take d.length = d.map (Value.int .i64) := by
  apply List.ext_getElem?
  intro j
  rw [List.getElem?_take]
  split
  · rename_i hj
    have hc : j < c.size := by omega
    simp only [putCells, Array.getElem?_toList, Array.getElem?_mapIdx, Array.getElem?_eq_getElem hc, Option.map_some, List.getElem?_map, List.getElem?_eq_getElem hj]
    have h2 : (0 ≤ j ∧ j < 0 + d.toArray.size) := ⟨Nat.zero_le _, by simpa using hj⟩
    rw [if_pos h2]
    simp [hj, getElem!_pos]
  · rename_i hj
    rw [List.getElem?_eq_none (by simp; omega)]

theorem holds_of {w : World} {g e : Nat} {cur : Array Value} {xs : List Int} (hh : w.heap[g]? = some (.cells cur e (0, 0))) (hn : xs.length ≤ cur.size) (ht : cur.toList.take xs.length = xs.map (Value.int .i64)) : Holds (Value.int .i64) w g 0 xs.toArray := by
  intro j hj
  have hj' : j < xs.length := by simpa using hj
  refine ⟨?_, blk_frozen hh _⟩
  rw [Nat.zero_add, blk_cell hh j]
  have h3 := congrArg (fun l => l[j]?) ht
  simp only [List.getElem?_take, if_pos hj', Array.getElem?_toList, List.getElem?_map, List.getElem?_eq_getElem hj', Option.map_some] at h3
  rw [h3]
  simp [hj', getElem!_pos]

/-- slices.Sort. -/
theorem sort_calls (P0_ : Nat → Prop) (v : Value) (l0 : List Int) (w0 w : World) (hB : Below w0.heap.size w0 w) (ho0 : Kd.R (Kd.int .i64) 3 w w0.heap.size P0_ v l0) (hl : l0.length < 4611686018427387904) :
    Calls Try.prog 54 #[v] w fun e w' => e = .returned (.tuple #[]) ∧ Kd.R (Kd.int .i64) 3 w' w0.heap.size (fun k_ => (P0_ k_ ∨ w.heap.size ≤ k_)) v (l0.mergeSort fun x y => decide (x ≤ y)) ∧ Below w0.heap.size w0 w' ∧ Kept w w' (fun k_ => P0_ k_) := by
  rcases form ho0 with ⟨rfl, rfl⟩ | ⟨g, cap, cur, rfl, hb, hok, hlt, hh, hn, hm, hs, ht⟩
  · refine (Any.slices_Sort_int_none Try.lays189 none 0 w).mono ?_
    rintro e w' ⟨rfl, rfl⟩
    exact ⟨rfl, by rw [List.mergeSort_nil]; exact Kd.R_nil _ _ _ _ _, hB, Kept.refl _ _⟩
  · refine (Any.slices_Sort_int Try.lays189 g 0 cap l0 w (holds_of hh (by omega) ht) hlt hl).mono ?_
    rintro e w' ⟨rfl, n, os, rfl⟩
    have hbut := grow_but (mapBlock_but (Sort.ahead w n) g (putCells (Value.int .i64) 0 (l0.mergeSort fun x y => decide (x ≤ y)).toArray)) os
    have hbut' : But g w (Sort.grow (putRow (Value.int .i64) (Sort.ahead w n) g 0 (l0.mergeSort fun x y => decide (x ≤ y)).toArray) os) := hbut.of_ahead
    refine ⟨rfl, ?_, hbut'.below hB hb, hbut'.kept hok⟩
    have hh' : (Sort.ahead w n).heap[g]? = some (.cells cur 3 (0, 0)) := hh
    exact make (by simp) hb (.inl hok) (grow_at os (mapBlock_at _ hh')) (by simpa using hn) hm (by simpa [putCells] using hs) (putCells_take 0 _ _ (by simp; omega))

/-- slices.Delete. -/
theorem delete_calls (P0_ : Nat → Prop) (v : Value) (l0 : List Int) (i j : Nat) (w0 w : World) (hB : Below w0.heap.size w0 w) (ho0 : Kd.R (Kd.int .i64) 3 w w0.heap.size P0_ v l0) (hij : i ≤ j) (hj : j ≤ l0.length) (hne : l0 ≠ []) :
    Calls Try.prog 53 #[v, .int .i64 i, .int .i64 j] w fun e w' => ∃ v0_ : Value, e = .returned (v0_) ∧ Kd.R (Kd.int .i64) 3 w' w0.heap.size (fun k_ => (P0_ k_ ∨ w.heap.size ≤ k_)) v0_ (l0.take i ++ l0.drop j) ∧ Below w0.heap.size w0 w' ∧ Kept w w' (fun k_ => P0_ k_) := by
  rcases form ho0 with ⟨rfl, rfl⟩ | ⟨g, cap, cur, rfl, hb, hok, hlt, hh, hn, hm, hs, ht⟩
  · exact absurd rfl hne
  · refine (Any.slices_Delete_int Try.laysNm223 g 0 cap i j l0 w (holds_of hh (by omega) ht) (by omega) hm hij hj).mono ?_
    rintro e w' ⟨rfl, n, rfl⟩
    have hbut : But g w (putRow (Value.int .i64) (Sort.ahead w n) g 0 (l0.take i ++ l0.drop j ++ List.replicate (j - i) 0).toArray) := (mapBlock_but (Sort.ahead w n) g _).of_ahead
    have hlen : (l0.take i ++ l0.drop j).length = l0.length - (j - i) := by simp; omega
    have hlen2 : (l0.take i ++ l0.drop j ++ List.replicate (j - i) 0).length = l0.length := by simp; omega
    refine ⟨_, rfl, ?_, hbut.below hB hb, hbut.kept hok⟩
    have hh' : (Sort.ahead w n).heap[g]? = some (.cells cur 3 (0, 0)) := hh
    refine make hlen.symm hb (.inl hok) (mapBlock_at _ hh') (by rw [hlen]; omega) hm (by simpa [putCells] using hs) ?_
    have h1 := putCells_take 0 (l0.take i ++ l0.drop j ++ List.replicate (j - i) 0) cur (by rw [hlen2]; omega)
    have h2 := congrArg (List.take (l0.take i ++ l0.drop j).length) h1
    rw [List.take_take, Nat.min_eq_left (by rw [hlen2, hlen]; omega)] at h2
    exact h2.trans (by rw [List.map_append]; exact List.take_left' (by simp))

/-- slices.Clone. -/
theorem clone_calls (A0 : Option Addr) (c0 : Nat) (l0 : List Int) (w : World) (hr0 : Kd.C (Kd.int .i64) w A0 l0.length l0) (hc0 : l0.length ≤ c0) (hl : l0.length < 17592186044416) :
    Calls Try.prog 48 #[.slice A0 l0.length c0] w fun e w' => ∃ v0_ : Value, e = .returned (v0_) ∧ Kd.R (Kd.int .i64) 3 w' w.heap.size (fun _ => True) v0_ l0 ∧ Below w.heap.size w w' := by
  cases A0 with
  | some ad =>
    rcases Nat.eq_zero_or_pos l0.length with h | h
    · have h0 : l0 = [] := List.length_eq_zero_iff.1 h
      subst h0
      refine (Any.slices_Clone_int_zero Try.laysNm215 ad c0 w).mono ?_
      rintro e w' ⟨v', rfl, ho, _, hb⟩
      exact ⟨v', rfl, Kd.R_of_own (enc := Value.int .i64) (h1 := fun _ => rfl) ho (fun _ _ => trivial), hb⟩
    · obtain ⟨hl1, _, h3⟩ := Kd.reads_of_C (enc := Value.int .i64) (d := (0 : Int)) (h1 := fun _ => rfl) hr0
      obtain ⟨ad', e, hc⟩ := h3 h
      cases e
      have hc0 := hc 0 h
      have hs : ad.spot = none := by
        rw [show ad.add 0 = ad by simp [Addr.add]] at hc0
        unfold World.cell? at hc0
        split at hc0
        · split at hc0
          · cases hc0
          · rename_i hh; simpa using hh
        · cases hc0
      obtain ⟨b, off, sp⟩ := ad
      simp only at hs
      subst hs
      refine (Any.slices_Clone_int Try.laysNm215 b off l0.length c0 l0 w (Nat.le_refl _) (by omega) (fun j hj => ?_)).mono ?_
      · have := hc j hj
        rw [show (⟨b, off, none⟩ : Addr).add j = ⟨b, off + j, none⟩ by unfold Addr.add; split <;> simp_all] at this
        exact this
      · rintro e w' ⟨v', rfl, ho, _, hb⟩
        rw [List.take_of_length_le (Nat.le_refl _)] at ho
        exact ⟨v', rfl, Kd.R_of_own (enc := Value.int .i64) (h1 := fun _ => rfl) ho (fun _ _ => trivial), hb⟩
  | none =>
    have h0 : l0 = [] := by
      rcases Nat.eq_zero_or_pos l0.length with h | h
      · exact List.length_eq_zero_iff.1 h
      · obtain ⟨ad, e, _⟩ := hr0.2.2 h
        cases e
    subst h0
    refine (Any.slices_Clone_int_nil Try.laysNm215 0 c0 w).mono ?_
    rintro e w' ⟨rfl, rfl⟩
    exact ⟨_, rfl, Kd.R_nil _ _ _ _ _, Below.refl _ _⟩

theorem setCells_but (w : World) (g o : Nat) (vs : List Value) : But g w (w.setCells g o vs) := by
  obtain ⟨h1, h2, h3, h4⟩ := setCells_same g vs o w
  exact ⟨h1, h2, h3, by omega, fun k _ hk => setCells_far vs o k hk⟩
theorem But.trans {g : Nat} {a b c : World} (h : But g a b) (k : But g b c) : But g a c :=
  ⟨k.os.trans h.os, k.tape.trans h.tape, k.output.trans h.output, Nat.le_trans h.size k.size, fun i hi hn => (k.block i (Nat.lt_of_lt_of_le hi h.size) hn).trans (h.block i hi hn)⟩
theorem But.drew {g : Nat} {a b : World} (h : But g a b) : But g a b.drew := ⟨h.os, h.tape, h.output, h.size, h.block⟩
theorem size_alloc_ (w : World) (o : Obj) : (w.alloc o).heap.size = w.heap.size + 1 := by unfold World.alloc; exact Array.size_push ..
theorem zc (n : Nat) : (Builtin.zeroCells (Value.int .i64 0).cells n).size = n := by rw [size_zeroCells, show (Value.int .i64 0).cells.size = 1 from rfl, Nat.mul_one]
theorem alloc_but (w : World) (o : Obj) : But w.heap.size w (w.alloc o) :=
  ⟨rfl, rfl, rfl, by have := size_alloc_ w o; omega, fun k hk _ => Below.heap_alloc w o k hk⟩
/-- What parts from w in a new block alone keeps all. -/
theorem But.below_new {w0 w w' : World} (h : But w.heap.size w w') (hB : Below w0.heap.size w0 w) : Below w0.heap.size w0 w' :=
  ⟨h.os.trans hB.os, h.tape.trans hB.tape, h.output.trans hB.output, Nat.le_trans hB.size h.size, fun k hk => (h.block k (Nat.lt_of_lt_of_le hk hB.size) (by have := hB.size; omega)).trans (hB.block k hk)⟩
theorem But.kept_new {w w' : World} {P : Nat → Prop} (h : But w.heap.size w w') : Kept w w' P :=
  ⟨h.size, fun i hi _ => h.block i hi (by omega)⟩

theorem cells_of {w : World} {g e : Nat} {cur : Array Value} {xs : List Int} (hh : w.heap[g]? = some (.cells cur e (0, 0))) (ht : cur.toList.take xs.length = xs.map (Value.int .i64)) : ∀ j v, (xs.map (Value.int .i64))[j]? = some v → w.cell? ⟨g, 0 + j, none⟩ = some v := by
  intro j v hj
  rw [Nat.zero_add, blk_cell hh j, ← Array.getElem?_toList]
  rw [← ht, List.getElem?_take] at hj
  split at hj
  · exact hj
  · cases hj
theorem one_ints (xs : List Int) : ∀ v ∈ xs.map (Value.int .i64), v.oneCell' = true := by
  intro v hv
  obtain ⟨x, _, rfl⟩ := List.mem_map.1 hv
  rfl
theorem take_app (cur : List Value) (xs ys : List Int) (h : cur.take xs.length = xs.map (Value.int .i64)) (hl : xs.length + ys.length ≤ cur.length) :
    (cur.take xs.length ++ ys.map (Value.int .i64) ++ cur.drop (xs.length + ys.length)).take (xs ++ ys).length = (xs ++ ys).map (Value.int .i64) := by
  rw [h, ← List.map_append]
  exact List.take_left' (by simp)

/-- slices.Insert of a row of its own, at least one value. -/
theorem insert_calls (P0_ P2_ : Nat → Prop) (v v2 : Value) (l0 : List Int) (i : Nat) (l2 : List Int) (w0 w : World) (hB : Below w0.heap.size w0 w) (ho0 : Kd.R (Kd.int .i64) 3 w w0.heap.size P0_ v l0)
    (hp : ∀ k_, P0_ k_ → ¬ P2_ k_) (ho2 : Kd.R (Kd.int .i64) 3 w w0.heap.size P2_ v2 l2) (hi : i ≤ l0.length) (h2 : 0 < l2.length) (hl : l0.length + l2.length < 17592186044416) :
    Calls Try.prog 52 #[v, .int .i64 i, v2] w fun e w' => ∃ v0_ : Value, e = .returned (v0_) ∧ Kd.R (Kd.int .i64) 3 w' w0.heap.size (fun k_ => ((P0_ k_ ∨ P2_ k_) ∨ w.heap.size ≤ k_)) v0_ (l0.take i ++ l2 ++ l0.drop i) ∧ Below w0.heap.size w0 w' ∧ Kept w w' (fun k_ => P0_ k_ ∨ P2_ k_) := by
  rcases form ho2 with ⟨rfl, rfl⟩ | ⟨g2, cap2, cur2, rfl, hb2, hok2, hlt2, hh2, hn2, hm2, hs2, ht2⟩
  · exact absurd h2 (by simp)
  have hbase : w0.heap.size ≤ w.heap.size := hB.size
  have hlen : (l0.take i ++ l2 ++ l0.drop i).length = l0.length + l2.length := by simp; omega
  rcases form ho0 with ⟨rfl, rfl⟩ | ⟨g, cap, cur, rfl, hb, hok, hlt, hh, hn, hm, hs, ht⟩
  · obtain rfl : i = 0 := by simpa using hi
    refine (Any2.slices_Insert_int_end_grow Try.laysNm221 none 0 0 g2 0 l2.length cap2 [] (l2.map (Value.int .i64)) w h2 (Nat.le_refl _) (by omega) (by simp at hl; omega) rfl (by simp) (fun _ => rfl) (fun a ha => by cases ha) (cells_of hh2 ht2) (one_ints _)).mono ?_
    rintro e w' ⟨rfl, rfl⟩
    have hge := grownCap_ge w (0 + l2.length) 0 (Try.laysNm221_ren.t 3)
    have hle := grownCap_le_maxLen w (0 + l2.length) 0 (Try.laysNm221_ren.t 3) (by unfold maxLen; simp at hl; omega)
    have hbut := (alloc_but w.drew (.cells ((([] : List Value) ++ l2.map (Value.int .i64)).toArray ++ Builtin.zeroCells (Value.int .i64 0).cells (grownCap w (0 + l2.length) 0 (Try.laysNm221_ren.t 3) - (0 + l2.length))) 3))
    have hbut2 : But w.heap.size w (w.drew.alloc (.cells ((([] : List Value) ++ l2.map (Value.int .i64)).toArray ++ Builtin.zeroCells (Value.int .i64 0).cells (grownCap w (0 + l2.length) 0 (Try.laysNm221_ren.t 3) - (0 + l2.length))) 3)) := ⟨hbut.os, hbut.tape, hbut.output, hbut.size, hbut.block⟩
    refine ⟨_, rfl, ?_, hbut2.below_new hB, hbut2.kept_new⟩
    refine make (by simp) hbase (.inr (Nat.le_refl _)) (blk_new w.drew _) (by rw [hlen]; simpa using hge) hle ?_ ?_
    · rw [Array.size_append, zc]; simp only [List.nil_append, List.size_toArray, List.length_map]; omega
    · simp
  · by_cases hin : i = l0.length
    · subst hin
      by_cases hroom : l0.length + l2.length ≤ cap
      · refine (Any2.slices_Insert_int_end_room Try.laysNm221 g 0 l0.length cap g2 0 l2.length cap2 (l2.map (Value.int .i64)) w h2 hroom hm (by simp) (fun j hj => ?_) (fun j _ => blk_frozen hh _) (cells_of hh2 ht2) (one_ints _)).mono ?_
        · rw [blk_cell hh]; rw [Array.getElem?_eq_getElem (by omega)]; rfl
        rintro e w' ⟨rfl, rfl⟩
        obtain ⟨cur', hh', hs', ht'⟩ := setCells_row (l2.map (Value.int .i64)) (0 + l0.length) w cur hh (by simp; omega)
        have hbut := setCells_but w g (0 + l0.length) (l2.map (Value.int .i64))
        refine ⟨_, rfl, ?_, hbut.below hB hb, hbut.kept (.inl hok)⟩
        refine make hlen.symm hb (.inl (.inl hok)) hh' (by rw [hlen]; exact hroom) hm (by omega) ?_
        rw [ht', List.take_of_length_le (Nat.le_refl _), List.drop_eq_nil_of_le (Nat.le_refl _), List.append_nil, Nat.zero_add]
        have := take_app cur.toList l0 l2 ht (by have : cur.toList.length = cur.size := Array.length_toList; omega)
        rw [List.length_map]
        exact this
      · refine (Any2.slices_Insert_int_end_grow Try.laysNm221 (some ⟨g, 0, none⟩) l0.length cap g2 0 l2.length cap2 (l0.map (Value.int .i64)) (l2.map (Value.int .i64)) w h2 hn (by omega) (by omega) (by simp) (by simp) (fun h => by cases h) (fun a ha j v hv => ?_) (cells_of hh2 ht2) (one_ints _)).mono ?_
        · cases ha
          have := cells_of hh ht j v hv
          rw [show (⟨g, 0, none⟩ : Addr).add j = ⟨g, 0 + j, none⟩ by unfold Addr.add; split <;> simp_all]
          exact this
        rintro e w' ⟨rfl, rfl⟩
        have hge := grownCap_ge w (l0.length + l2.length) cap (Try.laysNm221_ren.t 3)
        have hle := grownCap_le_maxLen w (l0.length + l2.length) cap (Try.laysNm221_ren.t 3) (by unfold maxLen; omega)
        have hbut := (alloc_but w.drew (.cells ((l0.map (Value.int .i64) ++ l2.map (Value.int .i64)).toArray ++ Builtin.zeroCells (Value.int .i64 0).cells (grownCap w (l0.length + l2.length) cap (Try.laysNm221_ren.t 3) - (l0.length + l2.length))) 3))
        have hbut2 : But w.heap.size w (w.drew.alloc (.cells ((l0.map (Value.int .i64) ++ l2.map (Value.int .i64)).toArray ++ Builtin.zeroCells (Value.int .i64 0).cells (grownCap w (l0.length + l2.length) cap (Try.laysNm221_ren.t 3) - (l0.length + l2.length))) 3)) := ⟨hbut.os, hbut.tape, hbut.output, hbut.size, hbut.block⟩
        refine ⟨_, rfl, ?_, hbut2.below_new hB, hbut2.kept_new⟩
        refine make hlen.symm hbase (.inr (Nat.le_refl _)) (blk_new w.drew _) (by rw [hlen]; exact hge) hle ?_ ?_
        · rw [Array.size_append, zc]; simp only [List.size_toArray, List.length_append, List.length_map]; omega
        · rw [hlen, Array.toList_append, List.take_of_length_le (Nat.le_refl l0.length), List.drop_eq_nil_of_le (Nat.le_refl l0.length), List.append_nil, List.map_append]
          exact List.take_left' (by simp)
    · have hlt' : i < l0.length := by omega
      by_cases hroom : l0.length + l2.length ≤ cap
      · have hne : g2 ≠ g := fun e => hp g hok (e ▸ hok2)
        refine (Any2.slices_Insert_int_shift Try.laysNm221 g 0 l0.length cap i g2 0 l2.length cap2 (l0.map (Value.int .i64)) (l2.map (Value.int .i64)) w hlt' h2 hroom hm hne (by simp) (by simp) (cells_of hh ht) (fun j hj => ?_) (fun j _ => blk_frozen hh _) (cells_of hh2 ht2) (one_ints _) (one_ints _) 3 3 cur2.size cur.size (by simp [World.shape?, hh2]) (by simp [World.shape?, hh]) (by omega) (blk_frozen hh2 _) (blk_frozen hh2 _)).mono ?_
        · rw [blk_cell hh]; rw [Array.getElem?_eq_getElem (by omega)]; rfl
        rintro e w' ⟨rfl, rfl⟩
        have hh0 : w.drew.heap[g]? = some (.cells cur 3 (0, 0)) := hh
        obtain ⟨cur1, hh1, hs1, ht1⟩ := setCells_row ((l0.map (Value.int .i64)).drop i) (0 + (i + l2.length)) w.drew cur hh0 (by simp; omega)
        obtain ⟨cur', hh', hs', ht'⟩ := setCells_row (l2.map (Value.int .i64)) (0 + i) _ cur1 hh1 (by simp; omega)
        have hb0 : But g w w.drew := ⟨rfl, rfl, rfl, Nat.le_refl _, fun _ _ _ => rfl⟩
        have hbut := (hb0.trans (setCells_but w.drew g (0 + (i + l2.length)) ((l0.map (Value.int .i64)).drop i))).trans (setCells_but _ g (0 + i) (l2.map (Value.int .i64)))
        refine ⟨_, rfl, ?_, hbut.below hB hb, hbut.kept (.inl hok)⟩
        refine make hlen.symm hb (.inl (.inl hok)) hh' (by rw [hlen]; exact hroom) hm (by omega) ?_
        have hcl : cur.toList.length = cur.size := Array.length_toList
        have e1 : cur.toList.take i = (l0.take i).map (Value.int .i64) := by
          have := congrArg (List.take i) ht
          rwa [List.take_take, Nat.min_eq_left (by omega), ← List.map_take] at this
        rw [Nat.zero_add] at ht1 ht'
        have hX : (cur.toList.take (i + l2.length)).length = i + l2.length := by rw [List.length_take]; omega
        have f1 : cur1.toList.take i = (l0.take i).map (Value.int .i64) := by
          rw [ht1, List.append_assoc, List.take_append_of_le_length (by rw [hX]; omega), List.take_take, Nat.min_eq_left (Nat.le_add_right _ _), e1]
        have f2 : cur1.toList.drop (i + l2.length) = (l0.map (Value.int .i64)).drop i ++ cur.toList.drop (i + l2.length + ((l0.map (Value.int .i64)).drop i).length) := by
          rw [ht1, List.append_assoc]
          exact List.drop_left' hX
        rw [hlen, ht', f1, List.length_map, f2, ← List.append_assoc, ← List.map_drop, ← List.map_append, ← List.map_append]
        exact List.take_left' (by rw [List.length_map, hlen])
      · refine (Any2.slices_Insert_int_grow Try.laysNm221 g 0 l0.length cap i g2 0 l2.length cap2 (l0.map (Value.int .i64)) (l2.map (Value.int .i64)) w hlt' h2 hn (by omega) (by omega) (by simp) (by simp) (cells_of hh ht) (cells_of hh2 ht2) (one_ints _) (one_ints _)).mono ?_
        rintro e w' ⟨rfl, rfl⟩
        have hge := grownCap_ge w (l0.length + l2.length) cap (Try.laysNm221_ren.t 3)
        have hle := grownCap_le_maxLen w (l0.length + l2.length) cap (Try.laysNm221_ren.t 3) (by unfold maxLen; omega)
        generalize hC : grownCap w (l0.length + l2.length) cap (Try.laysNm221_ren.t 3) = C at hge hle ⊢
        generalize hO : ((l0.map (Value.int .i64)).take i).toArray ++ Builtin.zeroCells (Value.int .i64 0).cells (l0.length + l2.length - i) ++ Builtin.zeroCells (Value.int .i64 0).cells (C - (l0.length + l2.length)) = O
        have hOs : O.size = C := by
          rw [← hO, Array.size_append, Array.size_append, zc, zc]; simp only [List.size_toArray, List.length_take, List.length_map]; omega
        have hO1 : O.toList.take i = (l0.map (Value.int .i64)).take i := by
          rw [← hO]; simp only [Array.toList_append, List.append_assoc]
          exact List.take_left' (by simp; omega)
        have hh0 : (w.alloc (.cells O 3)).drew.heap[w.heap.size]? = some (.cells O 3 (0, 0)) := blk_new w _
        obtain ⟨cur1, hh1, hs1, ht1⟩ := setCells_row (l2.map (Value.int .i64)) i _ O hh0 (by simp; omega)
        have hh1' : (((w.alloc (.cells O 3)).drew.setCells w.heap.size i (l2.map (Value.int .i64))).drew).heap[w.heap.size]? = some (.cells cur1 3 (0, 0)) := hh1
        obtain ⟨cur', hh', hs', ht'⟩ := setCells_row ((l0.map (Value.int .i64)).drop i) (i + l2.length) _ cur1 hh1' (by simp; omega)
        have hbut := (((alloc_but w (.cells O 3)).drew.trans (setCells_but _ w.heap.size i (l2.map (Value.int .i64)))).drew).trans (setCells_but _ w.heap.size (i + l2.length) ((l0.map (Value.int .i64)).drop i))
        refine ⟨_, rfl, ?_, hbut.below_new hB, hbut.kept_new⟩
        refine make hlen.symm hbase (.inr (Nat.le_refl _)) hh' (by rw [hlen]; exact hge) hle (by omega) ?_
        rw [hlen, ht', ht1, hO1]
        rw [List.take_append_of_le_length (by simp; omega)]
        rw [List.take_of_length_le (by simp; omega)]
        rw [List.take_append_of_le_length (by simp; omega), List.take_of_length_le (by simp; omega)]
        simp [List.map_take, List.map_drop]
end Go.Proofs.Ytiimanpmidnffaa.Hand
