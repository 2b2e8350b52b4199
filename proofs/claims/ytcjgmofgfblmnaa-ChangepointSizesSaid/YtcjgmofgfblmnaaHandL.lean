/- changepoint.Latest: a range over slices.Backward, by the kit's laws of a range over a function. -/
import Derived.RangeFuncNested
import Derived.RangeFuncBound
import Derived.RangeFuncCalls
import Derived.RangeFuncLeaves
import Derived.RangeFuncBox
import Derived.Shelf.Abstract
import Derived.Shelf.RegionOpen
import Derived.WalkKit
import Derived.OwnWalkIn
import Derived.TacticsInMore
import Derived.LoopNIn
import Derived.LoopIn
import Derived.Test.YtcjgmofgfblmnaaProg
import Derived.Test.YtcjgmofgfblmnaaTy
namespace Go.Proofs.Ytcjgmofgfblmnaa.HandL
open Go.RowKit Go.Shelf Go.Proofs.Ytcjgmofgfblmnaa.Q
set_option linter.unusedVariables false
set_option linter.unusedSimpArgs false
set_option linter.unusedSimpArgs false
attribute [local go_sem] Oper.semAt_some
abbrev Pr := Nat × S41
structure Hid (p : Prop) : Prop where
  out : p
/-- What has come when r rounds are over. -/
def back (zs : List S41) (r : Nat) : List Pr := (List.range r).map fun t => (zs.length - 1 - t, zs.getD (zs.length - 1 - t) z41)
theorem back_succ (zs : List S41) (r : Nat) : back zs (r + 1) = back zs r ++ [(zs.length - 1 - r, zs.getD (zs.length - 1 - r) z41)] := by simp [back, List.range_succ]
theorem back_length (zs : List S41) (r : Nat) : (back zs r).length = r := by simp [back]
/-- Changes that lie at an address. -/
def Lies (W : World) (b off : Nat) (zs : List S41) : Prop := ∀ j, j < zs.length → W.cell? ⟨b, off + j * 3, none⟩ = some (.int .i64 (zs.getD j z41).f0) ∧ W.cell? ⟨b, off + j * 3 + 1, none⟩ = some (.int .i64 (zs.getD j z41).f1) ∧ W.cell? ⟨b, off + j * 3 + 2, none⟩ = some (.int .i64 (zs.getD j z41).f2)
theorem Lies.below {n₀ : Nat} {A B : World} (h : Below n₀ A B) {b off : Nat} {zs : List S41} (hb : b < n₀) (hl : Lies A b off zs) : Lies B b off zs := fun j hj =>
  ⟨(h.cell (p := ⟨b, off + j * 3, none⟩) hb).trans (hl j hj).1, (h.cell (p := ⟨b, off + j * 3 + 1, none⟩) hb).trans (hl j hj).2.1, (h.cell (p := ⟨b, off + j * 3 + 2, none⟩) hb).trans (hl j hj).2.2⟩
set_option maxRecDepth 100000 in
set_option maxHeartbeats 2000000 in
theorem bw1_in (F : Fence) (n : Nat) (hf : F.fn 74) (hro : F.round = none) (hn : 1 ≤ n) (l Bs n₀ b off cap : Nat) (zs : List S41) (hreach : zs.length ≤ 1000000) (hb : b < n₀) (hBn : Bs < n₀) (J Jx : List Pr → World → Prop)
    (hY : ∀ pre x W, J pre W → pre.length < zs.length → YieldAt F (n - 1) Try.prog l #[.int .i64 (x.1 : Int), .agg #[.int .i64 x.2.f0, .int .i64 x.2.f1, .int .i64 x.2.f2]] W fun e W' =>
      (e = .returned (.bool true) ∧ J (pre ++ [x]) W' ∧ Below n₀ W W') ∨ (e = .returned (.bool false) ∧ Jx (pre ++ [x]) W'))
    (W : World) (hBs : W.cell? ⟨Bs, 0, none⟩ = some (.slice (some ⟨b, off, none⟩) zs.length cap)) (hc : Lies W b off zs) (h0 : J [] W) :
    CallsIn F n Try.prog 74 #[.func (.yield l) #[] #[], .pointer (some ⟨Bs, 0, none⟩)] W fun e W' => (∃ v, e = .returned v) ∧
      ((∃ ys, ys = back zs zs.length ∧ J ys W') ∨ (∃ pre, (∃ k, k ≤ zs.length ∧ pre = back zs k) ∧ Jx pre W')) := by
  refine callsIn_of_wp Try.func74 rfl hf ?_ hro
  simp only [Try.ntmps74, List.size_toArray, List.length_cons, List.length_nil, Nat.reduceAdd, Nat.reduceSub, Array.replicate_succ, Array.replicate_zero, List.push_toArray, List.append_toArray, List.nil_append, List.cons_append]
  gi_wp2
  gi_loopw [3] (fun i wr => ∃ m : Nat, m ≤ zs.length ∧ i = .int .i64 ((m : Int) - 1) ∧ J (back zs (zs.length - m)) wr ∧ Below n₀ W wr)
    (fun i _ => (intOf i + 1).toNat)
  case atStart => exact ⟨zs.length, Nat.le_refl _, by simp, by rw [Nat.sub_self]; exact h0, Below.refl _ _⟩
  case round =>
    obtain ⟨m, hm, rfl, hJs, hnx⟩ := hrel
    have hBs' := (hnx.cell (p := ⟨Bs, 0, none⟩) hBn).trans hBs
    have hc' := hc.below hnx hb
    cases m with
    | zero =>
      gi_wp2
      go_end0
      exact ⟨⟨_, rfl⟩, .inl ⟨_, rfl, hJs⟩⟩
    | succ q =>
      have e0 : ((q + 1 : Nat) : Int) - 1 = (q : Int) := by omega
      rw [e0]
      have hq : q < zs.length := by omega
      have er : zs.length - 1 - (zs.length - (q + 1)) = q := by omega
      obtain ⟨c0, c1, c2⟩ := hc' q hq
      obtain ⟨fn, tmps, assign, body, hy, hR⟩ := hY _ (q, zs.getD q z41) wr hJs (by rw [back_length]; omega)
      dsimp only at hy
      generalize hx0 : zs.getD q z41 = x at hy hR c0 c1 c2
      have hx := Hid.mk hx0
      clear hx0
      clear hc hc'
      gi_wp2
      refine hR.mono ?_
      rintro e W3 (⟨rfl, hJ3, hk3⟩ | ⟨rfl, hJx3⟩)
      · gi_wp2
        go_roundw
        case rel => exact ⟨q, by omega, by simp, by rw [show zs.length - q = zs.length - (q + 1) + 1 by omega, back_succ, er, hx.out]; exact hJ3, hnx.trans hk3⟩
        case measure => simp [intOf]
      · gi_wp2
        refine bodyPost_ret (results_none rfl _ _ _) rfl ?_
        exact ⟨⟨_, rfl⟩, .inr ⟨_, ⟨zs.length - (q + 1) + 1, by omega, by rw [back_succ, er, hx.out]⟩, hJx3⟩⟩
set_option maxRecDepth 100000 in
set_option maxHeartbeats 1000000 in
/-- .. at the nil slice: no round. -/
theorem bw1_nil_in (F : Fence) (n : Nat) (hf : F.fn 74) (hro : F.round = none) (l Bs : Nat) (sa : Option Addr) (cap : Nat) (J : List Pr → World → Prop) (W : World) (hBs : W.cell? ⟨Bs, 0, none⟩ = some (.slice sa 0 cap)) (h0 : J [] W) :
    CallsIn F n Try.prog 74 #[.func (.yield l) #[] #[], .pointer (some ⟨Bs, 0, none⟩)] W fun e W' => (∃ v, e = .returned v) ∧ J [] W' := by
  refine callsIn_of_wp Try.func74 rfl hf ?_ hro
  simp only [Try.ntmps74, List.size_toArray, List.length_cons, List.length_nil, Nat.reduceAdd, Nat.reduceSub, Array.replicate_succ, Array.replicate_zero, List.push_toArray, List.append_toArray, List.nil_append, List.cons_append]
  gi_wp2
  gi_loopw [3] (fun i wr => i = .int .i64 (-1) ∧ J [] wr) (fun _ _ => 0)
  case atStart => exact ⟨rfl, h0⟩
  case round =>
    obtain ⟨rfl, hJs⟩ := hrel
    gi_wp2
    go_end0
    exact ⟨⟨_, rfl⟩, hJs⟩
set_option maxHeartbeats 1000000 in
theorem backward_in (F : Fence) (n : Nat) (hf : F.fn 54) (hro : F.round = none) (a : Option Addr) (len cap : Nat) (w : World) :
    CallsIn F n Try.prog 54 #[.slice a len cap] w fun e w' => e = .returned (.func (.func 74) #[] #[.pointer (some ⟨w.heap.size, 0, none⟩)]) ∧ w' = w.alloc (.cells #[.slice a len cap] 30) := by
  refine callsIn_of_wp Try.func54 rfl hf ?_ hro
  simp only [Try.ntmps54, List.size_toArray, List.length_cons, List.length_nil, Nat.reduceAdd, Nat.reduceSub, Array.replicate_succ, Array.replicate_zero, List.push_toArray, List.append_toArray, List.nil_append, List.cons_append]
  gi_wp2
  go_ret
  exact ⟨rfl, rfl⟩
/-- A slice value that holds the changes zs, in a block below n₀; or there are none. -/
def Has (n₀ : Nat) (W : World) (sv : Value) (zs : List S41) : Prop :=
  (∃ sa cap, sv = .slice sa 0 cap ∧ zs = []) ∨ ∃ b off cap, sv = .slice (some ⟨b, off, none⟩) zs.length cap ∧ b < n₀ ∧ Lies W b off zs
theorem Has.below {n₀ : Nat} {A B : World} (h : Below n₀ A B) {sv : Value} {zs : List S41} : Has n₀ A sv zs → Has n₀ B sv zs
  | .inl e => .inl e
  | .inr ⟨b, off, cap, e, hb, hc⟩ => .inr ⟨b, off, cap, e, hb, hc.below h hb⟩
theorem bw_stops (F : Fence) (n : Nat) (hf : F.fn 74) (hro : F.round = none) (hn : 1 ≤ n) (Bs n₀ : Nat) (sv : Value) (zs : List S41) (hreach : zs.length ≤ 1000000) (w : World) (hBs : Bs < n₀) (hn₀ : n₀ ≤ w.heap.size)
    (hc : w.cell? ⟨Bs, 0, none⟩ = some sv) (hI : Has n₀ w sv zs) :
    SeqStopsK F n Try.prog 74 #[.pointer (some ⟨Bs, 0, none⟩)] (fun x : Pr => #[Value.int .i64 (x.1 : Int), .agg #[.int .i64 x.2.f0, .int .i64 x.2.f1, .int .i64 x.2.f2]]) (Below n₀) (fun ys => ys = back zs zs.length) (fun pre => ∃ k, k ≤ zs.length ∧ pre = back zs k) zs.length w := fun l J Jx W hW _ _ hY h0 => by
  have hc' := (hW.cell (p := ⟨Bs, 0, none⟩) (Nat.lt_of_lt_of_le hBs hn₀)).trans hc
  rcases hI.below (hW.mono hn₀) with ⟨sa, cap, rfl, rfl⟩ | ⟨b, off, cap, rfl, hb, hcs⟩
  · exact (bw1_nil_in F n hf hro l Bs sa cap J W hc' h0).mono fun e W' ⟨he, hj⟩ => ⟨he, .inl ⟨_, rfl, hj⟩⟩
  · refine (bw1_in F n hf hro hn l Bs n₀ b off cap zs hreach hb hBs J Jx hY W hc' hcs h0).mono ?_
    rintro e W' ⟨he, ⟨ys, rfl, hj⟩ | ⟨pre, hk, hj⟩⟩
    · exact ⟨he, .inl ⟨_, rfl, hj⟩⟩
    · exact ⟨he, .inr ⟨_, hk, hj⟩⟩
open Go.Proofs.YtcjgmofgfblmnaaW.PrintWords
def cellsOf (x : S41) : Array Value := #[.int .i64 x.f0, .int .i64 x.f1, .int .i64 x.f2]
def Blk (W : World) (g : Nat) (cs : Array Value) (t : TypeId) : Prop := W.heap[g]? = some (.cells cs t (0, 0))
theorem Blk.lt {W : World} {g : Nat} {cs : Array Value} {t : TypeId} (h : Blk W g cs t) : g < W.heap.size := (Array.getElem?_eq_some_iff.1 h).1
theorem Blk.kept {A B : World} {row : Option Nat} {g : Nat} {cs : Array Value} {t : TypeId} (h : Blk A g cs t) (hg : A.grownBy B row) (hr : ∀ r, row = some r → ∃ o : Obj, A.heap[r]? = some o ∧ o.isCells = false) : Blk B g cs t :=
  (hg.block g h.lt (fun e => by obtain ⟨o, ho, hc⟩ := hr g e.symm; rw [show A.heap[g]? = _ from h] at ho; cases ho; cases hc)).trans h
theorem has_of_C {w : World} {A0 : Option Addr} {l0 : List S41} (c0 : Nat) (hr0 : Kd.C k41 w A0 l0.length l0) : Has w.heap.size w (.slice A0 l0.length c0) l0 := by
  rcases Nat.eq_zero_or_pos l0.length with h | h
  · have h0 : l0 = [] := List.length_eq_zero_iff.1 h
    subst h0
    exact .inl ⟨A0, c0, rfl, rfl⟩
  · obtain ⟨ad, e, _⟩ := hr0.2.2 h
    subst e
    have hg : ∀ j, j < l0.length → ∀ i, i < 3 → w.cell? (ad.add (j * 3 + i)) = (cellsOf (l0.getD j z41))[i]? := by
      intro j hj i hi
      obtain ⟨ad', c, e, _, hK, hc⟩ := Kd.C_get hr0 z41 (j : Int) (Int.natCast_nonneg _) (by omega)
      cases e
      rw [Int.toNat_natCast] at hK hc
      have ec : c = (cellsOf (l0.getD j z41)).toList := by
        obtain ⟨_, _, rfl, rfl, ⟨_, _, rfl, rfl, rfl⟩⟩ := hK
        rfl
      have hl : i < (cellsOf (l0.getD j z41)).size := hi
      have := hc i (cellsOf (l0.getD j z41))[i] (by rw [ec, Array.getElem?_toList, Array.getElem?_eq_getElem hl])
      rw [Array.getElem?_eq_getElem hl]
      exact this
    have hc0' := hg 0 h 0 (by omega)
    have hs : ad.spot = none := by
      rw [show ad.add (0 * 3 + 0) = ad by simp [Addr.add]] at hc0'
      have hc1 : w.cell? ad = some (.int .i64 (l0.getD 0 z41).f0) := hc0'
      unfold World.cell? at hc1
      split at hc1
      · split at hc1
        · cases hc1
        · rename_i hh; simpa using hh
      · cases hc1
    obtain ⟨b, off, sp⟩ := ad
    simp only at hs
    subst hs
    have ea : ∀ k, (⟨b, off, none⟩ : Addr).add k = ⟨b, off + k, none⟩ := fun k => by unfold Addr.add; split <;> simp_all
    refine .inr ⟨b, off, c0, rfl, ?_, fun j hj => ⟨?_, ?_, ?_⟩⟩
    · have := hg 0 h 0 (by omega)
      exact World.block_lt_of_cell? w _ this
    · have := hg j hj 0 (by omega)
      rw [ea] at this
      exact this
    · have := hg j hj 1 (by omega)
      rw [ea] at this
      exact this
    · have := hg j hj 2 (by omega)
      rw [ea] at this
      exact this
theorem Has.more {n m : Nat} {W : World} {sv : Value} {zs : List S41} (hle : n ≤ m) : Has n W sv zs → Has m W sv zs
  | .inl e => .inl e
  | .inr ⟨b, off, cap, e, hb, hc⟩ => .inr ⟨b, off, cap, e, Nat.lt_of_lt_of_le hb hle, hc⟩
theorem Blk.alloc {W : World} {g : Nat} {cs : Array Value} {t : TypeId} (h : Blk W g cs t) (o : Obj) : Blk (W.alloc o) g cs t := h.kept (World.grownBy_alloc W o none) (fun r e => by cases e)
theorem Blk.new (W : World) (cs : Array Value) (t : TypeId) : Blk (W.alloc (.cells cs t)) W.heap.size cs t := World.alloc_heap_new W _
theorem Blk.cell {W : World} {g : Nat} {v : Value} {t : TypeId} (h : Blk W g #[v] t) : W.cell? ⟨g, 0, none⟩ = some v := by simp [World.cell?, show W.heap[g]? = _ from h]
theorem start4 (w : World) (c0 c1 c2 c3 : Array Value) (t0 t1 t2 t3 : TypeId) : ∀ W4, W4 = (((w.alloc (.cells c0 t0)).alloc (.cells c1 t1)).alloc (.cells c2 t2)).alloc (.cells c3 t3) →
    Blk W4 w.heap.size c0 t0 ∧ Blk W4 (w.heap.size + 1) c1 t1 ∧ Blk W4 (w.heap.size + 1 + 1) c2 t2 ∧ Blk W4 (w.heap.size + 1 + 1 + 1) c3 t3 ∧ W4.heap.size = w.heap.size + 1 + 1 + 1 + 1 ∧ Below w.heap.size w W4 := by
  rintro W4 rfl
  have b1 := Blk.new (w.alloc (.cells c0 t0)) c1 t1
  have b2 := Blk.new ((w.alloc (.cells c0 t0)).alloc (.cells c1 t1)) c2 t2
  have b3 := Blk.new (((w.alloc (.cells c0 t0)).alloc (.cells c1 t1)).alloc (.cells c2 t2)) c3 t3
  simp only [World.size_alloc] at b1 b2 b3
  refine ⟨(((Blk.new w c0 t0).alloc _).alloc _).alloc _, (b1.alloc _).alloc _, b2.alloc _, b3, by simp only [World.size_alloc], ?_⟩
  exact ((((Below.refl _ w).alloc (Nat.le_refl _) _).alloc (by simp) _).alloc (by simp; omega) _).alloc (by simp; omega) _
/-- Between two rounds; behind the round that leaves. -/
def Inv (w : World) (n4 : Nat) (slot : Int) (pre : List Pr) (W : World) : Prop := n4 ≤ W.heap.size ∧ Blk W w.heap.size #[.int .i64 slot] 3 ∧ Blk W (w.heap.size + 1) (cellsOf z41) 41 ∧ Blk W (w.heap.size + 1 + 1) #[.bool false] 4 ∧ (∀ y ∈ pre, slot < y.2.f0) ∧ Below w.heap.size w W
def Left (w : World) (slot : Int) (c : Code) (pre : List Pr) (W : World) : Prop := c = .ret ∧ ∃ q x, pre = q ++ [x] ∧ x.2.f0 ≤ slot ∧ (∀ y ∈ q, slot < y.2.f0) ∧ Blk W (w.heap.size + 1) (cellsOf x.2) 41 ∧ Blk W (w.heap.size + 1 + 1) #[.bool true] 4 ∧ Below w.heap.size w W
theorem inv_own {w : World} {n4 : Nat} {slot : Int} {B : Nat} (hB : w.heap.size ≤ B) : OwnFrom B (fun pre W => Inv w n4 slot pre W) := by
  rintro pre A C row ⟨hz, h0, h1, h2, h3, h4⟩ hg hr
  have hr' := fun r e => (hr r e).2
  exact ⟨Nat.le_trans hz hg.size, h0.kept hg hr', h1.kept hg hr', h2.kept hg hr', h3, h4.grown hg h4.size (fun k e => Nat.le_trans hB (hr k e).1)⟩
theorem left_own {w : World} {slot : Int} {B : Nat} {c : Code} (hB : w.heap.size ≤ B) : OwnFrom B (fun pre W => Left w slot c pre W) := by
  rintro pre A C row ⟨hc, q, x, h0, h1, h2, h3, h4, h5⟩ hg hr
  have hr' := fun r e => (hr r e).2
  exact ⟨hc, q, x, h0, h1, h2, h3.kept hg hr', h4.kept hg hr', h5.grown hg h5.size (fun k e => Nat.le_trans hB (hr k e).1)⟩
/-- What Latest answers. -/
def latF (l : List S41) (slot : Int) : S41 × Bool := match l.reverse.find? (fun x => decide (x.f0 ≤ slot)) with
  | some x => (x, true)
  | none => (z41, false)
theorem back_snd (l : List S41) (k : Nat) (hk : k ≤ l.length) : (back l k).map Prod.snd = l.reverse.take k := by
  apply List.ext_getElem
  · simp [back]; omega
  · intro t h1 h2
    have ht : t < k := by simpa [back] using h1
    have hr : t < l.reverse.length := by rw [List.length_reverse]; omega
    simp only [back, List.map_map, List.getElem_map, List.getElem_range, Function.comp_apply, List.getElem_take]
    rw [List.getElem_reverse, List.getD_eq_getElem?_getD, List.getElem?_eq_getElem (by omega)]
    rfl
theorem find_none {q : List Pr} {slot : Int} (h : ∀ y ∈ q, slot < y.2.f0) : (q.map Prod.snd).find? (fun x => decide (x.f0 ≤ slot)) = none := by
  rw [List.find?_eq_none]
  intro x hx
  obtain ⟨y, hy, rfl⟩ := List.mem_map.1 hx
  have := h y hy
  simp
  omega
theorem lat_none {l : List S41} {slot : Int} (h : ∀ y ∈ back l l.length, slot < y.2.f0) : latF l slot = (z41, false) := by
  have h1 := find_none h
  rw [back_snd l _ (Nat.le_refl _), List.take_of_length_le (by simp)] at h1
  unfold latF
  rw [h1]
theorem lat_some {l : List S41} {slot : Int} {k : Nat} (hk : k ≤ l.length) {q : List Pr} {x : Pr} (e : q ++ [x] = back l k) (hx : x.2.f0 ≤ slot) (hq : ∀ y ∈ q, slot < y.2.f0) : latF l slot = (x.2, true) := by
  have h1 := back_snd l k hk
  rw [← e, List.map_append] at h1
  have h2 : l.reverse = (q.map Prod.snd ++ [x].map Prod.snd) ++ l.reverse.drop k := by rw [h1, List.take_append_drop]
  unfold latF
  rw [h2, List.find?_append, List.find?_append, find_none hq]
  simp [hx]
set_option maxRecDepth 100000 in
set_option maxHeartbeats 4000000 in
theorem latest_in (A0 : Option Addr) (c0 : Nat) (l0 : List S41) (slot : Int) (w : World) (hr0 : Kd.C k41 w A0 l0.length l0) (hl : l0.length ≤ 1000000) :
    CallsIn Fence.wide 4 Try.prog 32 #[.slice A0 l0.length c0, .int .i64 slot] w fun e w' => e = .returned (.tuple #[.agg (cellsOf (latF l0 slot).1), .bool (latF l0 slot).2]) ∧ Below w.heap.size w w' := by
  have hH := has_of_C c0 hr0
  clear hr0
  refine callsIn_of_wp_marks Try.func32 rfl trivial ?_ rfl
  simp only [Try.ntmps32, List.size_toArray, List.length_cons, List.length_nil, Nat.reduceAdd, Nat.reduceSub, Array.replicate_succ, Array.replicate_zero, List.push_toArray, List.append_toArray, List.nil_append, List.cons_append]
  gi_wp2_with (refine ⟨trivial, ?_⟩; gi_at_call 54; refine (backward_in Fence.wide 3 trivial rfl _ _ _ _).mono ?_; rintro e w' ⟨rfl, rfl⟩)
  have hst := start4 w #[.int .i64 slot] (cellsOf z41) #[.bool false] #[.slice A0 l0.length c0] 3 41 4 30 ((((w.alloc (.cells #[.int .i64 slot] 3)).alloc (.cells #[.int .i64 0, .int .i64 0, .int .i64 0] 41)).alloc (.cells #[.bool false] 4)).alloc (.cells #[.slice A0 l0.length c0] 30)) rfl
  generalize ((((w.alloc (.cells #[.int .i64 slot] 3)).alloc (.cells #[.int .i64 0, .int .i64 0, .int .i64 0] 41)).alloc (.cells #[.bool false] 4)).alloc (.cells #[.slice A0 l0.length c0] 30)) = W4 at hst ⊢
  obtain ⟨k0, k1, k2, k3, hz, hb3⟩ := hst
  have hH4 : Has W4.heap.size W4 (.slice A0 l0.length c0) l0 := (hH.below hb3).more (by omega)
  refine wpIn_rangeFunc_ownH (α := Pr) rfl (by omega) (gf := 74) (lb := #[.pointer (some ⟨w.heap.size + 1 + 1 + 1, 0, none⟩)]) rfl trivial (enters_of Try.func74 (by kernel_rfl) rfl)
    (bw_stops Fence.wide 3 trivial rfl (by omega) (w.heap.size + 1 + 1 + 1) W4.heap.size (.slice A0 l0.length c0) l0 hl W4 (by omega) (Nat.le_refl _) k3.cell hH4) belowK_t (belowK_b (Nat.le_refl _)) (Below.refl _ _) (fun _ => rfl)
    (fun pre W => Inv w W4.heap.size slot pre W) (fun c pre W => Left w slot c pre W) (inv_own (by omega)) (fun c => left_own (by omega)) ⟨Nat.le_refl _, k0, k1, k2, fun y hy => absurd hy List.not_mem_nil, hb3⟩
    (fun x a' W => ∃ Bx, W4.heap.size ≤ Bx ∧ Blk W Bx (cellsOf x.2) 41 ∧ a' = { tmps := #[.slice A0 l0.length c0, .int .i64 slot, undef, .pointer (some ⟨w.heap.size, 0, none⟩), .pointer (some ⟨w.heap.size + 1, 0, none⟩), .pointer (some ⟨w.heap.size + 1 + 1, 0, none⟩), undef, .pointer (some ⟨Bx, 0, none⟩), .slice A0 l0.length c0, .func (.func 74) #[] #[.pointer (some ⟨w.heap.size + 1 + 1 + 1, 0, none⟩)], .int .i64 (x.1 : Int), .agg #[.int .i64 x.2.f0, .int .i64 x.2.f1, .int .i64 x.2.f2], undef, undef, undef, undef, undef, undef], defers := [] }) ?hAx ?assign ?body ?done ?stop
  case hAx =>
    rintro x a' s A B row ⟨Bx, h1, h2, h3⟩ hg hr
    exact ⟨Bx, h1, h2.kept hg (fun r e => (hr r e).2), h3⟩
  case assign =>
    rintro l pre x W K ⟨hz4, h0, h1, h2, h3, h4⟩ hK
    have H3 := Hid.mk h3
    clear h3
    gi_wp2
    exact hK _ _ ((KeepsOthers.alloc W _).from _) ((Below.refl _ W).alloc hz4 _) ⟨by rw [World.size_alloc]; omega, h0.alloc _, h1.alloc _, h2.alloc _, H3.out, h4.alloc h4.size _⟩ ⟨W.heap.size, hz4, Blk.new W _ _, rfl⟩
  case body =>
    rintro l pre x a' W hl' hloop ⟨hz4, h0, h1, h2, h3, h4⟩ ⟨Bx, hx1, hx2, rfl⟩ hlen
    have cs : W.cell? ⟨w.heap.size, 0, none⟩ = some (.int .i64 slot) := (blk_cell h0 0).trans rfl
    have cx0 : W.cell? ⟨Bx, 0, none⟩ = some (.int .i64 x.2.f0) := (blk_cell hx2 0).trans rfl
    have cx1 : W.cell? ⟨Bx, 1, none⟩ = some (.int .i64 x.2.f1) := (blk_cell hx2 1).trans rfl
    have cx2 : W.cell? ⟨Bx, 2, none⟩ = some (.int .i64 x.2.f2) := (blk_cell hx2 2).trans rfl
    have cr0 : W.cell? ⟨w.heap.size + 1, 0, none⟩ = some (.int .i64 0) := (blk_cell h1 0).trans rfl
    have cr1 : W.cell? ⟨w.heap.size + 1, 1, none⟩ = some (.int .i64 0) := (blk_cell h1 1).trans rfl
    have cr2 : W.cell? ⟨w.heap.size + 1, 2, none⟩ = some (.int .i64 0) := (blk_cell h1 2).trans rfl
    have fr0 : W.frozen? ⟨w.heap.size + 1, 0, none⟩ = false := blk_frozen h1 0
    have fr1 : W.frozen? ⟨w.heap.size + 1, 1, none⟩ = false := blk_frozen h1 1
    have fr2 : W.frozen? ⟨w.heap.size + 1, 2, none⟩ = false := blk_frozen h1 2
    have cb0 : W.cell? ⟨w.heap.size + 1 + 1, 0, none⟩ = some (.bool false) := (blk_cell h2 0).trans rfl
    have fb0 : W.frozen? ⟨w.heap.size + 1 + 1, 0, none⟩ = false := blk_frozen h2 0
    have HI := Hid.mk (show Inv w W4.heap.size slot pre W from ⟨hz4, h0, h1, h2, h3, h4⟩)
    clear h0 h1 h2 h3 hx2
    by_cases hle : x.2.f0 ≤ slot
    · have e1 : decide (x.2.f0 ≤ slot) = true := decide_eq_true hle
      have HL := Hid.mk hle
      clear hle
      gi_wp2
      obtain ⟨hz4, h0, h1, h2, h3, h4⟩ := HI.out
      have hne : w.heap.size + 1 ≠ w.heap.size + 1 + 1 := by omega
      refine ⟨(((KeepsOthers.setCell _ _ _).trans (KeepsOthers.setCell _ _ _)).trans ((KeepsOthers.setCell _ _ _).trans (KeepsOthers.setCell _ _ _))).from _, rfl, pre, x, rfl, HL.out, h3, ?_, ?_, ?_⟩
      · exact blk_far (blk_set (blk_set (blk_set h1 0 _) 1 _) 2 _) hne _
      · exact blk_set (blk_far (blk_far (blk_far h2 hne.symm _) hne.symm _) hne.symm _) 0 _
      · exact (((h4.setCell (by simp) _).setCell (by simp) _).setCell (by simp) _).setCell (by simp; omega) _
    · have e1 : decide (x.2.f0 ≤ slot) = false := decide_eq_false hle
      have HL := Hid.mk (Int.not_le.1 hle)
      clear hle
      gi_wp2
      obtain ⟨hz4, h0, h1, h2, h3, h4⟩ := HI.out
      exact ⟨(KeepsOthers.refl _).from _, Below.refl _ _, hz4, h0, h1, h2, fun y hy => (List.mem_append.1 hy).elim (h3 y) (fun e => by rw [List.mem_singleton.1 e]; exact HL.out), h4⟩
  case done =>
    rintro D ys W hD rfl ⟨hz4, h0, h1, h2, h3, h4⟩ hK
    have cr0 : W.cell? ⟨w.heap.size + 1, 0, none⟩ = some (.int .i64 0) := (blk_cell h1 0).trans rfl
    have cr1 : W.cell? ⟨w.heap.size + 1, 1, none⟩ = some (.int .i64 0) := (blk_cell h1 1).trans rfl
    have cr2 : W.cell? ⟨w.heap.size + 1, 2, none⟩ = some (.int .i64 0) := (blk_cell h1 2).trans rfl
    have fr0 : W.frozen? ⟨w.heap.size + 1, 0, none⟩ = false := blk_frozen h1 0
    have fr1 : W.frozen? ⟨w.heap.size + 1, 1, none⟩ = false := blk_frozen h1 1
    have fr2 : W.frozen? ⟨w.heap.size + 1, 2, none⟩ = false := blk_frozen h1 2
    have cb0 : W.cell? ⟨w.heap.size + 1 + 1, 0, none⟩ = some (.bool false) := (blk_cell h2 0).trans rfl
    have fb0 : W.frozen? ⟨w.heap.size + 1 + 1, 0, none⟩ = false := blk_frozen h2 0
    have HI := Hid.mk (And.intro h1 (And.intro h2 (And.intro h3 h4)))
    clear h0 h1 h2 h3
    gi_wp2
    obtain ⟨h1, h2, h3, h4⟩ := HI.out
    have hne : w.heap.size + 1 ≠ w.heap.size + 1 + 1 := by omega
    have hK' := ((((KeepsOthers.setCell W ⟨w.heap.size + 1, 0, none⟩ (.int .i64 0)).trans (KeepsOthers.setCell _ ⟨w.heap.size + 1, 1, none⟩ (.int .i64 0))).trans (KeepsOthers.setCell _ ⟨w.heap.size + 1, 2, none⟩ (.int .i64 0))).trans (KeepsOthers.setCell _ ⟨w.heap.size + 1 + 1, 0, none⟩ (.bool false))).same D _ hK rfl
    have r1 := blk_far (blk_set (blk_set (blk_set h1 0 (.int .i64 0)) 1 (.int .i64 0)) 2 (.int .i64 0)) hne (p := ⟨w.heap.size + 1 + 1, 0, none⟩) (.bool false)
    have r2 := blk_set (blk_far (blk_far (blk_far h2 hne.symm (p := ⟨w.heap.size + 1, 0, none⟩) (.int .i64 0)) hne.symm (p := ⟨w.heap.size + 1, 1, none⟩) (.int .i64 0)) hne.symm (p := ⟨w.heap.size + 1, 2, none⟩) (.int .i64 0)) 0 (.bool false)
    have r4 := (((h4.setCell (p := ⟨w.heap.size + 1, 0, none⟩) (by simp) (.int .i64 0)).setCell (p := ⟨w.heap.size + 1, 1, none⟩) (by simp) (.int .i64 0)).setCell (p := ⟨w.heap.size + 1, 2, none⟩) (by simp) (.int .i64 0)).setCell (p := ⟨w.heap.size + 1 + 1, 0, none⟩) (by simp; omega) (.bool false)
    refine ⟨by simp, .inl ⟨_, _, rfl, run_takeDeferred hK', ?_⟩⟩
    have q1 := Blk.kept r1 (grownBy_putObj' _ D (.deferred none)) (fun r e => by cases e; exact ⟨_, hK', rfl⟩)
    have q2 := Blk.kept r2 (grownBy_putObj' _ D (.deferred none)) (fun r e => by cases e; exact ⟨_, hK', rfl⟩)
    have q4 := r4.trans (belowK_b (w := w) (Nat.le_refl _) _ D _ (.deferred none) (by omega) hK' rfl rfl)
    have c0 := (blk_cell q1 0).trans rfl
    have c1 := (blk_cell q1 1).trans rfl
    have c2 := (blk_cell q1 2).trans rfl
    have c3 := (blk_cell q2 0).trans rfl
    rw [lat_none h3]
    refine ⟨.tuple #[.agg (cellsOf z41), .bool false], ?_, rfl, q4⟩
    generalize World.putObj _ D _ = WW at c0 c1 c2 c3 ⊢
    simp [results, Try.f32, go_sem, c0, c1, c2, c3, cellsOf, z41]
  case stop =>
    rintro D c pre W hD hpre ⟨rfl, q, x, h0, h1, h2, h3, h4, h5⟩ hK
    gi_wp2
    refine ⟨by simp, .inl ⟨_, _, rfl, run_takeDeferred hK, ?_⟩⟩
    obtain ⟨k, hk, e⟩ := hpre
    have q1 := Blk.kept h3 (grownBy_putObj' _ D (.deferred none)) (fun r e => by cases e; exact ⟨_, hK, rfl⟩)
    have q2 := Blk.kept h4 (grownBy_putObj' _ D (.deferred none)) (fun r e => by cases e; exact ⟨_, hK, rfl⟩)
    have q4 := h5.trans (belowK_b (w := w) (Nat.le_refl _) _ D _ (.deferred none) (by omega) hK rfl rfl)
    rw [lat_some hk (h0.symm.trans e) h1 h2]
    have c0 : (W.putObj D (.deferred none)).cell? ⟨w.heap.size + 1, 0, none⟩ = some (.int .i64 x.2.f0) := (blk_cell q1 0).trans rfl
    have c1 : (W.putObj D (.deferred none)).cell? ⟨w.heap.size + 1, 1, none⟩ = some (.int .i64 x.2.f1) := (blk_cell q1 1).trans rfl
    have c2 : (W.putObj D (.deferred none)).cell? ⟨w.heap.size + 1, 2, none⟩ = some (.int .i64 x.2.f2) := (blk_cell q1 2).trans rfl
    have c3 : (W.putObj D (.deferred none)).cell? ⟨w.heap.size + 1 + 1, 0, none⟩ = some (.bool true) := (blk_cell q2 0).trans rfl
    refine ⟨.tuple #[.agg (cellsOf x.2), .bool true], ?_, rfl, q4⟩
    generalize World.putObj W D _ = WW at c0 c1 c2 c3 ⊢
    simp [results, Try.f32, go_sem, c0, c1, c2, c3, cellsOf]
theorem latest_calls (A0 : Option Addr) (c0 : Nat) (l0 : List S41) (slot : Int) (w : World) (hr0 : Kd.C k41 w A0 l0.length l0) (hl : l0.length ≤ 1000000) :
    Calls Try.prog 32 #[.slice A0 l0.length c0, .int .i64 slot] w fun e w' => e = .returned (.tuple #[.agg #[.int .i64 (latF l0 slot).1.f0, .int .i64 (latF l0 slot).1.f1, .int .i64 (latF l0 slot).1.f2], .bool (latF l0 slot).2]) ∧ Below w.heap.size w w' :=
  (latest_in A0 c0 l0 slot w hr0 hl).calls (fun k => room_wide k)
end Go.Proofs.Ytcjgmofgfblmnaa.HandL
