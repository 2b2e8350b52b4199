/- slices.Clone, SortStableFunc and SortFunc (at 12 elements or fewer) at []changepoint.Change, told of the print's own kinds. -/
import Derived.Test.YtcjgmofgfblmnaaLayE
import Derived.Test.YtcjgmofgfblmnaaHd
import Derived.Test.YtcjgmofgfblmnaaTy
import Derived.Shelf.SlSortCmp.InsertionK
import Derived.Test.YtcjgmofgfblmnaaMat
namespace Go.Proofs.Ytcjgmofgfblmnaa.HandE
open Go.RowKit Go.Shelf Go.Proofs.YtcjgmofgfblmnaaW.PrintWords Go.Proofs.YtcjgmofgfblmnaaW.PrintLast Go.Proofs.YtcjgmofgfblmnaaW.PrintMore Go.Sort Go.Proofs.Ytcjgmofgfblmnaa.Hand Go.Lib Go.Proofs.Ytcjgmofgfblmnaa.Q
set_option linter.unusedVariables false
set_option linter.unusedSimpArgs false
set_option linter.unusedSimpArgs false
instance : Inhabited S41 := ⟨z41⟩
/-- A change's three cells. -/
def encS (x : S41) : List Value := [.int .i64 x.f0, .int .i64 x.f1, .int .i64 x.f2]
/-- The cells of a list of changes. -/
def cells (xs : List S41) : List Value := (flatK encS 3 xs.toArray).toList
theorem cells_len (xs : List S41) : (cells xs).length = xs.length * 3 := by simp [cells]
theorem cells_get (xs : List S41) (j i : Nat) (hj : j < xs.length) (hi : i < 3) : (cells xs)[j * 3 + i]? = (encS xs[j])[i]? := by
  have ht : j * 3 + i < xs.toArray.size * 3 := by simp; omega
  have h := get_flatK encS 3 xs.toArray (j * 3 + i) ht
  have e1 : (j * 3 + i) / 3 = j := by omega
  have e2 : (j * 3 + i) % 3 = i := by omega
  rw [e1, e2] at h
  have hl : j * 3 + i < (flatK encS 3 xs.toArray).size := by rw [size_flatK]; exact ht
  rw [getElem!_pos (flatK encS 3 xs.toArray) (j * 3 + i) hl, getElem!_pos xs.toArray j (by simpa using hj)] at h
  have hl3 : i < (encS xs[j]).length := hi
  unfold cells
  rw [Array.getElem?_toList, Array.getElem?_eq_getElem hl, h, List.getElem?_eq_getElem hl3]
  simp [getElem!_pos, hl3]
theorem cells_cut (xs : List S41) (j : Nat) (hj : j < xs.length) : ((cells xs).drop (j * 3)).take 3 = encS xs[j] := by
  apply List.ext_getElem?
  intro i
  rw [List.getElem?_take]
  split
  · rename_i hi
    rw [List.getElem?_drop]
    exact cells_get xs j i hj hi
  · rename_i hi
    rw [List.getElem?_eq_none (by show 3 ≤ i; omega)]
theorem reps_cells {R : S41 → List Value → Prop} (hR : ∀ x, R x (encS x)) (xs : List S41) : Reps R 3 xs (cells xs) := by
  refine ⟨cells_len xs, fun j p hp => ?_⟩
  obtain ⟨hj, rfl⟩ := List.getElem?_eq_some_iff.1 hp
  rw [cells_cut xs j hj]
  exact hR _
theorem cells_of_reps {R : S41 → List Value → Prop} (hR : ∀ x cs, R x cs → cs = encS x) {xs : List S41} {inner : List Value} (h : Reps R 3 xs inner) : inner = cells xs := by
  apply List.ext_getElem?
  intro t
  by_cases ht : t < xs.length * 3
  · have hj : t / 3 < xs.length := by omega
    have h1 := hR _ _ (h.2 (t / 3) xs[t / 3] (List.getElem?_eq_getElem hj))
    have e : t = t / 3 * 3 + t % 3 := by omega
    have h2 := congrArg (fun l => l[t % 3]?) h1
    simp only [List.getElem?_take, if_pos (Nat.mod_lt t (by omega : 0 < 3)), List.getElem?_drop] at h2
    have h3 := cells_get xs (t / 3) (t % 3) hj (Nat.mod_lt t (by omega))
    rw [← e] at h2 h3
    rw [h2, h3]
  · rw [List.getElem?_eq_none (by rw [h.1]; omega), List.getElem?_eq_none (by rw [cells_len]; omega)]
theorem openM41 {w : World} {base : Nat} {ok : Nat → Prop} {x : S41} {cs : List Value} (h : k41.M w base ok x cs) : cs = encS x := by
  obtain ⟨_, _, rfl, rfl, ⟨_, _, rfl, rfl, rfl⟩⟩ := h
  rfl
theorem mkM41 (w : World) (base : Nat) (ok : Nat → Prop) (x : S41) : k41.M w base ok x (encS x) := ⟨[.int .i64 x.f0], [.int .i64 x.f1, .int .i64 x.f2], rfl, rfl, ⟨[.int .i64 x.f1], [.int .i64 x.f2], rfl, rfl, rfl⟩⟩
theorem openK41 {w : World} {x : S41} {cs : List Value} (h : k41.K w x cs) : cs = encS x := by
  obtain ⟨_, _, rfl, rfl, ⟨_, _, rfl, rfl, rfl⟩⟩ := h
  rfl
/-- An own row of changes, laid open. -/
theorem form41 {E : Nat} {w : World} {base : Nat} {ok : Nat → Prop} {v : Value} {xs : List S41} (h : Kd.R k41 E w base ok v xs) :
    (v = .slice none 0 0 ∧ xs = []) ∨ ∃ g cap cur, v = .slice (some ⟨g, 0, none⟩) xs.length cap ∧ base ≤ g ∧ ok g ∧ g < w.heap.size ∧ w.heap[g]? = some (.cells cur E (0, 0)) ∧ xs.length ≤ cap ∧ cap ≤ maxLen ∧ cur.size = cap * 3 ∧ cur.toList.take (xs.length * 3) = cells xs := by
  obtain ⟨hok, inner, ⟨hl, hc⟩, hr⟩ := h
  have e := cells_of_reps (fun x cs hx => openM41 hx) hr
  rcases hc with ⟨rfl, hn⟩ | ⟨g, cap, cur, rfl, hb, hh, hn, hm, hs, ht⟩
  · exact .inl ⟨rfl, List.length_eq_zero_iff.1 hn⟩
  · exact .inr ⟨g, cap, cur, rfl, hb, hok g rfl, blk_lt hh, hh, hn, hm, hs, ht.trans e⟩
/-- And put together. -/
theorem make41 {E : Nat} {w : World} {base : Nat} {ok : Nat → Prop} {g cap n : Nat} {cur : Array Value} {xs : List S41} (hl : n = xs.length) (hb : base ≤ g) (hok : ok g) (hh : w.heap[g]? = some (.cells cur E (0, 0)))
    (hn : xs.length ≤ cap) (hm : cap ≤ maxLen) (hs : cur.size = cap * 3) (ht : cur.toList.take (xs.length * 3) = cells xs) : Kd.R k41 E w base ok (.slice (some ⟨g, 0, none⟩) n cap) xs := by
  subst hl
  refine ⟨fun k hk => ?_, cells xs, ⟨cells_len xs, .inr ⟨g, cap, cur, rfl, hb, hh, hn, hm, hs, ht⟩⟩, reps_cells (fun x => mkM41 _ _ _ x) xs⟩
  have : g = k := by simpa [Value.ownBlock] using hk
  exact this ▸ hok
theorem putCells_take' (d : Array Value) (c : Array Value) (h : d.size ≤ c.size) : (putCells id 0 d c).toList.take d.size = d.toList := by
  apply List.ext_getElem?
  intro j
  rw [List.getElem?_take]
  split
  · rename_i hj
    have hc : j < c.size := by omega
    simp only [putCells, Array.getElem?_toList, Array.getElem?_mapIdx, Array.getElem?_eq_getElem hc, Option.map_some]
    have h2 : (0 ≤ j ∧ j < 0 + d.size) := ⟨Nat.zero_le _, by omega⟩
    rw [if_pos h2]
    simp [hj, getElem!_pos]
  · rename_i hj
    rw [List.getElem?_eq_none (by simp; omega)]
theorem holdsK_of {w : World} {g E : Nat} {cur : Array Value} {xs : List S41} (hh : w.heap[g]? = some (.cells cur E (0, 0))) (hn : xs.length * 3 ≤ cur.size) (ht : cur.toList.take (xs.length * 3) = cells xs) : HoldsK encS 3 w g 0 xs.toArray := by
  intro j hj
  have hj' : j < xs.length * 3 := by simpa using hj
  refine ⟨?_, blk_frozen hh _⟩
  rw [Nat.zero_add, blk_cell hh j]
  have h3 := congrArg (fun l => l[j]?) ht
  simp only [List.getElem?_take, if_pos hj', Array.getElem?_toList] at h3
  rw [h3]
  unfold cells
  rw [Array.getElem?_toList, getElem!_pos (flatK encS 3 xs.toArray) j hj, Array.getElem?_eq_getElem hj]
  rfl
/-- What the insertion sort leaves. -/
def insS (cf : S41 → S41 → Int) (l : List S41) : List S41 := (Sort.insertionSort (ltOf cf) l.toArray 0 l.length).toList
theorem ins_inner_size (lt : S41 → S41 → Bool) (a : Nat) : ∀ (j : Nat) (d : Array S41), (Sort.insInner lt a j d).size = d.size
  | 0, d => rfl
  | j + 1, d => by
    unfold Sort.insInner
    split
    · rw [ins_inner_size lt a j, size_swp]
    · rfl
theorem ins_outer_size (lt : S41 → S41 → Bool) (a b : Nat) : ∀ (n i : Nat) (d : Array S41), b - i = n → (Sort.insOuter lt a b i d).size = d.size := by
  intro n
  induction n with
  | zero => intro i d h; unfold Sort.insOuter; rw [if_neg (by omega)]
  | succ n ih => intro i d h; unfold Sort.insOuter; rw [if_pos (by omega), ih _ _ (by omega), ins_inner_size]
theorem ins_size (lt : S41 → S41 → Bool) (d : Array S41) (a b : Nat) : (Sort.insertionSort lt d a b).size = d.size := ins_outer_size lt a b _ _ d rfl
theorem insS_len (cf : S41 → S41 → Int) (l : List S41) : (insS cf l).length = l.length := by unfold insS; rw [Array.length_toList, ins_size]; rfl
theorem insS_nil (cf : S41 → S41 → Int) : insS cf [] = [] := List.length_eq_zero_iff.1 (insS_len cf [])
/-- What is asked of a comparison. -/
def CmpOk (g : Nat) (cf : S41 → S41 → Int) : Prop := ∀ (W : World) (x y : S41), Calls Try.prog g #[.agg (encS x).toArray, .agg (encS y).toArray] W fun e w' => e = .returned (.int .i64 (cf x y)) ∧ ∃ q os', w' = Sort.grow (W.drewN q) os'
/-- What a sort of a row leaves. -/
def Sorted_ (P0_ : Nat → Prop) (v : Value) (l' : List S41) (w0 w : World) (e : Ending) (w' : World) : Prop :=
  e = .returned (.tuple #[]) ∧ Kd.R k41 41 w' w0.heap.size (fun k_ => (P0_ k_ ∨ w.heap.size ≤ k_)) v l' ∧ Below w0.heap.size w0 w' ∧ Kept w w' (fun k_ => P0_ k_)
theorem sorted_refl {P0_ : Nat → Prop} {w0 w : World} (hB : Below w0.heap.size w0 w) : Sorted_ P0_ (.slice none 0 0) [] w0 w (.returned (.tuple #[])) w := ⟨rfl, Kd.R_nil _ _ _ _ _, hB, Kept.refl _ _⟩
set_option maxHeartbeats 1000000 in
set_option maxRecDepth 100000 in
theorem ins_nil (g : Nat) (w : World) : Calls Try.prog 92 #[.slice none 0 0, .int .i64 0, .int .i64 0, .func (.func g) #[] #[]] w fun e w' => e = .returned (.tuple #[]) ∧ w' = w := by
  go_enter Try.func92, Try.ntmps92
  go_wp2
  refine wp_loop_rounds 1 ?_
  rw [rounds_succ]
  go_wp2
  go_end0
  exact ⟨rfl, rfl⟩
theorem ins_calls (g : Nat) (cf : S41 → S41 → Int) (eg : ∀ args w, (callFunc g args).run Try.prog w = .ok (.enter g args) w) (hc : CmpOk g cf) (P0_ : Nat → Prop) (v : Value) (l0 : List S41) (w0 w : World) (hB : Below w0.heap.size w0 w)
    (ho0 : Kd.R k41 41 w w0.heap.size P0_ v l0) (hl : l0.length < 4611686018427387904) :
    Calls Try.prog 92 #[v, .int .i64 0, .int .i64 l0.length, .func (.func g) #[] #[]] w (Sorted_ P0_ v (insS cf l0) w0 w) := by
  rcases form41 ho0 with ⟨rfl, rfl⟩ | ⟨gb, cap, cur, rfl, hb, hok, hlt, hh, hn, hm, hs, ht⟩
  · refine (ins_nil g w).mono ?_
    rintro e w' ⟨rfl, rfl⟩
    rw [insS_nil]
    exact sorted_refl hB
  · have h := AnyQ.insertionSortCmpFunc layI 3 Try.isAgg41 Try.sizeOf41 encS (fun _ => rfl) (fun x u hu => by
        simp [encS] at hu
        rcases hu with rfl | rfl | rfl <;> rfl) cf g #[] gb 0 cap 0 l0.length l0.toArray w eg (fun m os dk _ x y => hc _ x y) (holdsK_of hh (by omega) ht) hlt (Nat.zero_le _) (by simp) (by simpa using hl)
    simp only [List.size_toArray] at h
    refine h.mono ?_
    rintro e w' ⟨rfl, n, os, rfl⟩
    generalize hr : Sort.insertionSort (ltOf cf) l0.toArray 0 l0.length = r
    have hrs : r.size = l0.length := by rw [← hr, ins_size]; rfl
    have hil : insS cf l0 = r.toList := by unfold insS; rw [hr]
    have hbut := grow_but (mapBlock_but (Sort.ahead w n) gb (putCells id 0 (flatK encS 3 r))) os
    have hbut' : But gb w (sortWorldK encS 3 w gb 0 n r os) := hbut.of_ahead
    have hh' : (Sort.ahead w n).heap[gb]? = some (.cells cur 41 (0, 0)) := hh
    refine ⟨rfl, ?_, hbut'.below hB hb, hbut'.kept hok⟩
    rw [hil]
    have hrl : r.toList.length = l0.length := Array.length_toList.trans hrs
    refine make41 hrl.symm hb (.inl hok) (grow_at os (mapBlock_at _ hh')) (by rw [hrl]; exact hn) hm (by simpa [putCells] using hs) ?_
    have hsz : (flatK encS 3 r).size = r.toList.length * 3 := by rw [size_flatK, hrl, hrs]
    have h1 := putCells_take' (flatK encS 3 r) cur (by rw [hsz, hrl, hs]; omega)
    rw [hsz] at h1
    rw [h1]
    unfold cells
    rw [Array.toArray_toList]
theorem hlen (n : Nat) (W : World) (h : n ≤ 12) : Calls Try.prog 72 #[.int .u64 n] W fun e w' => (∃ l : Int, e = .returned (.int .i64 l)) ∧ w' = W :=
  (Any.bits_Len (P := Try.prog) (ρ := Try.lays189_ren) { Try.lays189 with } n W (by omega) (by omega)).mono fun _ _ ⟨he, hw⟩ => ⟨⟨_, he⟩, hw⟩
section
variable (g : Nat) (cf : S41 → S41 → Int) (eg : ∀ args w, (callFunc g args).run Try.prog w = .ok (.enter g args) w) (hc : CmpOk g cf) (P0_ : Nat → Prop) (v : Value) (l0 : List S41) (w0 w : World) (hB : Below w0.heap.size w0 w)
  (ho0 : Kd.R k41 41 w w0.heap.size P0_ v l0) (hl : l0.length ≤ 12)
include eg hc hB ho0 hl
set_option maxHeartbeats 2000000 in
set_option maxRecDepth 100000 in
theorem stable_calls : Calls Try.prog 75 #[v, .int .i64 l0.length, .func (.func g) #[] #[]] w (Sorted_ P0_ v (insS cf l0) w0 w) := by
  have hi := ins_calls g cf eg hc P0_ v l0 w0 w hB ho0 (by omega)
  have e1 : decide ((20 : Int) ≤ (l0.length : Int)) = false := decide_eq_false (by omega)
  have e2 : decide ((20 : Int) < (l0.length : Int)) = false := decide_eq_false (by omega)
  clear hB ho0 hc
  go_enter Try.func75, Try.ntmps75
  go_wp2
  refine wp_loop_rounds 1 ?_
  rw [rounds_succ]
  go_wp2_with (go_at_call 92; refine hi.mono ?_; rintro e w' ⟨rfl, hs⟩)
  refine wp_loop_rounds 1 ?_
  rw [rounds_succ]
  go_wp2
  go_end0
  exact ⟨rfl, hs⟩
set_option maxHeartbeats 2000000 in
set_option maxRecDepth 100000 in
theorem stableFunc_calls : Calls Try.prog 56 #[v, .func (.func g) #[] #[]] w (Sorted_ P0_ v (insS cf l0) w0 w) := by
  obtain ⟨A, c, rfl⟩ := Kd.R_slice ho0
  have hi := stable_calls g cf eg hc P0_ _ l0 w0 w hB ho0 hl
  clear hB ho0 hc
  go_enter Try.func56, Try.ntmps56
  go_wp2_with (go_at_call 75; refine hi.mono ?_; rintro e w' ⟨rfl, hs⟩)
  go_end0
  exact ⟨rfl, hs⟩
set_option maxHeartbeats 2000000 in
set_option maxRecDepth 100000 in
theorem pdq_calls (lim : Int) : Calls Try.prog 76 #[v, .int .i64 0, .int .i64 l0.length, .int .i64 lim, .func (.func g) #[] #[]] w (Sorted_ P0_ v (insS cf l0) w0 w) := by
  have hi := ins_calls g cf eg hc P0_ v l0 w0 w hB ho0 (by omega)
  have e1 : decide ((l0.length : Int) ≤ 12) = true := decide_eq_true (by omega)
  clear hB ho0 hc
  go_enter Try.func76, Try.ntmps76
  go_wp2
  refine wp_loop_rounds 1 ?_
  rw [rounds_succ]
  go_wp2_with (go_at_call 92; refine hi.mono ?_; rintro e w' ⟨rfl, hs⟩)
  (try simp only [Exit.inBlock, Exit.then]); refine bodyPost_ret (results_none rfl _ _ _) rfl ?_
  exact ⟨rfl, hs⟩
set_option maxHeartbeats 2000000 in
set_option maxRecDepth 100000 in
theorem sortFunc_calls : Calls Try.prog 58 #[v, .func (.func g) #[] #[]] w (Sorted_ P0_ v (insS cf l0) w0 w) := by
  obtain ⟨A, c, rfl⟩ := Kd.R_slice ho0
  have hi := fun lim => pdq_calls g cf eg hc P0_ _ l0 w0 w hB ho0 hl lim
  have hn := hlen l0.length w hl
  clear hB ho0 hc
  go_enter Try.func58, Try.ntmps58
  go_wp2_with (first | (go_at_call 72; refine hn.mono ?_; rintro e w' ⟨⟨lz, rfl⟩, rfl⟩) | (go_at_call 76; refine (hi _).mono ?_; rintro e w' ⟨rfl, hs⟩))
  go_end0
  exact ⟨rfl, hs⟩
end
theorem i0_ : ∃ i0, Try.prog.info? 41 = some i0 ∧ i0.zero = some (.agg #[.int .i64 0, .int .i64 0, .int .i64 0]) ∧ i0.size = 3 ∧ i0.bytes = 24 := info_parts (show (Try.prog.info? 41).map (fun i => (i.zero, i.size, i.bytes)) = some (some (.agg #[.int .i64 0, .int .i64 0, .int .i64 0]), 3, 24) by kernel_rfl)
set_option maxHeartbeats 2000000 in
set_option maxRecDepth 100000 in
theorem clone_zero (a : Addr) (c : Nat) (w : World) :
    Calls Try.prog 55 #[.slice (some a) 0 c] w fun e w' => ∃ v', e = .returned v' ∧ w'.ownsRow w.heap.size 41 3 v' 0 [] ∧ Below w.heap.size w w' := by
  have t22 := Try.underlying30
  obtain ⟨i0, hi, hz0, hz1, hz2⟩ := i0_
  have q22 : ∀ (w : World) (a : Option Addr) (n c n' c' : Nat), (binOp .eql 30 (.slice a n c) (.slice none n' c')).run Try.prog w = .ok (.bool a.isNone) w := fun w a n c n' c' => Lib.run_eql_slice_nil w _ _ a n c n' c' t22
  have u22 : ∀ w, Sem.run Try.prog (underlying 30) w = .ok (TypeDesc.slice 41) w := run_underlying t22
  go_enter Try.func55, Try.ntmps55
  go_wp2_with (at_builtin; refine wpList_append_own _ rfl _ _ 30 rfl w.heap.size 41 i0 (.agg #[.int .i64 0, .int .i64 0, .int .i64 0]) 3 24 t22 hi hz0 hz1 hz2 rfl (by decide) _ _ _ rfl (World.ownsRow_made w #[] 0 (Nat.le_refl _) (Nat.zero_le _) rfl) a 0 c [] rfl rfl (by intro j u hj; simp at hj) (by intro u hu; cases hu) (by unfold maxLen; omega) (by omega) (by simp) ?_)
  intro v' w1 hown hgrow hnil
  go_wp2
  go_ret
  refine ⟨v', rfl, by simpa using hown, ?_⟩
  exact ((Below.refl _ w).alloc (Nat.le_refl _) _).grown hgrow (by simp) (by intro k hk; simp [Value.ownBlock] at hk; omega)
theorem clone_calls (A0 : Option Addr) (c0 : Nat) (l0 : List S41) (w : World) (hr0 : Kd.C k41 w A0 l0.length l0) (hc0 : l0.length ≤ c0) (hl : l0.length < 5864062014805) :
    Calls Try.prog 55 #[.slice A0 l0.length c0] w fun e w' => ∃ v0_ : Value, e = .returned (v0_) ∧ Kd.R k41 41 w' w.heap.size (fun _ => True) v0_ l0 ∧ Below w.heap.size w w' := by
  have mk : ∀ {w' : World} {v' : Value}, w'.ownsRow w.heap.size 41 3 v' l0.length (cells l0) → Kd.R k41 41 w' w.heap.size (fun _ => True) v' l0 := fun ho => ⟨fun _ _ => trivial, cells l0, ho, reps_cells (fun x => mkM41 _ _ _ x) l0⟩
  cases A0 with
  | some ad =>
    rcases Nat.eq_zero_or_pos l0.length with h | h
    · have h0 : l0 = [] := List.length_eq_zero_iff.1 h
      subst h0
      refine (clone_zero ad c0 w).mono ?_
      rintro e w' ⟨v', rfl, ho, hb⟩
      exact ⟨v', rfl, mk (by rw [show cells [] = [] from List.length_eq_zero_iff.1 (cells_len [])]; exact ho), hb⟩
    · have hg : ∀ t u, (cells l0)[t]? = some u → w.cell? (ad.add t) = some u := by
        intro t u ht
        have htl : t < l0.length * 3 := by have := (List.getElem?_eq_some_iff.1 ht).1; rwa [cells_len] at this
        have hj : t / 3 < l0.length := by omega
        obtain ⟨ad', c, e, _, hK, hc⟩ := Kd.C_get hr0 z41 ((t / 3 : Nat) : Int) (Int.natCast_nonneg _) (by omega)
        cases e
        have hx : l0.getD ((t / 3 : Nat) : Int).toNat z41 = l0[t / 3] := by rw [Int.toNat_natCast, List.getD_eq_getElem?_getD, List.getElem?_eq_getElem hj]; rfl
        rw [hx] at hK
        have ec := openK41 hK
        have e : t = t / 3 * 3 + t % 3 := by omega
        have h3 := cells_get l0 (t / 3) (t % 3) hj (Nat.mod_lt t (by omega))
        rw [← e, ht] at h3
        have := hc (t % 3) u (by rw [ec]; exact h3.symm)
        rw [Int.toNat_natCast] at this
        rw [show t / 3 * Kd.sz k41 + t % 3 = t from e.symm] at this
        exact this
      have hp : ∃ u, (cells l0)[0]? = some u := ⟨_, List.getElem?_eq_getElem (by rw [cells_len]; omega)⟩
      obtain ⟨u0, hu0⟩ := hp
      have hc0' := hg 0 u0 hu0
      have hs : ad.spot = none := by
        rw [show ad.add 0 = ad by simp [Addr.add]] at hc0'
        unfold World.cell? at hc0'
        split at hc0'
        · split at hc0'
          · cases hc0'
          · rename_i hh; simpa using hh
        · cases hc0'
      obtain ⟨b, off, sp⟩ := ad
      simp only at hs
      subst hs
      obtain ⟨i0, hi, hz0, hz1, hz2⟩ := i0_
      refine (AnyE.slices_Clone layE i0 (.agg #[.int .i64 0, .int .i64 0, .int .i64 0]) 3 24 hi hz0 hz1 hz2 rfl (by decide) Try.sizeOf41 b off l0.length c0 (cells l0) w (cells_len l0) (by unfold maxLen; omega) (by omega) (fun j u hj => ?_) (fun u hu => ?_)).mono ?_
      · have := hg j u hj
        rw [show (⟨b, off, none⟩ : Addr).add j = ⟨b, off + j, none⟩ by unfold Addr.add; split <;> simp_all] at this
        exact this
      · obtain ⟨t, ht, e⟩ := List.mem_iff_getElem.1 hu
        rw [cells_len] at ht
        have hj : t / 3 < l0.length := by omega
        have h3 := cells_get l0 (t / 3) (t % 3) hj (Nat.mod_lt t (by omega))
        rw [show t / 3 * 3 + t % 3 = t by omega, List.getElem?_eq_getElem (by rw [cells_len]; exact ht), e] at h3
        have hm := List.mem_of_getElem? h3.symm
        simp [encS] at hm
        rcases hm with rfl | rfl | rfl <;> rfl
      · rintro e w' ⟨v', rfl, ho, _, hb⟩
        exact ⟨v', rfl, mk ho, hb⟩
  | none =>
    have h0 : l0 = [] := by
      rcases Nat.eq_zero_or_pos l0.length with h | h
      · exact List.length_eq_zero_iff.1 h
      · obtain ⟨ad, e, _⟩ := hr0.2.2 h
        cases e
    subst h0
    refine (AnyE.slices_Clone_nil layE 0 c0 w).mono ?_
    rintro e w' ⟨rfl, rfl⟩
    exact ⟨_, rfl, Kd.R_nil _ _ _ _ _, Below.refl _ _⟩
/-! The comparisons of Largest. -/
open Go.Proofs.Ytcjgmofgfblmnaa.MatV (cmpI cmp_any)
def magW (x : Int) : Int := mx x (wrap64 (-x))
section
attribute [local go_sem] max2_int max_two
set_option maxHeartbeats 400000 in
theorem abs_w (x : Int) (w : World) : Calls Try.prog 46 #[.int .i64 x] w fun e w' => e = .returned (.int .i64 (magW x)) ∧ ∃ n, w' = w.drewN n := by
  obtain ⟨j, hj⟩ : ∃ j : Int, magW x = j := ⟨_, rfl⟩
  rw [hj]
  have hj2 : (if x < wrap64 (-x) then wrap64 (-x) else x) = j := hj
  have hj3 : mx x (wrap64 (-x)) = j := hj
  clear hj
  go_enter Try.func46, Try.ntmps46
  go_wp2
  go_ret
  exact ⟨by first | rfl | (simp only [← hj3]; rfl) | (simp [*]; done) | (rw [← hj2]; congr 1; congr 1; show max x (wrap64 (-x)) = _; rw [Int.max_def]; split <;> split <;> omega), ⟨0, rfl⟩⟩
end
def siz (x : S41) : Int := magW (wrap64 (x.f2 - x.f1))
/-- By size, the greatest first; by slot. -/
def cfA (x y : S41) : Int := cmpI (siz y) (siz x)
def cfB (x y : S41) : Int := cmpI x.f0 y.f0
theorem grown2 (W : World) (o1 o2 : Obj) (n : Nat) : ∃ q os', ((W.alloc o1).alloc o2).drewN n = Sort.grow (W.drewN q) os' := ⟨n, #[o1] ++ #[o2], by rw [alloc_eq_grow, alloc_eq_grow, grow_grow]; rfl⟩
set_option maxHeartbeats 1000000 in
set_option maxRecDepth 100000 in
theorem cfB_ok : CmpOk 59 cfB := by
  intro W x y
  have hcon := fun W' => cmp_any x.f0 y.f0 W'
  unfold cfB
  generalize cmpI x.f0 y.f0 = r at hcon ⊢
  show Calls _ _ #[.agg #[.int .i64 x.f0, .int .i64 x.f1, .int .i64 x.f2], .agg #[.int .i64 y.f0, .int .i64 y.f1, .int .i64 y.f2]] _ _
  go_enter Try.func59, Try.ntmps59
  go_wp2_with (go_at_call 53; refine (hcon _).mono ?_; rintro e w' ⟨rfl, nq, rfl⟩)
  go_ret
  exact ⟨rfl, nq, _, by rw [alloc_eq_grow, alloc_eq_grow, grow_grow]; rfl⟩
set_option maxHeartbeats 2000000 in
set_option maxRecDepth 100000 in
theorem cfA_ok : CmpOk 57 cfA := by
  intro W x y
  have ha1 := fun W' => abs_w (wrap64 (x.f2 - x.f1)) W'
  have ha2 := fun W' => abs_w (wrap64 (y.f2 - y.f1)) W'
  have hcon := fun W' => cmp_any (siz y) (siz x) W'
  unfold cfA
  unfold siz at hcon ⊢
  generalize cmpI (magW (wrap64 (y.f2 - y.f1))) (magW (wrap64 (x.f2 - x.f1))) = r at hcon ⊢
  generalize magW (wrap64 (x.f2 - x.f1)) = mX at ha1 hcon
  generalize magW (wrap64 (y.f2 - y.f1)) = mY at ha2 hcon
  show Calls _ _ #[.agg #[.int .i64 x.f0, .int .i64 x.f1, .int .i64 x.f2], .agg #[.int .i64 y.f0, .int .i64 y.f1, .int .i64 y.f2]] _ _
  have hb1 : ∀ W', Calls Try.prog 46 #[.int .i64 (IntKind.i64.wrap (x.f2 - x.f1))] W' (fun e w' => e = .returned (.int .i64 mX) ∧ ∃ n, w' = W'.drewN n) := fun W' => by rw [i64_w]; exact ha1 W'
  have hb2 : ∀ W', Calls Try.prog 46 #[.int .i64 (IntKind.i64.wrap (y.f2 - y.f1))] W' (fun e w' => e = .returned (.int .i64 mY) ∧ ∃ n, w' = W'.drewN n) := fun W' => by rw [i64_w]; exact ha2 W'
  clear ha1 ha2
  go_enter Try.func57, Try.ntmps57
  go_wp2_with fail
  go_region_held3 (fun w' => w'.cell? ⟨W.heap.size, 2, none⟩ = some (.int .i64 x.f2) ∧ w'.cell? ⟨W.heap.size, 1, none⟩ = some (.int .i64 x.f1) ∧ w'.cell? ⟨W.heap.size + 1, 2, none⟩ = some (.int .i64 y.f2) ∧ w'.cell? ⟨W.heap.size + 1, 1, none⟩ = some (.int .i64 y.f1))
    (go_keep)
    ((first
      | (go_at_call 53; (with_reducible refine (hcon _).mono ?_); rintro e w' ⟨rfl, nq, rfl⟩)
      | (go_at_call 46; (with_reducible refine (hb1 _).mono ?_); rintro e w' ⟨rfl, nq, rfl⟩)
      | (go_at_call 46; (with_reducible refine (hb2 _).mono ?_); rintro e w' ⟨rfl, nq, rfl⟩)))
  go_wp2
  go_ret
  exact ⟨rfl, grown2 _ _ _ _⟩
end Go.Proofs.Ytcjgmofgfblmnaa.HandE
