/- The closure of 'solve', and slices.DeleteFunc over it: contracts proved by hand. -/
import Derived.Test.YtiimanpmidnffaaHand
import Derived.Test.YtiimanpmidnffaaLayF
import Derived.Test.YtiimanpmidnffaaQx0
namespace Go.Proofs.Ytiimanpmidnffaa.Q
open Go.RowKit Go.Shelf Go.Sort Go.Proofs.Ytiimanpmidnffaa.Hand Go.Proofs.YtiimanpmidnffaaW.PrintWords Go.Proofs.YtiimanpmidnffaaW.PrintLast Go.Proofs.YtiimanpmidnffaaW.PrintMore
attribute [local go_sem] max2_int min2_int max_two min_two max_three min_three max_four min_four
set_option linter.unusedVariables false
set_option linter.unusedSimpArgs false
set_option maxHeartbeats 8000000 in
set_option maxRecDepth 100000 in
theorem f50_calls (w : World) (g1 g2 g3 n1 c1 n2 c2 : Nat) (a1 a2 : Addr) (s m f q : Int)
    (h1 : w.cell? ⟨g1, 0, none⟩ = some (.slice (some a1) n1 c1)) (h2 : w.cell? ⟨g2, 0, none⟩ = some (.slice (some a2) n2 c2)) (h3 : w.cell? ⟨g3, 0, none⟩ = some (.int .i64 m))
    (k0 : 0 ≤ s) (k1 : s < (n1 : Int)) (k2 : s < (n2 : Int)) (e1 : w.cell? (a1.add (s.toNat * 2)) = some (.int .i64 f)) (e2 : w.cell? (a2.add s.toNat) = some (.int .i64 q)) :
    Calls Try.prog 50 #[.int .i64 s, .pointer (some ⟨g1, 0, none⟩), .pointer (some ⟨g2, 0, none⟩), .pointer (some ⟨g3, 0, none⟩)] w fun e w' => e = .returned (.bool (decide (wrap64 (f + q) > m))) ∧ ∃ n, w' = w.drewN n := by
  have hu74 := Try.underlying74
  replace k0 := eq_true k0
  replace k1 := eq_true k1
  replace k2 := eq_true k2
  go_enter Try.func50, Try.ntmps50
  go_wp2
  repeat (go_quiet (fail); try go_wp2)
  go_ret
  exact ⟨by first | rfl | (simp; done) | (simp [*]; done), by first | exact ⟨0, rfl⟩ | exact ⟨1, rfl⟩ | exact ⟨_, rfl⟩⟩
theorem putCells_takeG {α : Type} [Inhabited α] (enc : α → Value) (d : List α) (c : Array Value) (h : d.length ≤ c.size) : (putCells enc 0 d.toArray c).toList.take d.length = d.map enc := by
  apply List.ext_getElem?
  intro j
  rw [List.getElem?_take]
  split
  · rename_i hj
    have hc : j < c.size := by omega
    simp only [putCells, Array.getElem?_toList, Array.getElem?_mapIdx, Array.getElem?_eq_getElem hc, Option.map_some, List.getElem?_map, List.getElem?_eq_getElem hj]
    have h2 : (0 ≤ j ∧ j < 0 + d.toArray.size) := ⟨Nat.zero_le _, by simpa using hj⟩
    rw [if_pos h2]
    simp [hj, getElem!_pos]
  · rename_i hj
    rw [List.getElem?_eq_none (by simp; omega)]
/-- An index that both rows have. -/
abbrev Ix (n1 n2 : Nat) : Type := {i : Int // 0 ≤ i ∧ i < (n1 : Int) ∧ i < (n2 : Int)}
def encIx (n1 n2 : Nat) (i : Ix n1 n2) : Value := .int .i64 i.1
theorem prune_calls (P0_ : Nat → Prop) (v : Value) (l0 : List Int) (w0 w : World) (hB : Below w0.heap.size w0 w) (ho0 : Kd.R (Kd.int .i64) 3 w w0.heap.size P0_ v l0) (hne : l0 ≠ [])
    (g1 g2 g3 n1 c1 n2 c2 : Nat) (a1 a2 : Addr) (m : Int) (F Q : Int → Int)
    (h1 : w.cell? ⟨g1, 0, none⟩ = some (.slice (some a1) n1 c1)) (h2 : w.cell? ⟨g2, 0, none⟩ = some (.slice (some a2) n2 c2)) (h3 : w.cell? ⟨g3, 0, none⟩ = some (.int .i64 m))
    (hF : ∀ s : Int, 0 ≤ s → s < (n1 : Int) → w.cell? (a1.add (s.toNat * 2)) = some (.int .i64 (F s))) (hQ : ∀ s : Int, 0 ≤ s → s < (n2 : Int) → w.cell? (a2.add s.toNat) = some (.int .i64 (Q s)))
    (d1 : ∀ k, some k = v.ownBlock → k ≠ g1) (d2 : ∀ k, some k = v.ownBlock → k ≠ g2) (d3 : ∀ k, some k = v.ownBlock → k ≠ g3) (d4 : ∀ k, some k = v.ownBlock → a1.block ≠ k) (d5 : ∀ k, some k = v.ownBlock → a2.block ≠ k)
    (hl : ∀ x ∈ l0, 0 ≤ x ∧ x < (n1 : Int) ∧ x < (n2 : Int)) :
    Calls Try.prog 49 #[v, .func (.func 50) #[] #[.pointer (some ⟨g1, 0, none⟩), .pointer (some ⟨g2, 0, none⟩), .pointer (some ⟨g3, 0, none⟩)]] w fun e w' => ∃ v0_ : Value, e = .returned v0_ ∧ Kd.R (Kd.int .i64) 3 w' w0.heap.size P0_ v0_ (l0.filter fun s => !decide (wrap64 (F s + Q s) > m)) ∧ Below w0.heap.size w0 w' ∧ w.grownBy w' v.ownBlock ∧ v0_.ownBlock = v.ownBlock := by
  rcases form ho0 with ⟨rfl, rfl⟩ | ⟨g, cap, cur, rfl, hb, hok, hlt, hh, hn, hm, hs, ht⟩
  · exact absurd rfl hne
  · have ow : (Value.slice (some ⟨g, 0, none⟩) l0.length cap).ownBlock = some g := rfl
    rw [ow] at d1 d2 d3 d4 d5
    obtain ⟨x0, hx0⟩ := List.exists_mem_of_ne_nil l0 hne
    have hb0 := hl x0 hx0
    have z0 : (0 : Int) ≤ 0 ∧ (0 : Int) < (n1 : Int) ∧ (0 : Int) < (n2 : Int) := ⟨Int.le_refl _, by omega, by omega⟩
    letI : Inhabited (Ix n1 n2) := ⟨⟨0, z0⟩⟩
    let d : List (Ix n1 n2) := l0.attach.map fun x => ⟨x.1, hl x.1 x.2⟩
    let p : Ix n1 n2 → Bool := fun i => decide (wrap64 (F i.1 + Q i.1) > m)
    have hdl : d.length = l0.length := by show (List.map _ _).length = _; rw [List.length_map, List.length_attach]
    have hdm : d.map (encIx n1 n2) = l0.map (Value.int .i64) := by
      apply List.ext_getElem
      · exact (List.length_map ..).trans (hdl.trans (List.length_map ..).symm)
      · intro i h1 h2
        simp [d, encIx]
    have hgive : ∀ (W : World) (x : Ix n1 n2), W.cell? ⟨g1, 0, none⟩ = some (.slice (some a1) n1 c1) → W.cell? ⟨g2, 0, none⟩ = some (.slice (some a2) n2 c2) → W.cell? ⟨g3, 0, none⟩ = some (.int .i64 m) →
        W.cell? (a1.add (x.1.toNat * 2)) = some (.int .i64 (F x.1)) → W.cell? (a2.add x.1.toNat) = some (.int .i64 (Q x.1)) →
        FnGives Try.prog 50 #[.pointer (some ⟨g1, 0, none⟩), .pointer (some ⟨g2, 0, none⟩), .pointer (some ⟨g3, 0, none⟩)] #[encIx n1 n2 x] (.bool (p x)) W := by
      intro W x q1 q2 q3 q4 q5
      exact f50_calls W g1 g2 g3 n1 c1 n2 c2 a1 a2 x.1 m (F x.1) (Q x.1) q1 q2 q3 x.2.1 x.2.2.1 x.2.2.2 q4 q5
    have add1 : ∀ (a : Addr) (k : Nat), (a.add k).block = a.block := fun a k => by unfold Addr.add; split <;> rfl
    have hfrom : ∀ (W : World), (∀ k, k < w.heap.size → k ≠ g → W.heap[k]? = w.heap[k]?) → ∀ x : Ix n1 n2, FnGives Try.prog 50 #[.pointer (some ⟨g1, 0, none⟩), .pointer (some ⟨g2, 0, none⟩), .pointer (some ⟨g3, 0, none⟩)] #[encIx n1 n2 x] (.bool (p x)) W := by
      intro W hW x
      have mv : ∀ (a : Addr) (u : Value), a.block ≠ g → w.cell? a = some u → W.cell? a = some u := fun a u ha hc =>
        (World.cell?_of_block (hW a.block (World.block_lt_of_cell? w a hc) ha)).trans hc
      exact hgive W x (mv _ _ (Ne.symm (d1 g rfl)) h1) (mv _ _ (Ne.symm (d2 g rfl)) h2) (mv _ _ (Ne.symm (d3 g rfl)) h3) (mv _ _ (by rw [add1]; exact d4 g rfl) (hF x.1 x.2.1 x.2.2.1)) (mv _ _ (by rw [add1]; exact d5 g rfl) (hQ x.1 x.2.1 x.2.2.2))
    have hPA : PredAt Try.prog 50 #[.pointer (some ⟨g1, 0, none⟩), .pointer (some ⟨g2, 0, none⟩), .pointer (some ⟨g3, 0, none⟩)] (encIx n1 n2) p w := fun W x hW => hfrom W (fun k hk _ => hW.block k hk) x
    have hPO : PredOver Try.prog 50 #[.pointer (some ⟨g1, 0, none⟩), .pointer (some ⟨g2, 0, none⟩), .pointer (some ⟨g3, 0, none⟩)] (encIx n1 n2) p g 0 d.toArray.size w := fun n os dk x _ =>
      hfrom _ (fun k hk hkg => (grow_but (mapBlock_but (Sort.ahead w n) g (putCells (encIx n1 n2) 0 dk)) os).of_ahead.block k hk hkg) x
    have hH : Holds (encIx n1 n2) w g 0 d.toArray := by
      intro j hj
      have hj' : j < l0.length := by simpa [hdl] using hj
      have h := holds_of hh (by omega) ht j (by simpa using hj')
      refine ⟨?_, h.2⟩
      rw [h.1]
      simp [d, hj', getElem!_pos, encIx]
    have hbd : Bears Try.prog 50 Try.f50 := ⟨Try.f50.name, by kernel_rfl, Try.func50⟩
    have heg : ∀ args w, (callFunc 50 args).run Try.prog w = .ok (.enter 50 args) w := hbd.enters rfl
    have hsz : d.toArray.size = l0.length := by simp [hdl]
    have hcall := AnyE.slices_DeleteFunc layF (encIx n1 n2) (fun _ => rfl) p 50 #[.pointer (some ⟨g1, 0, none⟩), .pointer (some ⟨g2, 0, none⟩), .pointer (some ⟨g3, 0, none⟩)] heg ⟨0, z0⟩ Try.zeroValue3 g 0 cap d.toArray w hPA hPO hH (by rw [hsz]; omega) (by rw [hsz]; exact hn)
    rw [hsz] at hcall
    refine hcall.mono ?_
    rintro e w' ⟨rfl, q, rfl⟩
    generalize hfd0 : (d.toArray.toList.filter fun x => !p x) = fd
    have hfd : fd.map (fun i : Ix n1 n2 => i.1) = l0.filter fun s => !decide (wrap64 (F s + Q s) > m) := by
      rw [← hfd0]
      show ((l0.attach.map fun x => (⟨x.1, hl x.1 x.2⟩ : Ix n1 n2)).filter fun x => !p x).map (fun i : Ix n1 n2 => i.1) = _
      rw [List.filter_map, List.map_map]
      have := List.filter_map (f := Subtype.val) (p := fun s => !decide (wrap64 (F s + Q s) > m)) (l := l0.attach)
      rw [List.attach_map_subtype_val] at this
      exact this.symm
    generalize hz : (l0.filter fun s => !decide (wrap64 (F s + Q s) > m)) = z at hfd ⊢
    have hlen : fd.length = z.length := by rw [← hfd, List.length_map]
    have hmz : fd.map (encIx n1 n2) = z.map (Value.int .i64) := by rw [← hfd, List.map_map]; rfl
    have hzl : z.length ≤ l0.length := by rw [← hz]; exact List.length_filter_le _ _
    have hbut : But g w (putRow (encIx n1 n2) (Sort.ahead w q) g 0 (fd ++ List.replicate (l0.length - fd.length) (⟨0, z0⟩ : Ix n1 n2)).toArray) := (mapBlock_but (Sort.ahead w q) g _).of_ahead
    have hlen2 : (fd ++ List.replicate (l0.length - fd.length) (⟨0, z0⟩ : Ix n1 n2)).length = l0.length := by rw [List.length_append, List.length_replicate]; omega
    refine ⟨_, rfl, ?_, hbut.below hB hb, ⟨hbut.os, hbut.tape, hbut.output, hbut.size, fun k hk hkn => hbut.block k hk (fun e => hkn (by rw [e]; rfl))⟩, rfl⟩
    have hh' : (Sort.ahead w q).heap[g]? = some (.cells cur 3 (0, 0)) := hh
    refine make hlen hb hok (mapBlock_at _ hh') (by omega) hm (by simpa [putCells] using hs) ?_
    have t1 := putCells_takeG (encIx n1 n2) (fd ++ List.replicate (l0.length - fd.length) (⟨0, z0⟩ : Ix n1 n2)) cur (by rw [hlen2]; omega)
    have t2 := congrArg (List.take z.length) t1
    rw [List.take_take, Nat.min_eq_left (by rw [hlen2]; omega)] at t2
    refine t2.trans ?_
    rw [List.map_append, hmz]
    exact List.take_left' (by rw [List.length_map])
end Go.Proofs.Ytiimanpmidnffaa.Q
