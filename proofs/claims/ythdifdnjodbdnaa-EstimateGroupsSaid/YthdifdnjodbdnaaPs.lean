/- A story as an argument, opened; plain laws of stories: the times, the spans, the traces. -/
import Derived.Test.YthdifdnjodbdnaaTy
import Derived.Deep.Slices
import Derived.ChangeArms
import Derived.OpenShut
import Derived.Test.YthdifdnjodbdnaaTm
import Derived.Test.YthdifdnjodbdnaaQgTrs
import Derived.Test.YthdifdnjodbdnaaQgSh
namespace Go.Proofs.Ythdifdnjodbdnaa.RowS
open Go.RowKit Go.Proofs.YthdifdnjodbdnaaW.PrintWords Go.Proofs.YthdifdnjodbdnaaW.PrintLast Go.Proofs.YthdifdnjodbdnaaW.PrintMore Go.Proofs.Ythdifdnjodbdnaa.Q
set_option linter.unusedVariables false
set_option linter.unusedSimpArgs false
set_option linter.unusedSimpArgs false
def U8 (x : Int) : Prop := 0 ≤ x ∧ x ≤ 255
def I8 (x : Int) : Prop := -128 ≤ x ∧ x ≤ 127
def CallOk (c : S153) : Prop := U8 c.f0 ∧ U8 c.f1 ∧ U8 c.f2 ∧ U8 c.f3 ∧ U8 c.f4 ∧ U8 c.f5 ∧ U8 c.f6 ∧ U8 c.f7 ∧ U8 c.f8 ∧ U8 c.f9
def TreeOk (t : S104) : Prop := U8 t.f0 ∧ U8 t.f1 ∧ ∀ c ∈ t.f2, CallOk c
def SyncOk (y : S193) : Prop := U8 y.f0 ∧ U8 y.f1 ∧ U8 y.f2 ∧ U8 y.f3 ∧ U8 y.f4
section
variable {H : Type} {enc : TypeId × Value → H} {w : World}
theorem u8_of {x : Int} (h : (Lit.int .u8 x).wf = true) : U8 x := by
  simp [Lit.wf, IntKind.min, IntKind.max, IntKind.signed, IntKind.bits] at h
  exact ⟨by omega, by omega⟩
theorem i8_of {x : Int} (h : (Lit.int .i8 x).wf = true) : I8 x := by
  simp [Lit.wf, IntKind.min, IntKind.max, IntKind.signed, IntKind.bits] at h
  exact ⟨by omega, by omega⟩
theorem one_u8 {n : Nat} {c : Value} {x : DataW H × List MemPlace} (h : DataW.trod enc Try.prog w 0 (fun _ => true) true n 5 [c] = some x) : ∃ k, c = .int .u8 k ∧ U8 k := by
  obtain ⟨k, e, _, hw⟩ := DataW.trod_int Try.underlying5 h
  exact ⟨k, by simpa using e, u8_of hw⟩
theorem one_i8 {n : Nat} {c : Value} {x : DataW H × List MemPlace} (h : DataW.trod enc Try.prog w 0 (fun _ => true) true n 23 [c] = some x) : ∃ k, c = .int .i8 k ∧ I8 k := by
  obtain ⟨k, e, _, hw⟩ := DataW.trod_int Try.underlying23 h
  exact ⟨k, by simpa using e, i8_of hw⟩
theorem one_bool {n : Nat} {c : Value} {x : DataW H × List MemPlace} (h : DataW.trod enc Try.prog w 0 (fun _ => true) true n 4 [c] = some x) : ∃ b, c = .bool b := by
  obtain ⟨k, e, _⟩ := DataW.trod_bool Try.underlying4 h
  exact ⟨k, by simpa using e⟩
/-- A slice whose elements are told. -/
theorem open_rows {α : Type} [Inhabited α] (d : Kd α) {t e : TypeId} (hsz : Try.prog.cellsOf e = d.sz) (ht : Try.prog.underlying t = some (.slice e)) (Good : α → Prop)
    (el : ∀ n cs x, cs.length = d.sz → DataW.trod enc Try.prog w 0 (fun _ => true) true n e cs = some x → ∃ s, d.K w s cs ∧ Good s) {fuel len cap : Nat} {a : Option Addr} {x : DataW H × List MemPlace} (h : DataW.trod enc Try.prog w 0 (fun _ => true) true fuel t [.slice a len cap] = some x) :
    ∃ l : List α, l.length = len ∧ Kd.C d w a l.length l ∧ l.length ≤ cap ∧ ∀ s ∈ l, Good s := by
  rcases Go.Deep.open_slice ht h with ⟨hcs, _⟩ | ⟨ad, len', cap', m, n, D, Pl, hcs, _, hlc, hcm, hm, _, hx⟩
  · simp at hcs
    obtain ⟨rfl, rfl, rfl⟩ := hcs
    exact ⟨[], rfl, ⟨rfl, by simp, fun h => absurd h (by simp)⟩, Nat.le_refl _, fun _ h => by cases h⟩
  · simp at hcs
    obtain ⟨rfl, rfl, rfl⟩ := hcs
    have hlm : len ≤ m := by rw [hm]; split <;> omega
    obtain ⟨f, hf⟩ := Go.Deep.choose_lt (α := α × List Value) (n := len) (p := fun i s => w.cells? 0 (ad.add (i * d.sz)) d.sz = some s.2 ∧ d.K w s.1 s.2 ∧ Good s.1) (fun i hi => by
      obtain ⟨cs', h1, h2⟩ := hx i (by omega)
      rw [hsz] at h1
      obtain ⟨s, hk, hb⟩ := el _ _ _ (World.cells?_some h1).2.1 h2
      exact ⟨(s, cs'), h1, hk, hb⟩)
    have hlen : ((List.range len).map fun i => (f i).1).length = len := by simp
    refine ⟨(List.range len).map fun i => (f i).1, hlen, ⟨rfl, by rw [hlen]; exact Nat.le_trans hlc (Nat.le_trans hcm (by decide)), fun _ => ⟨ad, rfl, fun j p hj => ?_⟩⟩, by rw [hlen]; exact hlc, fun x hx => ?_⟩
    rotate_left
    · obtain ⟨i, hi, rfl⟩ := List.mem_map.1 hx
      exact (hf i (List.mem_range.1 hi)).2.2
    obtain ⟨hj1, hj2⟩ := List.getElem?_eq_some_iff.1 hj
    have hj3 : j < len := by rw [hlen] at hj1; exact hj1
    have ep : p = (f j).1 := by rw [← hj2]; simp
    subst ep
    refine ⟨(f j).2, (World.cells?_some (hf j hj3).1).2.1, (hf j hj3).2.1, fun i u hu => ?_⟩
    obtain ⟨hi1, _⟩ := List.getElem?_eq_some_iff.1 hu
    have h3 := (World.cells?_some (hf j hj3).1).2.2 i (by rw [← (World.cells?_some (hf j hj3).1).2.1]; exact hi1)
    rw [hu, Go.Deep.add_add] at h3
    exact h3
instance : Inhabited S153 := ⟨z153⟩
instance : Inhabited S104 := ⟨z104⟩
instance : Inhabited S193 := ⟨z193⟩
theorem list11 {α : Type} {cs : List α} (h : cs.length = 11) : ∃ c0 c1 c2 c3 c4 c5 c6 c7 c8 c9 c10, cs = [c0, c1, c2, c3, c4, c5, c6, c7, c8, c9, c10] := by
  match cs, h with
  | [c0, c1, c2, c3, c4, c5, c6, c7, c8, c9, c10], _ => exact ⟨_, _, _, _, _, _, _, _, _, _, _, rfl⟩
theorem list5 {α : Type} {cs : List α} (h : cs.length = 5) : ∃ c0 c1 c2 c3 c4, cs = [c0, c1, c2, c3, c4] := by
  match cs, h with
  | [c0, c1, c2, c3, c4], _ => exact ⟨_, _, _, _, _, rfl⟩
theorem list3 {α : Type} {cs : List α} (h : cs.length = 3) : ∃ c0 c1 c2, cs = [c0, c1, c2] := by
  match cs, h with
  | [c0, c1, c2], _ => exact ⟨_, _, _, rfl⟩
theorem cellsU8 : Try.prog.cellsOf 5 = 1 := by kernel_rfl
theorem cellsB : Try.prog.cellsOf 4 = 1 := by kernel_rfl
theorem cellsI8 : Try.prog.cellsOf 23 = 1 := by kernel_rfl
theorem fld_u8 {cs : List Value} {o n : Nat} {c : Value} {y : Option (DataW H × List MemPlace)} (g : DataW.trod enc Try.prog w 0 (fun _ => true) true n 5 ((cs.drop o).take (Try.prog.cellsOf 5)) = y) (hy : ∃ z, y = some z) (e : (cs.drop o).take 1 = [c]) : ∃ k, c = .int .u8 k ∧ U8 k := by
  obtain ⟨z, rfl⟩ := hy
  rw [cellsU8, e] at g
  exact one_u8 g
theorem fld_bool {cs : List Value} {o n : Nat} {c : Value} {y : Option (DataW H × List MemPlace)} (g : DataW.trod enc Try.prog w 0 (fun _ => true) true n 4 ((cs.drop o).take (Try.prog.cellsOf 4)) = y) (hy : ∃ z, y = some z) (e : (cs.drop o).take 1 = [c]) : ∃ b, c = .bool b := by
  obtain ⟨z, rfl⟩ := hy
  rw [cellsB, e] at g
  exact one_bool g
theorem has {α : Type} {xs : List α} {m i : Nat} (hz : xs.length = m) (hi : i < m) : ∃ z, xs[i]? = some z := ⟨_, List.getElem?_eq_getElem (by rw [hz]; exact hi)⟩
set_option maxRecDepth 100000 in
theorem call_of {n : Nat} {cs : List Value} {x : DataW H × List MemPlace} (hl : cs.length = k153.sz) (h : DataW.trod enc Try.prog w 0 (fun _ => true) true n 153 cs = some x) : ∃ s, k153.K w s cs ∧ CallOk s := by
  obtain ⟨xs, m, _, _, _, hz, hg⟩ := DataW.trod_struct Try.underlying153 h
  obtain ⟨c0, c1, c2, c3, c4, c5, c6, c7, c8, c9, c10, rfl⟩ := list11 (show cs.length = 11 from hl)
  obtain ⟨k0, rfl, w0⟩ := fld_u8 (hg 0 _ rfl) (has hz (by decide)) rfl
  obtain ⟨k1, rfl, w1⟩ := fld_u8 (hg 1 _ rfl) (has hz (by decide)) rfl
  obtain ⟨k2, rfl, w2⟩ := fld_u8 (hg 2 _ rfl) (has hz (by decide)) rfl
  obtain ⟨k3, rfl, w3⟩ := fld_u8 (hg 3 _ rfl) (has hz (by decide)) rfl
  obtain ⟨k4, rfl, w4⟩ := fld_u8 (hg 4 _ rfl) (has hz (by decide)) rfl
  obtain ⟨k5, rfl, w5⟩ := fld_u8 (hg 5 _ rfl) (has hz (by decide)) rfl
  obtain ⟨k6, rfl, w6⟩ := fld_u8 (hg 6 _ rfl) (has hz (by decide)) rfl
  obtain ⟨k7, rfl, w7⟩ := fld_u8 (hg 7 _ rfl) (has hz (by decide)) rfl
  obtain ⟨k8, rfl, w8⟩ := fld_u8 (hg 8 _ rfl) (has hz (by decide)) rfl
  obtain ⟨k9, rfl, w9⟩ := fld_u8 (hg 9 _ rfl) (has hz (by decide)) rfl
  obtain ⟨b, rfl⟩ := fld_bool (hg 10 _ rfl) (has hz (by decide)) rfl
  exact ⟨⟨k0, k1, k2, k3, k4, k5, k6, k7, k8, k9, b⟩, k153_mk w ⟨k0, k1, k2, k3, k4, k5, k6, k7, k8, k9, b⟩, w0, w1, w2, w3, w4, w5, w6, w7, w8, w9⟩
set_option maxRecDepth 100000 in
theorem sync_of {n : Nat} {cs : List Value} {x : DataW H × List MemPlace} (hl : cs.length = k193.sz) (h : DataW.trod enc Try.prog w 0 (fun _ => true) true n 193 cs = some x) : ∃ s, k193.K w s cs ∧ SyncOk s := by
  obtain ⟨xs, m, _, _, _, hz, hg⟩ := DataW.trod_struct Try.underlying193 h
  obtain ⟨c0, c1, c2, c3, c4, rfl⟩ := list5 (show cs.length = 5 from hl)
  obtain ⟨k0, rfl, w0⟩ := fld_u8 (hg 0 _ rfl) (has hz (by decide)) rfl
  obtain ⟨k1, rfl, w1⟩ := fld_u8 (hg 1 _ rfl) (has hz (by decide)) rfl
  obtain ⟨k2, rfl, w2⟩ := fld_u8 (hg 2 _ rfl) (has hz (by decide)) rfl
  obtain ⟨k3, rfl, w3⟩ := fld_u8 (hg 3 _ rfl) (has hz (by decide)) rfl
  obtain ⟨k4, rfl, w4⟩ := fld_u8 (hg 4 _ rfl) (has hz (by decide)) rfl
  exact ⟨⟨k0, k1, k2, k3, k4⟩, k193_mk w ⟨k0, k1, k2, k3, k4⟩, w0, w1, w2, w3, w4⟩
theorem cells22 : Try.prog.cellsOf 22 = 1 := by kernel_rfl
theorem cells102 : Try.prog.cellsOf 102 = 1 := by kernel_rfl
theorem cells25 : Try.prog.cellsOf 25 = 1 := by kernel_rfl
theorem cells24 : Try.prog.cellsOf 24 = 4 := by kernel_rfl
/-- What reads as a slice is one. -/
theorem is_slice {t e : TypeId} {n : Nat} {c : Value} {x : DataW H × List MemPlace} (ht : Try.prog.underlying t = some (.slice e)) (h : DataW.trod enc Try.prog w 0 (fun _ => true) true n t [c] = some x) : ∃ a len cap, c = .slice a len cap := by
  rcases Go.Deep.open_slice ht h with ⟨hcs, _⟩ | ⟨ad, len', cap', m, n, D, Pl, hcs, _⟩
  · exact ⟨_, _, _, by simpa using hcs⟩
  · exact ⟨_, _, _, by simpa using hcs⟩
theorem calls_of {n : Nat} {c : Value} {x : DataW H × List MemPlace} (h : DataW.trod enc Try.prog w 0 (fun _ => true) true n 102 [c] = some x) : ∃ a cap, ∃ l : List S153, c = .slice a l.length cap ∧ Kd.C k153 w a l.length l ∧ l.length ≤ cap ∧ ∀ s ∈ l, CallOk s := by
  obtain ⟨a, len, cap, rfl⟩ := is_slice Try.underlying102 h
  obtain ⟨l, rfl, h1, h2, h3⟩ := open_rows k153 (by kernel_rfl) Try.underlying102 CallOk (fun n cs x => call_of) h
  exact ⟨a, cap, l, rfl, h1, h2, h3⟩
set_option maxRecDepth 100000 in
theorem tree_of {n : Nat} {cs : List Value} {x : DataW H × List MemPlace} (hl : cs.length = k104.sz) (h : DataW.trod enc Try.prog w 0 (fun _ => true) true n 104 cs = some x) : ∃ s, k104.K w s cs ∧ TreeOk s := by
  obtain ⟨xs, m, _, _, _, hz, hg⟩ := DataW.trod_struct Try.underlying104 h
  obtain ⟨c0, c1, c2, rfl⟩ := list3 (show cs.length = 3 from hl)
  obtain ⟨k0, rfl, w0⟩ := fld_u8 (hg 0 _ rfl) (has hz (by decide)) rfl
  obtain ⟨k1, rfl, w1⟩ := fld_u8 (hg 1 _ rfl) (has hz (by decide)) rfl
  have g := hg 2 _ rfl
  obtain ⟨z, hz2⟩ := has hz (i := 2) (by decide)
  rw [hz2] at g
  have g' : DataW.trod enc Try.prog w 0 (fun _ => true) true m 102 [c2] = some z := by
    have e : DataW.trod enc Try.prog w 0 (fun _ => true) true m 102 (([.int .u8 k0, .int .u8 k1, c2].drop 2).take (Try.prog.cellsOf 102)) = some z := g
    rw [cells102] at e
    exact e
  obtain ⟨a, cap, l, rfl, h1, h2, h3⟩ := calls_of g'
  exact ⟨⟨k0, k1, l⟩, k104_mk w ⟨k0, k1, l⟩ h2 h1, w0, w1, h3⟩
theorem trees_of {n : Nat} {c : Value} {x : DataW H × List MemPlace} (h : DataW.trod enc Try.prog w 0 (fun _ => true) true n 22 [c] = some x) : ∃ a cap, ∃ l : List S104, c = .slice a l.length cap ∧ Kd.C k104 w a l.length l ∧ l.length ≤ cap ∧ ∀ s ∈ l, TreeOk s := by
  obtain ⟨a, len, cap, rfl⟩ := is_slice Try.underlying22 h
  obtain ⟨l, rfl, h1, h2, h3⟩ := open_rows k104 (by kernel_rfl) Try.underlying22 TreeOk (fun n cs x => tree_of) h
  exact ⟨a, cap, l, rfl, h1, h2, h3⟩
theorem syncs_of {n : Nat} {c : Value} {x : DataW H × List MemPlace} (h : DataW.trod enc Try.prog w 0 (fun _ => true) true n 25 [c] = some x) : ∃ a cap, ∃ l : List S193, c = .slice a l.length cap ∧ Kd.C k193 w a l.length l ∧ l.length ≤ cap ∧ ∀ s ∈ l, SyncOk s := by
  obtain ⟨a, len, cap, rfl⟩ := is_slice Try.underlying25 h
  obtain ⟨l, rfl, h1, h2, h3⟩ := open_rows k193 (by kernel_rfl) Try.underlying25 SyncOk (fun n cs x => sync_of) h
  exact ⟨a, cap, l, rfl, h1, h2, h3⟩
theorem list4 {α : Type} {cs : List α} (h : cs.length = 4) : ∃ c0 c1 c2 c3, cs = [c0, c1, c2, c3] := by
  match cs, h with
  | [c0, c1, c2, c3], _ => exact ⟨_, _, _, _, rfl⟩
theorem offs_of {n : Nat} {cs : List Value} {x : DataW H × List MemPlace} (hl : cs.length = 4) (h : DataW.trod enc Try.prog w 0 (fun _ => true) true n 24 cs = some x) : ∃ o1 o2 o3 o4, cs = [.int .i8 o1, .int .i8 o2, .int .i8 o3, .int .i8 o4] ∧ I8 o1 ∧ I8 o2 ∧ I8 o3 ∧ I8 o4 := by
  obtain ⟨c0, c1, c2, c3, rfl⟩ := list4 hl
  obtain ⟨xs, n, _, _, _, hz, hg⟩ := DataW.trod_array Try.underlying24 h
  have get : ∀ (i : Nat) (c : Value), i < 4 → ([c0, c1, c2, c3].drop i).take 1 = [c] → ∃ m, c = .int .i8 m ∧ I8 m := by
    intro i c hi e
    have g := hg i hi
    obtain ⟨y, hy⟩ : ∃ y, xs[i]? = some y := ⟨_, List.getElem?_eq_getElem (by rw [hz]; exact hi)⟩
    rw [hy, cellsI8, Nat.mul_one, e] at g
    exact one_i8 g
  obtain ⟨n0, rfl, w0⟩ := get 0 c0 (by decide) rfl
  obtain ⟨n1, rfl, w1⟩ := get 1 c1 (by decide) rfl
  obtain ⟨n2, rfl, w2⟩ := get 2 c2 (by decide) rfl
  obtain ⟨n3, rfl, w3⟩ := get 3 c3 (by decide) rfl
  exact ⟨n0, n1, n2, n3, rfl, w0, w1, w2, w3⟩
theorem list7 {α : Type} {cs : List α} (h : cs.length = 7) : ∃ c0 c1 c2 c3 c4 c5 c6, cs = [c0, c1, c2, c3, c4, c5, c6] := by
  match cs, h with
  | [c0, c1, c2, c3, c4, c5, c6], _ => exact ⟨_, _, _, _, _, _, _, rfl⟩
set_option maxRecDepth 100000 in
theorem story_of {n : Nat} {cs : List Value} {x : DataW H × List MemPlace} (hl : cs.length = 7) (h : DataW.trod enc Try.prog w 0 (fun _ => true) true n 27 cs = some x) :
    ∃ A0 c0 A5 c5, ∃ (l0 : List S104) (o1 o2 o3 o4 : Int) (l5 : List S193) (wr : Int), cs = [.slice A0 l0.length c0, .int .i8 o1, .int .i8 o2, .int .i8 o3, .int .i8 o4, .slice A5 l5.length c5, .int .u8 wr] ∧ Kd.C k104 w A0 l0.length l0 ∧ l0.length ≤ c0 ∧ Kd.C k193 w A5 l5.length l5 ∧ l5.length ≤ c5 ∧
      (∀ s ∈ l0, TreeOk s) ∧ (I8 o1 ∧ I8 o2 ∧ I8 o3 ∧ I8 o4) ∧ (∀ s ∈ l5, SyncOk s) ∧ U8 wr := by
  obtain ⟨xs, m, _, _, _, hz, hg⟩ := DataW.trod_struct Try.underlying27 h
  obtain ⟨c0, c1, c2, c3, c4, c5, c6, rfl⟩ := list7 hl
  obtain ⟨z0, h0⟩ := has hz (i := 0) (by decide)
  obtain ⟨z1, h1⟩ := has hz (i := 1) (by decide)
  obtain ⟨z2, h2⟩ := has hz (i := 2) (by decide)
  have g0 : DataW.trod enc Try.prog w 0 (fun _ => true) true m 22 (([c0, c1, c2, c3, c4, c5, c6].drop 0).take (Try.prog.cellsOf 22)) = some z0 := h0 ▸ hg 0 _ rfl
  have g1 : DataW.trod enc Try.prog w 0 (fun _ => true) true m 24 (([c0, c1, c2, c3, c4, c5, c6].drop 1).take (Try.prog.cellsOf 24)) = some z1 := h1 ▸ hg 1 _ rfl
  have g2 : DataW.trod enc Try.prog w 0 (fun _ => true) true m 25 (([c0, c1, c2, c3, c4, c5, c6].drop 5).take (Try.prog.cellsOf 25)) = some z2 := h2 ▸ hg 2 _ rfl
  obtain ⟨wr, rfl, hw⟩ := fld_u8 (hg 3 _ rfl) (has hz (by decide)) rfl
  rw [cells22] at g0
  rw [cells24] at g1
  rw [cells25] at g2
  obtain ⟨A0, p0, l0, rfl, r0, q0, b0⟩ := trees_of (c := c0) g0
  obtain ⟨o1, o2, o3, o4, e, w1, w2, w3, w4⟩ := offs_of (cs := [c1, c2, c3, c4]) rfl g1
  simp only [List.cons.injEq, and_true] at e
  obtain ⟨rfl, rfl, rfl, rfl⟩ := e
  obtain ⟨A5, p5, l5, rfl, r5, q5, b5⟩ := syncs_of (c := c5) g2
  exact ⟨A0, p0, A5, p5, l0, o1, o2, o3, o4, l5, wr, rfl, r0, q0, r5, q5, b0, ⟨w1, w2, w3, w4⟩, b5, hw⟩
end
end Go.Proofs.Ythdifdnjodbdnaa.RowS
namespace Go.Proofs.Ythdifdnjodbdnaa.Pl
open Go.RowKit Go.Proofs.YthdifdnjodbdnaaW.PrintWords Go.Proofs.YthdifdnjodbdnaaW.PrintLast Go.Proofs.YthdifdnjodbdnaaW.PrintMore Go.Proofs.Ythdifdnjodbdnaa.Q Go.Proofs.Ythdifdnjodbdnaa.RowS
set_option linter.unusedVariables false
set_option linter.unusedSimpArgs false
set_option linter.unusedSimpArgs false
theorem w64d {x : Int} (h1 : -9223372036854775808 ≤ x) (h2 : x ≤ 9223372036854775807) : wrap64 x = x := by unfold wrap64; omega
/-- The times of n calls. -/
structure Tm (n : Nat) (st en : List Int) : Prop where
  ls : st.length = n
  le : en.length = n
  b : ∀ j, j < n → 1000 ≤ st.getD j 0 ∧ st.getD j 0 ≤ 1031 + 31 * (j : Int) ∧ st.getD j 0 ≤ en.getD j 0 ∧ en.getD j 0 ≤ 1062 + 31 * (n : Int)
theorem rdN (l : List Int) (j : Nat) : rd l (j : Int) = l.getD j 0 := by unfold rd; rw [Int.toNat_natCast]
theorem parN (c : S153) (i : Nat) (hi : i ≤ 1000) (h : U8 c.f0) : ∃ p : Nat, Int.tmod (wrap64 c.f0) (wrap64 ((i : Int) + 1)) = (p : Int) ∧ p ≤ i := by
  obtain ⟨h1, h2⟩ := h
  rw [w64d (by omega) (by omega), w64d (by omega) (by omega), Int.tmod_eq_emod_of_nonneg h1]
  have e1 := Int.emod_nonneg c.f0 (show ((i : Int) + 1) ≠ 0 by omega)
  have e2 := Int.emod_lt_of_pos c.f0 (show 0 < ((i : Int) + 1) by omega)
  exact ⟨(c.f0 % ((i : Int) + 1)).toNat, by omega, by omega⟩
theorem m32 {x : Int} (h : U8 x) : 0 ≤ wrap64 (Int.tmod x 32) ∧ wrap64 (Int.tmod x 32) ≤ 31 := by
  obtain ⟨h1, h2⟩ := h
  rw [Int.tmod_eq_emod_of_nonneg h1, w64d (by omega) (by omega)]
  omega
section
variable (slot start : Int) (cs : List S153) (hn : cs.length ≤ 8) (hc : ∀ c ∈ cs, CallOk c)
theorem callAt {i : Nat} (hi : i < cs.length) : rd_T153 cs (i : Int) = cs[i] := by
  unfold rd_T153
  rw [Int.toNat_natCast, List.getD_eq_getElem?_getD, List.getElem?_eq_getElem hi]
  rfl
include hn hc
theorem l1_j4 (st en : List Int) (i : Nat) (hi0 : 0 < i) (hi : i < cs.length) : ∃ (p : Nat) (b : Bool), p ≤ i ∧ ∀ K, sleuthlaw13_times.l1 (K + 1) st en (i : Int) slot start cs = sleuthlaw13_times.j4 K st en (i : Int) (p : Int) b slot start cs := by
  obtain ⟨p, hp, hpi⟩ := parN cs[i] i (by omega) (hc _ (List.getElem_mem hi)).1
  have hz : ¬ wrap64 ((i : Int) + 1) = 0 := by rw [w64d (by omega) (by omega)]; omega
  have hpl : p < cs.length := by omega
  by_cases c1 : (p : Int) < (i : Int)
  · by_cases c2 : wrap64 (1 + wrap64 (Int.tmod cs[i].f2 5)) = 3
    · by_cases c3 : wrap64 (1 + wrap64 (Int.tmod cs[p].f2 5)) = 2
      · refine ⟨p, !cs[p].f10, hpi, fun K => ?_⟩
        simp only [sleuthlaw13_times.l1, callAt cs hi, hp, callAt cs hpl, sleuthlaw13_kind.f, Option.bind_some]
        rw [if_pos (by omega), if_pos (by omega), if_pos (by omega), if_neg hz, if_pos c1, if_pos c2, if_pos (by omega), if_pos (by omega), if_pos c3]
      · refine ⟨p, false, hpi, fun K => ?_⟩
        simp only [sleuthlaw13_times.l1, callAt cs hi, hp, callAt cs hpl, sleuthlaw13_kind.f, Option.bind_some]
        rw [if_pos (by omega), if_pos (by omega), if_pos (by omega), if_neg hz, if_pos c1, if_pos c2, if_pos (by omega), if_pos (by omega), if_neg c3]
    · refine ⟨p, false, hpi, fun K => ?_⟩
      simp only [sleuthlaw13_times.l1, callAt cs hi, hp, callAt cs hpl, sleuthlaw13_kind.f, Option.bind_some]
      rw [if_pos (by omega), if_pos (by omega), if_pos (by omega), if_neg hz, if_pos c1, if_neg c2]
  · refine ⟨p, false, hpi, fun K => ?_⟩
    simp only [sleuthlaw13_times.l1, callAt cs hi, hp, callAt cs hpl, sleuthlaw13_kind.f, Option.bind_some]
    rw [if_pos (by omega), if_pos (by omega), if_pos (by omega), if_neg hz, if_neg c1]
theorem l1_some (st : List Int) : ∀ (i : Nat), i < cs.length ∨ i = 0 → ∀ en, Tm cs.length st en → ∃ en', Tm cs.length st en' ∧ ∀ k, sleuthlaw13_times.l1 (k + (2 * i + 1)) st en (i : Int) slot start cs = some (st, en') := by
  intro i
  induction i with
  | zero =>
    intro _ en h
    refine ⟨en, h, fun k => ?_⟩
    show sleuthlaw13_times.l1 (k + 1) st en ((0 : Nat) : Int) slot start cs = _
    simp only [sleuthlaw13_times.l1]
    rw [if_neg (by omega)]
  | succ i ih =>
    intro hi en h
    have hi' : i + 1 < cs.length := by omega
    obtain ⟨p, b, hp, he⟩ := l1_j4 slot start cs hn hc st en (i + 1) (by omega) hi'
    have hw : wrap64 (((i + 1 : Nat) : Int) - 1) = (i : Int) := by rw [w64d (by omega) (by omega)]; omega
    cases b with
    | false =>
      obtain ⟨en', h', e'⟩ := ih (.inl (by omega)) en h
      refine ⟨en', h', fun k => ?_⟩
      rw [show k + (2 * (i + 1) + 1) = (k + (2 * i + 1)) + 1 + 1 by omega, he]
      simp only [sleuthlaw13_times.j4]
      rw [if_neg (by decide), hw]
      exact e' k
    | true =>
      have hT : Tm cs.length st (en.set p (mx (rd en (p : Int)) (rd en ((i + 1 : Nat) : Int)))) := by
        refine ⟨h.ls, by rw [List.length_set]; exact h.le, fun j hj => ?_⟩
        have bj := h.b j hj
        have bp := h.b p (by omega)
        have bi := h.b (i + 1) hi'
        rw [rdN, rdN]
        have hm : mx (en.getD p 0) (en.getD (i + 1) 0) = en.getD p 0 ∨ mx (en.getD p 0) (en.getD (i + 1) 0) = en.getD (i + 1) 0 := by unfold mx; split <;> simp
        have hm2 : en.getD p 0 ≤ mx (en.getD p 0) (en.getD (i + 1) 0) := by unfold mx; split <;> omega
        have hl := h.le
        by_cases e : j = p
        · subst e
          have : (en.set j (mx (en.getD j 0) (en.getD (i + 1) 0))).getD j 0 = mx (en.getD j 0) (en.getD (i + 1) 0) := by
            rw [List.getD_eq_getElem?_getD, List.getElem?_set_self (by omega)]
            rfl
          rw [this]
          refine ⟨bj.1, bj.2.1, by omega, ?_⟩
          rcases hm with hm | hm <;> rw [hm] <;> omega
        · have : (en.set p (mx (en.getD p 0) (en.getD (i + 1) 0))).getD j 0 = en.getD j 0 := by
            rw [List.getD_eq_getElem?_getD, List.getElem?_set_ne (Ne.symm e), ← List.getD_eq_getElem?_getD]
          rw [this]
          exact bj
      obtain ⟨en', h', e'⟩ := ih (.inl (by omega)) _ hT
      refine ⟨en', h', fun k => ?_⟩
      have hl := h.le
      rw [show k + (2 * (i + 1) + 1) = (k + (2 * i + 1)) + 1 + 1 by omega, he]
      simp only [sleuthlaw13_times.j4]
      rw [if_pos trivial, if_pos (by omega), if_pos (by omega), if_pos (by omega), if_pos (by omega), hw, Int.toNat_natCast]
      exact e' k
omit hn hc in
theorem tm_snoc {i : Nat} {st en : List Int} (h : Tm i st en) {s e : Int} (h1 : 1000 ≤ s) (h2 : s ≤ 1031 + 31 * (i : Int)) (h3 : s ≤ e) (h4 : e ≤ 1062 + 31 * ((i : Int) + 1)) : Tm (i + 1) (st ++ [s]) (en ++ [e]) := by
  refine ⟨by rw [List.length_append, h.ls]; rfl, by rw [List.length_append, h.le]; rfl, fun j hj => ?_⟩
  have l1 := h.ls
  have l2 := h.le
  by_cases hji : j < i
  · have b := h.b j hji
    have e1 : (st ++ [s]).getD j 0 = st.getD j 0 := by rw [List.getD_eq_getElem?_getD, List.getElem?_append_left (by omega), ← List.getD_eq_getElem?_getD]
    have e2 : (en ++ [e]).getD j 0 = en.getD j 0 := by rw [List.getD_eq_getElem?_getD, List.getElem?_append_left (by omega), ← List.getD_eq_getElem?_getD]
    rw [e1, e2]
    exact ⟨b.1, b.2.1, b.2.2.1, by have := b.2.2.2; omega⟩
  · obtain rfl : j = i := by omega
    have e1 : (st ++ [s]).getD j 0 = s := by rw [List.getD_eq_getElem?_getD, List.getElem?_append_right (by omega), l1]; simp
    have e2 : (en ++ [e]).getD j 0 = e := by rw [List.getD_eq_getElem?_getD, List.getElem?_append_right (by omega), l2]; simp
    rw [e1, e2]
    exact ⟨h1, h2, h3, by omega⟩
theorem l0_j1 (hs : U8 start) (st en : List Int) (i : Nat) (hi : i < cs.length) (h : Tm i st en) : ∃ x6 : Int, 1000 ≤ x6 ∧ x6 ≤ 1000 + 31 * (i : Int) + (if i = 0 then 31 else 0) ∧ ∀ K, sleuthlaw13_times.l0 (K + 1) st en (i : Int) slot start cs = sleuthlaw13_times.j1 K st en (i : Int) x6 slot start cs cs[i].f0 cs[i].f1 cs[i].f2 cs[i].f3 cs[i].f4 cs[i].f5 cs[i].f6 cs[i].f7 cs[i].f8 cs[i].f9 cs[i].f10 := by
  obtain ⟨p, hp, hpi⟩ := parN cs[i] i (by omega) (hc _ (List.getElem_mem hi)).1
  have hz : ¬ wrap64 ((i : Int) + 1) = 0 := by rw [w64d (by omega) (by omega)]; omega
  have hl := h.ls
  by_cases c1 : (p : Int) < (i : Int)
  · have b := h.b p (by omega)
    refine ⟨rd st (p : Int), by rw [rdN]; exact b.1, by rw [rdN, if_neg (by omega)]; omega, fun K => ?_⟩
    simp only [sleuthlaw13_times.l0, callAt cs hi, hp]
    rw [if_pos (by omega), if_pos (by omega), if_neg hz, if_pos c1, if_pos (by omega), if_pos (by omega)]
  · have hm := m32 hs
    have hw : wrap64 (1000 + wrap64 (Int.tmod start 32)) = 1000 + wrap64 (Int.tmod start 32) := w64d (by omega) (by omega)
    refine ⟨wrap64 (1000 + wrap64 (Int.tmod start 32)), by omega, ?_, fun K => ?_⟩
    · rw [hw]
      split <;> omega
    · simp only [sleuthlaw13_times.l0, callAt cs hi, hp]
      rw [if_pos (by omega), if_pos (by omega), if_neg hz, if_neg c1]
theorem l0_some (hs : U8 start) : ∀ (d i : Nat), cs.length - i = d → i ≤ cs.length → ∀ st en, Tm i st en → ∃ st' en', Tm cs.length st' en' ∧ ∀ k, sleuthlaw13_times.l0 (k + (3 * d + 2 * cs.length + 2)) st en (i : Int) slot start cs = some (st', en') := by
  intro d
  induction d with
  | zero =>
    intro i hd hi st en h
    obtain rfl : i = cs.length := by omega
    rcases Nat.eq_zero_or_pos cs.length with h0 | h0
    · refine ⟨st, en, h, fun k => ?_⟩
      rw [show k + (3 * 0 + 2 * cs.length + 2) = (k + 2 * cs.length) + 1 + 1 by omega]
      simp only [sleuthlaw13_times.l0]
      rw [if_neg (by omega), h0]
      simp only [sleuthlaw13_times.l1]
      rw [if_neg (by rw [w64d (by omega) (by omega)]; omega)]
    · obtain ⟨en', h', e'⟩ := l1_some slot start cs hn hc st (cs.length - 1) (.inl (by omega)) en h
      refine ⟨st, en', h', fun k => ?_⟩
      rw [show k + (3 * 0 + 2 * cs.length + 2) = ((k + 2) + (2 * (cs.length - 1) + 1)) + 1 by omega]
      simp only [sleuthlaw13_times.l0]
      rw [if_neg (by omega), show wrap64 ((cs.length : Int) - 1) = ((cs.length - 1 : Nat) : Int) by rw [w64d (by omega) (by omega)]; omega]
      exact e' (k + 2)
  | succ d ih =>
    intro i hd hi st en h
    have hlt : i < cs.length := by omega
    obtain ⟨x6, hx1, hx2, hj⟩ := l0_j1 slot start cs hn hc hs st en i hlt h
    have hw6 := m32 (hc _ (List.getElem_mem hlt)).2.2.2.2.2.2.1
    have hw7 := m32 (hc _ (List.getElem_mem hlt)).2.2.2.2.2.2.2.1
    obtain ⟨s, hs1, hs2, hsj⟩ : ∃ s : Int, 1000 ≤ s ∧ s ≤ 1031 + 31 * (i : Int) ∧ ∀ K, sleuthlaw13_times.j1 (K + 1) st en (i : Int) x6 slot start cs cs[i].f0 cs[i].f1 cs[i].f2 cs[i].f3 cs[i].f4 cs[i].f5 cs[i].f6 cs[i].f7 cs[i].f8 cs[i].f9 cs[i].f10 = sleuthlaw13_times.j2 K st en (i : Int) s slot start cs cs[i].f0 cs[i].f1 cs[i].f2 cs[i].f3 cs[i].f4 cs[i].f5 cs[i].f6 cs[i].f7 cs[i].f8 cs[i].f9 cs[i].f10 := by
      by_cases c : (i : Int) > 0
      · have hw : wrap64 (x6 + wrap64 (Int.tmod cs[i].f6 32)) = x6 + wrap64 (Int.tmod cs[i].f6 32) := w64d (by omega) (by split at hx2 <;> omega)
        rw [if_neg (by omega)] at hx2
        refine ⟨wrap64 (x6 + wrap64 (Int.tmod cs[i].f6 32)), by omega, by omega, fun K => ?_⟩
        simp only [sleuthlaw13_times.j1]
        rw [if_pos c]
      · rw [if_pos (by omega)] at hx2
        refine ⟨x6, hx1, by omega, fun K => ?_⟩
        simp only [sleuthlaw13_times.j1]
        rw [if_neg c]
    have a1 : cs.length - (i + 1) = d := by clear hj hsj hw6 hw7 hx1 hx2 hs1 hs2; omega
    have a3 : s ≤ wrap64 (s + wrap64 (Int.tmod cs[i].f7 32)) ∧ wrap64 (s + wrap64 (Int.tmod cs[i].f7 32)) ≤ 1062 + 31 * ((i : Int) + 1) := by
      clear hj hsj hx1 hx2 hw6
      generalize wrap64 (Int.tmod cs[i].f7 32) = m at hw7 ⊢
      rw [w64d (by omega) (by omega)]
      omega
    obtain ⟨st', en', h', e'⟩ := ih (i + 1) a1 hlt _ _ (tm_snoc h (s := s) (e := wrap64 (s + wrap64 (Int.tmod cs[i].f7 32))) hs1 hs2 a3.1 a3.2)
    have hi1 : wrap64 ((i : Int) + 1) = ((i + 1 : Nat) : Int) := by clear hj hsj hw6 hw7 hx1 hx2 hs1 hs2 a3 e'; rw [w64d (by omega) (by omega)]; omega
    refine ⟨st', en', h', fun k => ?_⟩
    have l1 := h.ls
    have l2 := h.le
    rw [show k + (3 * (d + 1) + 2 * cs.length + 2) = (k + (3 * d + 2 * cs.length + 2)) + 1 + 1 + 1 by clear hj hsj hi1 e' h' hw6 hw7 ih hs1 hs2 hx1 hx2 hs a3; omega, hj, hsj]
    simp only [sleuthlaw13_times.j2, Option.bind_some]
    rw [if_pos (by clear hj hsj hi1 e' h' hw6 hw7 ih hs1 hs2 hx1 hx2 hs a3; simp; omega), if_pos (by clear hj hsj hi1 e' h' hw6 hw7 ih hs1 hs2 hx1 hx2 hs a3; simp; omega), hi1]
    exact e' k
end
/-- times answers. -/
theorem times_some (slot start : Int) (cs : List S153) (hs : U8 start) (hn : cs.length ≤ 8) (hc : ∀ c ∈ cs, CallOk c) : ∃ st en, Tm cs.length st en ∧ sleuthlaw13_times.f 200 slot start cs = some (st, en) := by
  obtain ⟨st, en, h, e⟩ := l0_some slot start cs hn hc hs cs.length 0 rfl (Nat.zero_le _) [] [] ⟨rfl, rfl, fun j hj => absurd hj (by omega)⟩
  refine ⟨st, en, h, ?_⟩
  have := e (200 - (3 * cs.length + 2 * cs.length + 2))
  rw [show 200 - (3 * cs.length + 2 * cs.length + 2) + (3 * cs.length + 2 * cs.length + 2) = 200 by omega] at this
  exact this
end Go.Proofs.Ythdifdnjodbdnaa.Pl
namespace Go.Proofs.Ythdifdnjodbdnaa.Pl
open Go.RowKit Go.Proofs.YthdifdnjodbdnaaW.PrintWords Go.Proofs.YthdifdnjodbdnaaW.PrintLast Go.Proofs.YthdifdnjodbdnaaW.PrintMore Go.Proofs.Ythdifdnjodbdnaa.Q Go.Proofs.Ythdifdnjodbdnaa.RowS
set_option linter.unusedVariables false
set_option linter.unusedSimpArgs false
set_option linter.unusedSimpArgs false
/-- The attributes of some call. -/
def AtsOk (l : List S141) : Prop := ∃ c : S153, CallOk c ∧ sleuthlaw13_attrs.f c.f0 c.f1 c.f2 c.f3 c.f4 c.f5 c.f6 c.f7 c.f8 c.f9 c.f10 = some l
/-- What is known of the span with the index i of a trace. -/
structure SpOk (tid : Int) (i : Nat) (s : S58) : Prop where
  trace : s.f0 = tid
  id : s.f1 = (i : Int) + 1
  parent : 0 ≤ s.f2 ∧ s.f2 ≤ 100
  rev : s.f3 = 0
  clock : 1 ≤ s.f4 ∧ s.f4 ≤ 4
  kind : 1 ≤ s.f5 ∧ s.f5 ≤ 5
  svc : s.f6 ∈ sSvc
  ver : s.f7 ∈ sVer
  op : s.f8 ∈ sOp
  start : 900 ≤ s.f9 ∧ s.f9 ≤ 2000
  end_ : s.f9 ≤ s.f10 ∧ s.f10 ≤ 3000
  ats : AtsOk s.f12
  lnk : s.f13 = [] ∨ ∃ j : Int, 1 ≤ j ∧ j ≤ 16 ∧ s.f13 = [⟨tid, j⟩]
theorem attrs_some (c : S153) (h : CallOk c) : ∃ l, sleuthlaw13_attrs.f c.f0 c.f1 c.f2 c.f3 c.f4 c.f5 c.f6 c.f7 c.f8 c.f9 c.f10 = some l := by
  obtain ⟨h1, h2⟩ := h.2.2.2.2.2.2.2.2.2
  have e : Int.tmod c.f9 4 = c.f9 % 4 := Int.tmod_eq_emod_of_nonneg h1
  unfold sleuthlaw13_attrs.f
  simp only [Option.bind_some]
  rw [if_pos (by omega), if_pos (by simp; omega), if_pos (by omega), if_pos (by rw [e]; simp; omega)]
  exact ⟨_, rfl⟩
theorem mem_rdOf {l : List ByteArray} {i : Int} (h0 : 0 ≤ i) (h1 : i < l.length) : rdOf ByteArray.empty l i ∈ l := by
  unfold rdOf
  rw [List.getD_eq_getElem?_getD, List.getElem?_eq_getElem (by omega)]
  exact List.getElem_mem _
section
variable (l0 : List S104) (o1 o2 o3 o4 : Int) (l5 : List S193) (wr : Int)
variable (ht : ∀ t ∈ l0, TreeOk t) (hc8 : ∀ t ∈ l0, t.f2.length ≤ 8) (ho : I8 o1 ∧ I8 o2 ∧ I8 o3 ∧ I8 o4)
theorem treeAt {i : Nat} (hi : i < l0.length) : rd_T104 l0 (i : Int) = l0[i] := by
  unfold rd_T104
  rw [Int.toNat_natCast, List.getD_eq_getElem?_getD, List.getElem?_eq_getElem hi]
  rfl
/-- The id of the trace with an index. -/
def tidOf (k : Nat) : Int := (rd_T104 l0 (k : Int)).f0 % 64 * 1048576 + 1 + k
include ht in
theorem tid_some {k : Nat} (hk : k < l0.length) (hk3 : k < 1000) : sleuthlaw13_TraceId.f l0 o1 o2 o3 o4 l5 wr (k : Int) = some (tidOf l0 k) := by
  obtain ⟨⟨h1, h2⟩, _⟩ := ht _ (List.getElem_mem hk)
  unfold sleuthlaw13_TraceId.f tidOf
  rw [if_pos (by omega), if_pos (by omega), treeAt l0 hk, Int.tmod_eq_emod_of_nonneg h1]
  rw [w64d (x := l0[k].f0 % 64) (by omega) (by omega), w64d (x := l0[k].f0 % 64 * 1048576) (by omega) (by omega), w64d (x := l0[k].f0 % 64 * 1048576 + 1) (by omega) (by omega), w64d (by omega) (by omega)]
include ho in
theorem off_some (clk : Int) (h : 1 ≤ clk ∧ clk ≤ 4) : ∃ b, sleuthlaw13_Offset.f l0 o1 o2 o3 o4 l5 wr clk = some b ∧ -20 ≤ b ∧ b ≤ 20 := by
  have key : ∀ o, I8 o → -20 ≤ Int.tmod (wrap64 o) 21 ∧ Int.tmod (wrap64 o) 21 ≤ 20 := by
    intro o hI
    obtain ⟨a, b⟩ := hI
    rw [w64d (by omega) (by omega)]
    by_cases hp : 0 ≤ o
    · rw [Int.tmod_eq_emod_of_nonneg hp]; omega
    · have : Int.tmod o 21 = -(Int.tmod (-o) 21) := by rw [Int.neg_tmod, Int.neg_neg]
      rw [this, Int.tmod_eq_emod_of_nonneg (by omega)]
      omega
  obtain ⟨a, b, c, d⟩ := ho
  unfold sleuthlaw13_Offset.f
  by_cases h1 : clk = 1
  · rw [if_pos h1]; exact ⟨_, rfl, key _ a⟩
  · by_cases h2 : clk = 2
    · rw [if_neg h1, if_pos h2]; exact ⟨_, rfl, key _ b⟩
    · by_cases h3 : clk = 3
      · rw [if_neg h1, if_neg h2, if_pos h3]; exact ⟨_, rfl, key _ c⟩
      · rw [if_neg h1, if_neg h2, if_neg h3, if_pos (by omega)]; exact ⟨_, rfl, key _ d⟩
include ht hc8 ho in
theorem span_some {k : Nat} (hk : k < l0.length) (hk3 : k < 1000) {st en : List Int} (hT : Tm l0[k].f2.length st en) {i : Nat} (hi : i < l0[k].f2.length) :
    ∃ s, spanF l0 o1 o2 o3 o4 l5 wr (k : Int) (i : Int) st en = some s ∧ SpOk (tidOf l0 k) i s := by
  have hT0 := ht _ (List.getElem_mem hk)
  have h8 := hc8 _ (List.getElem_mem hk)
  have hC := hT0.2.2 _ (List.getElem_mem hi)
  obtain ⟨u0, u1, u2, u3, u4, u5, u6, u7, u8, u9⟩ := hC
  obtain ⟨ats, hats⟩ := attrs_some _ (hT0.2.2 _ (List.getElem_mem hi))
  have hc : rd_T153 (rd_T104 l0 (k : Int)).f2 (i : Int) = l0[k].f2[i] := by rw [treeAt l0 hk]; exact callAt _ hi
  have b := hT.b i hi
  have ls := hT.ls
  have le := hT.le
  have hw : wrap64 ((i : Int) + 1) = (i : Int) + 1 := w64d (by omega) (by omega)
  have m1 : wrap64 (1 + wrap64 (Int.tmod l0[k].f2[i].f1 4)) = 1 + l0[k].f2[i].f1 % 4 := by
    rw [Int.tmod_eq_emod_of_nonneg u1.1, w64d (x := l0[k].f2[i].f1 % 4) (by omega) (by omega), w64d (by omega) (by omega)]
  have m2 : wrap64 (1 + wrap64 (Int.tmod l0[k].f2[i].f2 5)) = 1 + l0[k].f2[i].f2 % 5 := by
    rw [Int.tmod_eq_emod_of_nonneg u2.1, w64d (x := l0[k].f2[i].f2 % 5) (by omega) (by omega), w64d (by omega) (by omega)]
  obtain ⟨q, hq, hq1, hq2⟩ := off_some l0 o1 o2 o3 o4 l5 wr ho (1 + l0[k].f2[i].f1 % 4) (by omega)
  obtain ⟨p, hp, hpi⟩ := parN l0[k].f2[i] i (by omega) u0
  have hpar : 0 ≤ parIdOf l0[k].f2[i] (i : Int) ∧ parIdOf l0[k].f2[i] (i : Int) ≤ 100 := by
    unfold parIdOf parOf
    rw [hp]
    by_cases c1 : (p : Int) < (i : Int)
    · rw [if_pos c1, w64d (by omega) (by omega)]; omega
    · rw [if_neg c1]
      split <;> omega
  have hlk : wrap64 (linkOf l0[k].f2[i] + 1) = linkOf l0[k].f2[i] + 1 ∧ 0 ≤ linkOf l0[k].f2[i] ∧ linkOf l0[k].f2[i] ≤ 15 := by
    unfold linkOf
    rw [Int.tmod_eq_emod_of_nonneg u8.1, w64d (x := l0[k].f2[i].f8 % 16) (by omega) (by omega)]
    exact ⟨w64d (by omega) (by omega), by omega, by omega⟩
  have r3 : rd st (i : Int) = st.getD i 0 := rdN st i
  have r4 : rd en (i : Int) = en.getD i 0 := rdN en i
  obtain ⟨bb, hbb, hb1, hb2⟩ : ∃ bb, (if wrongB wr (k : Int) (i : Int) = true then wrap64 (q + 500) else q) = bb ∧ -20 ≤ bb ∧ bb ≤ 520 := by
    refine ⟨_, rfl, ?_⟩
    split
    · rw [w64d (by omega) (by omega)]; omega
    · omega
  have hm : madeF l0 o1 o2 o3 o4 l5 wr (k : Int) (i : Int) st en = some ⟨tidOf l0 k, (i : Int) + 1, parIdOf l0[k].f2[i] (i : Int), 0, 1 + l0[k].f2[i].f1 % 4, 1 + l0[k].f2[i].f2 % 5, rdOf ByteArray.empty sSvc (Int.tmod l0[k].f2[i].f3 4), rdOf ByteArray.empty sVer (Int.tmod l0[k].f2[i].f4 3), rdOf ByteArray.empty sOp (Int.tmod l0[k].f2[i].f5 3), st.getD i 0, en.getD i 0, l0[k].f2[i].f10, ats, lnkL (tidOf l0 k) l0[k].f2[i] (i : Int) st⟩ := by
    unfold madeF
    simp only [hc]
    rw [if_pos ⟨by omega, by omega, by omega, by rw [treeAt l0 hk]; omega, by omega, by omega, by rw [hw]; omega, u3.1, u4.1, u5.1, u8.1⟩, tid_some l0 o1 o2 o3 o4 l5 wr ht hk hk3]
    simp only [Option.bind_some, sleuthlaw13_kind.f, hats, hw, m1, m2, r3, r4]
  refine ⟨_, by unfold spanF byF; rw [hm]; simp only [Option.bind_some, hq, hbb]; rfl, ?_⟩
  have t3 : Int.tmod l0[k].f2[i].f3 4 = l0[k].f2[i].f3 % 4 := Int.tmod_eq_emod_of_nonneg u3.1
  have t4 : Int.tmod l0[k].f2[i].f4 3 = l0[k].f2[i].f4 % 3 := Int.tmod_eq_emod_of_nonneg u4.1
  have t5 : Int.tmod l0[k].f2[i].f5 3 = l0[k].f2[i].f5 % 3 := Int.tmod_eq_emod_of_nonneg u5.1
  have w9 : wrap64 (st.getD i 0 + bb) = st.getD i 0 + bb := w64d (by omega) (by omega)
  have w10 : wrap64 (en.getD i 0 + bb) = en.getD i 0 + bb := w64d (by omega) (by omega)
  exact {
    trace := rfl
    id := rfl
    parent := hpar
    rev := rfl
    clock := by show 1 ≤ 1 + l0[k].f2[i].f1 % 4 ∧ 1 + l0[k].f2[i].f1 % 4 ≤ 4; omega
    kind := by show 1 ≤ 1 + l0[k].f2[i].f2 % 5 ∧ 1 + l0[k].f2[i].f2 % 5 ≤ 5; omega
    svc := mem_rdOf (by rw [t3]; omega) (by rw [t3]; show _ < (4 : Int); omega)
    ver := mem_rdOf (by rw [t4]; omega) (by rw [t4]; show _ < (3 : Int); omega)
    op := mem_rdOf (by rw [t5]; omega) (by rw [t5]; show _ < (3 : Int); omega)
    start := by show 900 ≤ wrap64 (st.getD i 0 + bb) ∧ wrap64 (st.getD i 0 + bb) ≤ 2000; rw [w9]; omega
    end_ := by show wrap64 (st.getD i 0 + bb) ≤ wrap64 (en.getD i 0 + bb) ∧ wrap64 (en.getD i 0 + bb) ≤ 3000; rw [w9, w10]; omega
    ats := ⟨_, hT0.2.2 _ (List.getElem_mem hi), hats⟩
    lnk := by
      show lnkL (tidOf l0 k) l0[k].f2[i] (i : Int) st = [] ∨ ∃ j : Int, 1 ≤ j ∧ j ≤ 16 ∧ lnkL (tidOf l0 k) l0[k].f2[i] (i : Int) st = [⟨tidOf l0 k, j⟩]
      unfold lnkL
      split
      · exact .inr ⟨linkOf l0[k].f2[i] + 1, by omega, by omega, by rw [hlk.1]⟩
      · exact .inl rfl }
end
end Go.Proofs.Ythdifdnjodbdnaa.Pl
namespace Go.Proofs.Ythdifdnjodbdnaa.Pl
open Go.RowKit Go.Proofs.YthdifdnjodbdnaaW.PrintWords Go.Proofs.YthdifdnjodbdnaaW.PrintLast Go.Proofs.YthdifdnjodbdnaaW.PrintMore Go.Proofs.Ythdifdnjodbdnaa.Q Go.Proofs.Ythdifdnjodbdnaa.RowS
set_option linter.unusedVariables false
set_option linter.unusedSimpArgs false
set_option linter.unusedSimpArgs false
theorem wsucc {i n : Nat} (h : i < n) (hn : n ≤ 1000000) : wrap64 ((i : Int) + 1) = ((i + 1 : Nat) : Int) := by rw [w64d (by omega) (by omega)]; omega
section
variable (l0 : List S104) (o1 o2 o3 o4 : Int) (l5 : List S193) (wr : Int)
/-- What is known of the trace that a story's tree gives. -/
structure TrOk (t : S53) : Prop where
  tree : ∃ k, k < l0.length ∧ t.f0 = tidOf l0 k
  weight : t.f1 = 1
  few : t.f2.length ≤ 8
  some_ : 0 < t.f2.length
  spans : ∀ (i : Nat) (hi : i < t.f2.length), SpOk t.f0 i t.f2[i]
variable (ht : ∀ t ∈ l0, TreeOk t) (hc8 : ∀ t ∈ l0, t.f2.length ≤ 8) (ho : I8 o1 ∧ I8 o2 ∧ I8 o3 ∧ I8 o4) (hl : l0.length ≤ 3)
include ht hc8 ho hl
theorem trGo_some {k : Nat} (hk : k < l0.length) {st en : List Int} (hT : Tm l0[k].f2.length st en) : ∀ (d i : Nat), l0[k].f2.length - i = d → i ≤ l0[k].f2.length → ∀ acc : List S58, acc.length = i → (∀ (j : Nat) (hj : j < acc.length), SpOk (tidOf l0 k) j acc[j]) →
    ∃ sp, sp.length = l0[k].f2.length ∧ (∀ (j : Nat) (hj : j < sp.length), SpOk (tidOf l0 k) j sp[j]) ∧ ∀ K, trGo l0 o1 o2 o3 o4 l5 wr (k : Int) st en (K + d + 1) (i : Int) acc = some sp := by
  have h8 := hc8 _ (List.getElem_mem hk)
  intro d
  induction d with
  | zero =>
    intro i hd hi acc ha hs
    refine ⟨acc, by omega, hs, fun K => ?_⟩
    simp only [Nat.add_zero, trGo, treeAt l0 hk]
    rw [if_neg (by omega)]
  | succ d ih =>
    intro i hd hi acc ha hs
    have hlt : i < l0[k].f2.length := by omega
    obtain ⟨s, he, hsp⟩ := span_some l0 o1 o2 o3 o4 l5 wr ht hc8 ho hk (by omega) hT hlt
    obtain ⟨sp, h1, h2, h3⟩ := ih (i + 1) (by omega) (by omega) (acc ++ [s]) (by rw [List.length_append, ha]; rfl) (by
      intro j hj
      rw [List.length_append] at hj
      by_cases hji : j < acc.length
      · rw [List.getElem_append_left hji]; exact hs j hji
      · have hj' : j = i := by simp at hj; omega
        subst hj'
        rw [List.getElem_append_right (by omega)]
        simp [ha]
        exact hsp)
    refine ⟨sp, h1, h2, fun K => ?_⟩
    rw [show K + (d + 1) + 1 = (K + d + 1) + 1 by omega]
    rw [trGo, treeAt l0 hk, if_pos (by omega), if_pos (by omega), he, Option.bind_some, wsucc hlt (by omega)]
    exact h3 K
theorem trace_some {k : Nat} (hk : k < l0.length) : ∃ sp, sp.length = l0[k].f2.length ∧ (∀ (j : Nat) (hj : j < sp.length), SpOk (tidOf l0 k) j sp[j]) ∧ sleuthlaw13_Trace.f l0 o1 o2 o3 o4 l5 wr (k : Int) false = some sp := by
  have h8 := hc8 _ (List.getElem_mem hk)
  have hT0 := ht _ (List.getElem_mem hk)
  obtain ⟨st, en, hT, he⟩ := times_some l0[k].f0 l0[k].f1 l0[k].f2 hT0.2.1 h8 hT0.2.2
  obtain ⟨sp, h1, h2, h3⟩ := trGo_some l0 o1 o2 o3 o4 l5 wr ht hc8 ho hl hk hT l0[k].f2.length 0 (by omega) (Nat.zero_le _) [] rfl (fun j hj => absurd hj (by simp))
  refine ⟨sp, h1, h2, ?_⟩
  unfold sleuthlaw13_Trace.f
  rw [if_pos ⟨by omega, by omega, rfl⟩, treeAt l0 hk, he, Option.bind_some]
  have := h3 (40 - (l0[k].f2.length + 1))
  rw [show 40 - (l0[k].f2.length + 1) + l0[k].f2.length + 1 = 40 by omega] at this
  exact this
omit ht hc8 ho hl in
/-- The place that is found for a trace. -/
theorem l1_j2 (ts : List S53) (x4 : Int) (t : S53) (hts : ts.length ≤ 1000) : ∀ n : Nat, n ≤ ts.length → ∃ j : Nat, j ≤ n ∧ ∀ R, Ev (fun k => sleuthlaw13_Traces.j2 k ts x4 (j : Int) l0 o1 o2 o3 o4 l5 wr t.f0 t.f1 t.f2) R → Ev (fun k => sleuthlaw13_Traces.l1 k ts x4 (n : Int) l0 o1 o2 o3 o4 l5 wr t.f0 t.f1 t.f2) R := by
  intro n
  induction n with
  | zero =>
    intro _
    refine ⟨0, Nat.le_refl _, fun R h => Ev.step (fun k => ?_) h⟩
    simp only [sleuthlaw13_Traces.l1]
    rw [if_neg (by omega)]
  | succ n ih =>
    intro hn
    have hw : wrap64 (((n + 1 : Nat) : Int) - 1) = (n : Int) := by rw [w64d (by omega) (by omega)]; omega
    by_cases c : (rd_T53 ts (n : Int)).f0 > t.f0
    · obtain ⟨j, hj, h⟩ := ih (by omega)
      refine ⟨j, by omega, fun R hR => Ev.step (fun k => ?_) (h R hR)⟩
      simp only [sleuthlaw13_Traces.l1, hw]
      rw [if_pos (by omega), if_pos (by omega), if_pos (by omega), if_pos c]
    · refine ⟨n + 1, Nat.le_refl _, fun R hR => Ev.step (fun k => ?_) hR⟩
      simp only [sleuthlaw13_Traces.l1, hw]
      rw [if_pos (by omega), if_pos (by omega), if_pos (by omega), if_neg c]
theorem l0_ev : ∀ (d i : Nat), l0.length - i = d → i ≤ l0.length → ∀ ts : List S53, ts.length ≤ i → (∀ t ∈ ts, TrOk l0 t) → ∃ ts', ts'.length ≤ l0.length ∧ (∀ t ∈ ts', TrOk l0 t) ∧ Ev (fun k => sleuthlaw13_Traces.l0 k ts (i : Int) l0 o1 o2 o3 o4 l5 wr) ts' := by
  intro d
  induction d with
  | zero =>
    intro i hd hi ts hts h
    refine ⟨ts, by omega, h, Ev.step (f := fun _ => some ts) (fun k => ?_) (Ev.now _)⟩
    simp only [sleuthlaw13_Traces.l0]
    rw [if_neg (by omega)]
  | succ d ih =>
    intro i hd hi ts hts h
    have hlt : i < l0.length := by omega
    by_cases c : l0[i].f2.length = 0
    · obtain ⟨ts', h1, h2, h3⟩ := ih (i + 1) (by omega) (by omega) ts (by omega) h
      refine ⟨ts', h1, h2, Ev.step (fun k => ?_) h3⟩
      simp only [sleuthlaw13_Traces.l0, treeAt l0 hlt]
      rw [if_pos (by omega), if_pos (by omega), if_pos (by omega), wsucc hlt (by omega)]
    · obtain ⟨sp, q1, q2, q3⟩ := trace_some l0 o1 o2 o3 o4 l5 wr ht hc8 ho hl hlt
      obtain ⟨j, hj, hjR⟩ := l1_j2 l0 o1 o2 o3 o4 l5 wr ts (i : Int) ⟨tidOf l0 i, 1, sp⟩ (by omega) ts.length (Nat.le_refl _)
      have h8 := hc8 _ (List.getElem_mem hlt)
      have hnew : TrOk l0 ⟨tidOf l0 i, 1, sp⟩ := ⟨⟨i, hlt, rfl⟩, rfl, by show sp.length ≤ 8; omega, by show 0 < sp.length; omega, q2⟩
      obtain ⟨ts', h1, h2, h3⟩ := ih (i + 1) (by omega) (by omega) ((([] ++ ts.take j) ++ [⟨tidOf l0 i, 1, sp⟩]) ++ ts.drop j) (by simp; omega) (by
        intro t hm
        rcases List.mem_append.1 hm with hm | hm
        · rcases List.mem_append.1 hm with hm | hm
          · exact h t (List.mem_of_mem_take (by simpa using hm))
          · rw [List.mem_singleton.1 hm]; exact hnew
        · exact h t (List.mem_of_mem_drop hm))
      refine ⟨ts', h1, h2, Ev.step (fun k => ?_) (hjR ts' (Ev.step (fun k => ?_) h3))⟩
      · simp only [sleuthlaw13_Traces.l0, treeAt l0 hlt, tid_some l0 o1 o2 o3 o4 l5 wr ht hlt (by omega), q3, Option.bind_some]
        rw [if_pos (by omega), if_pos (by omega), if_neg (by omega)]
      · simp only [sleuthlaw13_Traces.j2, Option.bind_some]
        rw [if_pos (by omega), if_pos (by omega), if_pos (by simp; omega), if_pos (by simp; omega), if_pos (by simp; omega), wsucc hlt (by omega), Int.toNat_natCast]
/-- Traces answers. -/
theorem traces_ev : ∃ ts, ts.length ≤ l0.length ∧ (∀ t ∈ ts, TrOk l0 t) ∧ Ev (fun k => sleuthlaw13_Traces.f k l0 o1 o2 o3 o4 l5 wr) ts :=
  l0_ev l0 o1 o2 o3 o4 l5 wr ht hc8 ho hl l0.length 0 rfl (Nat.zero_le _) [] (Nat.zero_le _) (fun _ h => by cases h)
end
/-- Short answers; what it lets in. -/
theorem short_ev (l0 : List S104) (o1 o2 o3 o4 : Int) (l5 : List S193) (wr : Int) (hn : l0.length ≤ 9223372036854775807) : ∃ b, Ev (fun k => sleuthlaw13_Short.f k l0 o1 o2 o3 o4 l5 wr) b ∧ (b = true → l0.length ≤ 3 ∧ ∀ t ∈ l0, t.f2.length ≤ 8) := by
  have key : ∀ (d i : Nat), l0.length - i = d → i ≤ l0.length → (∀ (j : Nat) (hj : j < l0.length), j < i → l0[j].f2.length ≤ 8) → ∃ b, Ev (fun k => sleuthlaw13_Short.l0 k (i : Int) l0 o1 o2 o3 o4 l5 wr) b ∧ (b = true → l0.length ≤ 3 ∧ ∀ t ∈ l0, t.f2.length ≤ 8) := by
    intro d
    induction d with
    | zero =>
      intro i hd hi h
      have hall : ∀ t ∈ l0, t.f2.length ≤ 8 := by
        intro t hm
        obtain ⟨j, hj, rfl⟩ := List.getElem_of_mem hm
        exact h j hj (by omega)
      by_cases c : (l0.length : Int) ≤ 3
      · refine ⟨decide ((l5.length : Int) ≤ 6), Ev.step (f := fun _ => some _) (fun k => ?_) (Ev.now _), fun _ => ⟨by omega, hall⟩⟩
        simp only [sleuthlaw13_Short.l0]
        rw [if_neg (by omega), if_pos c]
      · refine ⟨false, Ev.step (f := fun _ => some false) (fun k => ?_) (Ev.now _), fun h => by cases h⟩
        simp only [sleuthlaw13_Short.l0]
        rw [if_neg (by omega), if_neg c]
    | succ d ih =>
      intro i hd hi h
      have hlt : i < l0.length := by omega
      by_cases c : (l0[i].f2.length : Int) > 8
      · refine ⟨false, Ev.step (f := fun _ => some false) (fun k => ?_) (Ev.now _), fun h => by cases h⟩
        simp only [sleuthlaw13_Short.l0, treeAt l0 hlt]
        rw [if_pos (by omega), if_pos (by omega), if_pos c]
      · obtain ⟨b, h1, h2⟩ := ih (i + 1) (by omega) (by omega) (fun j hj hji => by
          by_cases e : j < i
          · exact h j hj e
          · obtain rfl : j = i := by omega
            omega)
        refine ⟨b, Ev.step (fun k => ?_) h1, h2⟩
        simp only [sleuthlaw13_Short.l0, treeAt l0 hlt]
        rw [if_pos (by omega), if_pos (by omega), if_neg c, show wrap64 ((i : Int) + 1) = ((i + 1 : Nat) : Int) by rw [w64d (by omega) (by omega)]; omega]
  exact key l0.length 0 rfl (Nat.zero_le _) (fun j hj hj0 => absurd hj0 (by omega))
end Go.Proofs.Ythdifdnjodbdnaa.Pl
