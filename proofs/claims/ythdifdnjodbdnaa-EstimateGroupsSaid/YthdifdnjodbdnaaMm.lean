/- Maps made by the call: as plain lists of entries; estimate.By's operations on them. -/
import Derived.Maps.Range
import Derived.Below
import Derived.Test.YthdifdnjodbdnaaTy
import Derived.DeepKeys5
import Derived.Carry
namespace Go.Proofs.Ythdifdnjodbdnaa.Mp
open Go Go.ChangeMaps Go.MapKept
open Go.Maps (Keyed)
set_option linter.unusedVariables false
set_option linter.unusedSimpArgs false
set_option linter.unusedSectionVars false
/-- What is looked up: the first entry at the key, or the nought. -/
def get {K V : Type} [DecidableEq K] : List (K × V) → K → V → V
  | [], _, z => z
  | p :: m, x, z => if p.1 = x then p.2 else get m x z
/-- What a store leaves. -/
def put {K V : Type} [DecidableEq K] : List (K × V) → K → V → List (K × V)
  | [], x, v => [(x, v)]
  | p :: m, x, v => if p.1 = x then (x, v) :: m else p :: put m x v
section
variable {K V : Type} [DecidableEq K]
theorem get_none {m : List (K × V)} {x : K} (h : ∀ p ∈ m, p.1 ≠ x) (z : V) : get m x z = z := by
  induction m with
  | nil => rfl
  | cons p m ih => rw [get, if_neg (h p List.mem_cons_self), ih fun q hq => h q (List.mem_cons_of_mem _ hq)]
theorem put_none {m : List (K × V)} {x : K} (h : ∀ p ∈ m, p.1 ≠ x) (v : V) : put m x v = m ++ [(x, v)] := by
  induction m with
  | nil => rfl
  | cons p m ih => rw [put, if_neg (h p List.mem_cons_self), ih fun q hq => h q (List.mem_cons_of_mem _ hq)]; rfl
theorem get_at : ∀ {m : List (K × V)} {x : K} {c : V} {j : Nat}, (m.map Prod.fst).Nodup → m[j]? = some (x, c) → ∀ z, get m x z = c
  | p :: m, x, c, 0, _, h, z => by
    simp only [List.getElem?_cons_zero, Option.some.injEq] at h
    subst h
    simp [get]
  | p :: m, x, c, j + 1, hn, h, z => by
    rw [List.map_cons, List.nodup_cons] at hn
    rw [List.getElem?_cons_succ] at h
    have : p.1 ≠ x := fun e => hn.1 (e ▸ List.mem_map.2 ⟨(x, c), List.mem_of_getElem? h, rfl⟩)
    rw [get, if_neg this, get_at hn.2 h]
theorem put_at : ∀ {m : List (K × V)} {x : K} {c v : V} {j : Nat}, (m.map Prod.fst).Nodup → m[j]? = some (x, c) → put m x v = m.set j (x, v)
  | p :: m, x, c, v, 0, _, h => by
    simp only [List.getElem?_cons_zero, Option.some.injEq] at h
    subst h
    simp [put]
  | p :: m, x, c, v, j + 1, hn, h => by
    rw [List.map_cons, List.nodup_cons] at hn
    rw [List.getElem?_cons_succ] at h
    have : p.1 ≠ x := fun e => hn.1 (e ▸ List.mem_map.2 ⟨(x, c), List.mem_of_getElem? h, rfl⟩)
    rw [put, if_neg this, put_at hn.2 h, List.set_cons_succ]
theorem put_keys (m : List (K × V)) (x : K) (v : V) : ∀ p ∈ put m x v, p ∈ m ∨ p = (x, v) := by
  induction m with
  | nil => intro p hp; exact .inr (by simpa [put] using hp)
  | cons q m ih =>
    intro p hp
    rw [put] at hp
    split at hp
    · rcases List.mem_cons.1 hp with rfl | hp
      · exact .inr rfl
      · exact .inl (List.mem_cons_of_mem _ hp)
    · rcases List.mem_cons.1 hp with rfl | hp
      · exact .inl List.mem_cons_self
      · rcases ih p hp with h | h
        · exact .inl (List.mem_cons_of_mem _ h)
        · exact .inr h
end
section
variable {K V : Type} [DecidableEq K] (P : Program) (k : TypeId) (kv : K → Value) (vv : V → Value) (good : K → Prop)
/-- The keys that are used, and how they stand in memory. -/
structure Ks : Prop where
  keyed : Keyed P k
  ok : ∀ x, good x → ∃ l, keyOf P k (kv x) = some l
  inj : ∀ x y, kv x = kv y → x = y
/-- Block b is a map with the entries m. -/
def At (w : World) (b : Nat) (m : List (K × V)) : Prop :=
  ∃ es clock, w.heap[b]? = some (.map es clock) ∧ es.toList.map (fun e => (e.key, e.val)) = m.map (fun p => (kv p.1, vv p.2)) ∧ Stamped es clock ∧ ∀ p ∈ m, good p.1
/-- Block r is an iterator over it; 'rest' is still to come. -/
def Rg (w : World) (b r : Nat) (m rest : List (K × V)) : Prop :=
  ∃ es clock since seen c0, w.heap[b]? = some (.map es clock) ∧ es.toList.map (fun e => (e.key, e.val)) = m.map (fun p => (kv p.1, vv p.2)) ∧ Stamped es clock ∧ (∀ p ∈ m, good p.1) ∧
    w.heap[r]? = some (.mapIter (some b) since seen c0) ∧ (∀ x ∈ es.toList, x.born < since) ∧ since ≤ c0 ∧ since ≤ clock ∧ (leftOf es seen).toList.map (fun e => (e.key, e.val)) = rest.map (fun p => (kv p.1, vv p.2))
end
section
variable {K V : Type} [DecidableEq K] {P : Program} {k : TypeId} {kv : K → Value} {vv : V → Value} {good : K → Prop}
theorem At.lt {w : World} {b : Nat} {m : List (K × V)} (h : At kv vv good w b m) : b < w.heap.size := by
  obtain ⟨es, clock, hb, _⟩ := h
  exact (Array.getElem?_eq_some_iff.1 hb).1
theorem At.keys {w : World} {b : Nat} {m : List (K × V)} (h : At kv vv good w b m) : ∀ p ∈ m, good p.1 := h.choose_spec.choose_spec.2.2.2
theorem At.kept {w w' : World} {row : Option Nat} {b : Nat} {m : List (K × V)} (h : At kv vv good w b m) (hg : w.grownBy w' row) (hne : some b ≠ row) : At kv vv good w' b m := by
  have hlt := h.lt
  obtain ⟨es, clock, hb, rest⟩ := h
  exact ⟨es, clock, (hg.block b hlt hne).trans hb, rest⟩
theorem At.same {w w' : World} {b : Nat} {m : List (K × V)} (h : At kv vv good w b m) (he : w'.heap[b]? = w.heap[b]?) : At kv vv good w' b m := by
  obtain ⟨es, clock, hb, rest⟩ := h
  exact ⟨es, clock, he.trans hb, rest⟩
theorem At.made (w : World) : At kv vv good (w.alloc (.map #[] 0)) w.heap.size ([] : List (K × V)) :=
  ⟨#[], 0, (MapKept.heap_alloc w _).1, rfl, ⟨fun _ h => by simp at h, by simp, by simp⟩, fun _ h => by cases h⟩
theorem pair_at {L : List MapEntry} {m : List (K × V)} (h : L.map (fun e => (e.key, e.val)) = m.map (fun p => (kv p.1, vv p.2))) {j : Nat} {e : MapEntry} (hj : L[j]? = some e) : ∃ p, m[j]? = some p ∧ e.key = kv p.1 ∧ e.val = vv p.2 := by
  have h1 := congrArg (fun l => l[j]?) h
  simp only [List.getElem?_map, hj, Option.map_some] at h1
  cases hm : m[j]? with
  | none => rw [hm] at h1; cases h1
  | some p =>
    rw [hm] at h1
    simp only [Option.map_some, Option.some.injEq, Prod.mk.injEq] at h1
    exact ⟨p, rfl, h1.1, h1.2⟩
theorem pair_mem {L : List MapEntry} {m : List (K × V)} (h : L.map (fun e => (e.key, e.val)) = m.map (fun p => (kv p.1, vv p.2))) {p : K × V} (hp : p ∈ m) : ∃ e ∈ L, e.key = kv p.1 ∧ e.val = vv p.2 := by
  have : (kv p.1, vv p.2) ∈ L.map (fun e => (e.key, e.val)) := h ▸ List.mem_map.2 ⟨p, hp, rfl⟩
  obtain ⟨e, he, h2⟩ := List.mem_map.1 this
  simp only [Prod.mk.injEq] at h2
  exact ⟨e, he, h2.1, h2.2⟩
theorem nodup_m {L : List MapEntry} {m : List (K × V)} (h : L.map (fun e => (e.key, e.val)) = m.map (fun p => (kv p.1, vv p.2))) (hn : (L.map (·.key)).Nodup) : (m.map Prod.fst).Nodup := by
  have h1 : L.map (·.key) = (m.map Prod.fst).map kv := by
    have := congrArg (List.map Prod.fst) h
    simpa [List.map_map, Function.comp_def] using this
  rw [h1] at hn
  exact List.Pairwise.of_map kv (fun a b hab e => hab (congrArg kv e)) hn
theorem At.nodup {w : World} {b : Nat} {m : List (K × V)} (h : At kv vv good w b m) : (m.map Prod.fst).Nodup := by
  obtain ⟨es, clock, _, he, hs, _⟩ := h
  exact nodup_m he hs.2.2
theorem reads {L : List MapEntry} {m : List (K × V)} (S : Ks P k kv good) (h : L.map (fun e => (e.key, e.val)) = m.map (fun p => (kv p.1, vv p.2))) (hg : ∀ p ∈ m, good p.1) : ∀ e ∈ L, ∃ l, keyOf P k e.key = some l := by
  intro e he
  obtain ⟨j, hj⟩ := List.getElem?_of_mem he
  obtain ⟨p, hp, e1, _⟩ := pair_at h hj
  obtain ⟨l, hl⟩ := S.ok p.1 (hg p (List.mem_of_getElem? hp))
  exact ⟨l, by rw [e1]; exact hl⟩
theorem At.look {w : World} {b : Nat} {m : List (K × V)} {t e : TypeId} (h : At kv vv good w b m) (S : Ks P k kv good) (ht : P.underlying t = some (.map k e)) {z : V} (hz : (zeroValue e).run P w = .ok (vv z) w) {x : K} (hx : good x) :
    (Instr.lookup t (.map (some b)) (kv x) false).run P w = .ok (vv (get m x z)) w := by
  obtain ⟨es, clock, hb, he, hs, hg⟩ := h
  obtain ⟨kl, hkey⟩ := S.ok x hx
  rcases S.keyed.find w hkey es.toList (reads S he hg) with ⟨h1, h2⟩ | ⟨j, e0, h1, h2, h3⟩
  · have : ∀ p ∈ m, p.1 ≠ x := fun p hp e1 => by
      obtain ⟨e0, he0, e2, _⟩ := pair_mem he hp
      exact h2 e0 he0 (by rw [e2, e1])
    rw [get_none this]
    simp [Instr.lookup, run_underlying ht, MapKept.run_getObj_map hb, S.keyed.check w _ hkey, h1, hz, Result.andThen]
  · obtain ⟨p, hp, e1, e2⟩ := pair_at he h2
    have : p.1 = x := S.inj _ _ (by rw [← e1, h3])
    obtain ⟨px, pc⟩ := p
    simp only at this e2
    subst this
    rw [get_at (nodup_m he hs.2.2) hp, ← e2]
    simp [Instr.lookup, run_underlying ht, MapKept.run_getObj_map hb, S.keyed.check w _ hkey, h1, Result.andThen]
theorem At.store {w : World} {b : Nat} {m : List (K × V)} {t e : TypeId} (h : At kv vv good w b m) (S : Ks P k kv good) (ht : P.underlying t = some (.map k e)) {x : K} (hx : good x) (v : V) :
    ∃ w', (Instr.mapUpdate t (.map (some b)) (kv x) (vv v)).run P w = .ok () w' ∧ At kv vv good w' b (put m x v) ∧ w.grownBy w' (some b) ∧ w'.heap.size = w.heap.size := by
  have hlt := h.lt
  obtain ⟨es, clock, hb, he, hs, hg⟩ := h
  obtain ⟨kl, hkey⟩ := S.ok x hx
  have hgr : ∀ o, w.grownBy (setBlock w b o) (some b) := fun o => ⟨rfl, rfl, rfl, by simp [setBlock], fun i _ hi => (heap_set hb).2 i (fun e1 => hi (by rw [e1]))⟩
  have hgood : ∀ p ∈ put m x v, good p.1 := fun p hp => by
    rcases put_keys m x v p hp with h | rfl
    · exact hg p h
    · exact hx
  rcases S.keyed.find w hkey es.toList (reads S he hg) with ⟨h1, h2⟩ | ⟨j, e0, h1, h2, h3⟩
  · have hne : ∀ p ∈ m, p.1 ≠ x := fun p hp e1 => by
      obtain ⟨e0, he0, e2, _⟩ := pair_mem he hp
      exact h2 e0 he0 (by rw [e2, e1])
    refine ⟨setBlock w b (.map (es.push ⟨kv x, vv v, clock⟩) (clock + 1)), ?_, ⟨_, _, (heap_set hb).1, ?_, stamped_push hs h2, hgood⟩, hgr _, by simp [setBlock]⟩
    · simp [Instr.mapUpdate, run_underlying ht, MapKept.run_getObj_map hb, S.keyed.check w false hkey, h1, MapKept.run_setObj_map _ hb, Result.andThen, setBlock]
    · rw [put_none hne, Array.toList_push, List.map_append, List.map_append, he]
      rfl
  · obtain ⟨p, hp, e1, e2⟩ := pair_at he h2
    have : p.1 = x := S.inj _ _ (by rw [← e1, h3])
    obtain ⟨px, pc⟩ := p
    simp only at this e2
    subst this
    have hj : es[j]? = some e0 := by simpa using h2
    have hkeyf : ∀ e', es[j]? = some e' → ({ e' with key := kv px, val := vv v } : MapEntry).key = e'.key := fun e' he' => by rw [hj] at he'; cases he'; exact h3.symm
    have hlist : (es.modify j (fun e' => { e' with key := kv px, val := vv v })).toList = es.toList.set j { e0 with key := kv px, val := vv v } := by rw [Array.toList_modify, modify_eq_set _ _ _ _ h2]
    refine ⟨setBlock w b (.map (es.modify j (fun e' => { e' with key := kv px, val := vv v })) clock), ?_, ⟨_, _, (heap_set hb).1, ?_, stamped_modify hs _ _ (fun _ _ => rfl) (fun e' _ he' => hkeyf e' he'), hgood⟩, hgr _, by simp [setBlock]⟩
    · simp [Instr.mapUpdate, run_underlying ht, MapKept.run_getObj_map hb, S.keyed.check w false hkey, h1, hj, h3, S.keyed.stays w hkey, MapKept.run_setObj_map _ hb, Result.andThen, setBlock]
    · rw [put_at (nodup_m he hs.2.2) hp, hlist, List.map_set, List.map_set, he]
theorem Rg.lt {w : World} {b r : Nat} {m rest : List (K × V)} (h : Rg kv vv good w b r m rest) : b < w.heap.size ∧ r < w.heap.size := by
  obtain ⟨es, clock, since, seen, c0, hb, _, _, _, hr, _⟩ := h
  exact ⟨(Array.getElem?_eq_some_iff.1 hb).1, (Array.getElem?_eq_some_iff.1 hr).1⟩
theorem Rg.at_ {w : World} {b r : Nat} {m rest : List (K × V)} (h : Rg kv vv good w b r m rest) : At kv vv good w b m := by
  obtain ⟨es, clock, since, seen, c0, hb, he, hs, hg, _⟩ := h
  exact ⟨es, clock, hb, he, hs, hg⟩
theorem Rg.kept {w w' : World} {row : Option Nat} {b r : Nat} {m rest : List (K × V)} (h : Rg kv vv good w b r m rest) (hg : w.grownBy w' row) (hb' : some b ≠ row) (hr' : some r ≠ row) : Rg kv vv good w' b r m rest := by
  obtain ⟨h1, h2⟩ := h.lt
  obtain ⟨es, clock, since, seen, c0, hb, he, hs, hgd, hr, more⟩ := h
  exact ⟨es, clock, since, seen, c0, (hg.block b h1 hb').trans hb, he, hs, hgd, (hg.block r h2 hr').trans hr, more⟩
theorem At.range {w : World} {b : Nat} {m : List (K × V)} {t e : TypeId} (h : At kv vv good w b m) (ht : P.underlying t = some (.map k e)) :
    ∃ o, (Instr.range t (.map (some b))).run P w = .ok (.pointer (some ⟨w.heap.size, 0, none⟩)) (w.alloc o) ∧ Rg kv vv good (w.alloc o) b w.heap.size m m := by
  have hlt := h.lt
  obtain ⟨es, clock, hb, he, hs, hg⟩ := h
  refine ⟨_, run_range_map w t k e b es clock ht hb, es, clock, clock, #[], clock, ((MapKept.heap_alloc w _).2 b hlt).trans hb, he, hs, hg, (MapKept.heap_alloc w _).1, hs.1, Nat.le_refl _, Nat.le_refl _, ?_⟩
  rw [← he]
  unfold leftOf
  rw [Array.toList_filter]
  congr 1
  exact List.filter_eq_self.2 (fun x _ => by simp)
theorem filter_erase : ∀ (L : List MapEntry) (i : Nat) (h : i < L.length), (L.map (·.born)).Nodup → L.filter (fun x => !(x.born == L[i].born)) = L.eraseIdx i
  | a :: L, 0, _, hn => by
    rw [List.map_cons, List.nodup_cons] at hn
    rw [List.eraseIdx_cons_zero, List.getElem_cons_zero, List.filter_cons_of_neg (by simp), List.filter_eq_self]
    intro x hx
    have : x.born ≠ a.born := fun e => hn.1 (e ▸ List.mem_map.2 ⟨x, hx, rfl⟩)
    simpa using this
  | a :: L, i + 1, h, hn => by
    rw [List.map_cons, List.nodup_cons] at hn
    have hi : i < L.length := by simpa using h
    have : a.born ≠ L[i].born := fun e => hn.1 (e ▸ List.mem_map.2 ⟨L[i], List.getElem_mem hi, rfl⟩)
    rw [List.getElem_cons_succ, List.eraseIdx_cons_succ, List.filter_cons_of_pos (by simpa using this), filter_erase L i hi hn.2]
theorem Rg.next {w : World} {b r : Nat} {m rest : List (K × V)} (h : Rg kv vv good w b r m rest) (hbr : b ≠ r) (ty : TypeId) :
    (rest = [] ∧ (Instr.next (.pointer (some ⟨r, 0, none⟩)) false ty).run P w = .ok (.tuple #[.bool false]) w) ∨
    ∃ i, ∃ hi : i < rest.length, ∃ w', (Instr.next (.pointer (some ⟨r, 0, none⟩)) false ty).run P w = .ok (.tuple #[.bool true, kv rest[i].1, vv rest[i].2]) w' ∧
      (Instr.entry (.pointer (some ⟨r, 0, none⟩))).run P w' = .ok (.tuple #[kv rest[i].1, vv rest[i].2]) w' ∧ Rg kv vv good w' b r m (rest.eraseIdx i) ∧ w.grownBy w' (some r) ∧ w'.heap.size = w.heap.size := by
  obtain ⟨es, clock, since, seen, c0, hb, he, hs, hg, hr, hold, hsc, hsk, hrest⟩ := h
  rcases run_next_at (P := P) w ty r b since c0 seen es clock hr hb hold hsc with ⟨h0, hrun⟩ | ⟨e, hmem, w1, hal, hrun⟩
  · refine .inl ⟨?_, hrun⟩
    have : (leftOf es seen).toList = [] := by
      rw [← List.length_eq_zero_iff]
      simpa using h0
    rw [this] at hrest
    exact List.map_eq_nil_iff.1 hrest.symm
  · obtain ⟨hem, hes⟩ := mem_left hmem
    obtain ⟨i, hi⟩ := List.getElem?_of_mem hmem
    obtain ⟨p, hp, e1, e2⟩ := pair_at hrest hi
    obtain ⟨hil, hpe⟩ := List.getElem?_eq_some_iff.1 hp
    have hr1 : w1.heap[r]? = some (.mapIter (some b) since seen c0) := by rcases hal with rfl | rfl <;> exact hr
    have hb1 : w1.heap[b]? = some (.map es clock) := by rcases hal with rfl | rfl <;> exact hb
    have hset := heap_set (o' := .mapIter (some b) since (seen.push e.born) clock) hr1
    have hb' : (setBlock w1 r (.mapIter (some b) since (seen.push e.born) clock)).heap[b]? = some (.map es clock) := (hset.2 b hbr).trans hb1
    have hent := run_entry_at (P := P) _ r b since seen es clock e hset.1 hb' hem ((stamped_iff es clock).1 hs).2.1
    refine .inr ⟨i, hil, _, by rw [hpe, ← e1, ← e2]; exact hrun, by rw [hpe, ← e1, ← e2]; exact hent,
      ⟨es, clock, since, seen.push e.born, clock, hb', he, hs, hg, hset.1, hold, hsk, hsk, ?_⟩, ?_, ?_⟩
    · obtain ⟨hi1, hi2⟩ := List.getElem?_eq_some_iff.1 hi
      have hnd : ((leftOf es seen).toList.map (·.born)).Nodup := by
        unfold leftOf
        rw [Array.toList_filter]
        exact hs.2.1.sublist (List.Sublist.map _ List.filter_sublist)
      have e3 : (leftOf es (seen.push e.born)).toList = (leftOf es seen).toList.eraseIdx i := by
        rw [← filter_erase _ i hi1 hnd, hi2]
        unfold leftOf
        rw [Array.toList_filter, Array.toList_filter, List.filter_filter]
        congr 1
        funext x
        rw [contains_push]
        cases seen.contains x.born <;> cases (x.born == e.born) <;> rfl
      rw [e3, map_eraseIdx, map_eraseIdx, hrest]
    · rcases hal with rfl | rfl <;> exact ⟨rfl, rfl, rfl, by simp [setBlock], fun i _ hi => hset.2 i (fun e1 => hi (by rw [e1]))⟩
    · rcases hal with rfl | rfl <;> simp [setBlock]
end
end Go.Proofs.Ythdifdnjodbdnaa.Mp
namespace Go.Proofs.Ythdifdnjodbdnaa.Mr
open Go.RowKit Go.Proofs.YthdifdnjodbdnaaW.PrintWords Go.Proofs.YthdifdnjodbdnaaW.PrintLast Go.Proofs.YthdifdnjodbdnaaW.PrintMore Go.Proofs.Ythdifdnjodbdnaa.Q
open Go.Maps (Keyed)
set_option linter.unusedVariables false
set_option linter.unusedSimpArgs false
set_option linter.unusedSectionVars false
instance : DecidableEq S39 := fun ⟨a, b, c⟩ ⟨d, e, f⟩ => if h : a = d ∧ b = e ∧ c = f then isTrue (by obtain ⟨rfl, rfl, rfl⟩ := h; rfl) else isFalse (fun e => h (by cases e; exact ⟨rfl, rfl, rfl⟩))
def kvG (x : S39) : Value := .agg #[.string x.f0, .string x.f1, .string x.f2]
def good (x : S39) : Prop := x.f0.size ≤ maxLen ∧ x.f1.size ≤ maxLen ∧ x.f2.size ≤ maxLen
instance (x : S39) : Decidable (good x) := inferInstanceAs (Decidable (_ ∧ _))
theorem laidOut : laidOutB Try.prog = true := by kernel_rfl
theorem keyType39 : Try.prog.keyType 39 = true := by kernel_rfl
theorem size_types : ∃ n, Try.prog.types.size + 1 = n + 2 := ⟨Try.prog.types.size - 1, by have : 0 < Try.prog.types.size := of_decide_eq_true (by kernel_rfl); omega⟩
theorem lits_string (n : Nat) (s : ByteArray) (h : s.size ≤ maxLen) : Try.prog.keyLits (n + 1) 9 [.string s] = some [.string s.data.toList] := by
  unfold Program.keyLits
  rw [Try.underlying9]
  simp [h]
theorem cells39 : Try.prog.cellsOf 39 = 3 := by kernel_rfl
theorem cellsS : Try.prog.cellsOf 9 = 1 := by kernel_rfl
theorem key_of (x : S39) (h : good x) : ∃ l, keyOf Try.prog 39 (kvG x) = some l := by
  obtain ⟨n, hn⟩ := size_types
  obtain ⟨h0, h1, h2⟩ := h
  unfold keyOf
  rw [Try.underlying39]
  have hl : Try.prog.keyLits (n + 2) 39 [.string x.f0, .string x.f1, .string x.f2] = some [.string x.f0.data.toList, .string x.f1.data.toList, .string x.f2.data.toList] := by
    unfold Program.keyLits
    rw [Try.underlying39, cells39]
    simp [cellsS, lits_string n _ h0, lits_string n _ h1, lits_string n _ h2]
  simp only [keyType39, Bool.true_and, kvG, Value.cells, hn, hl, Option.map_some]
  have hf : (Value.agg #[.string x.f0, .string x.f1, .string x.f2]).formed Try.prog 39 = true := by
    simp [Value.formed, cells39]
  rw [if_pos hf]
  exact ⟨_, rfl⟩
theorem ks : Mp.Ks Try.prog 39 kvG good where
  keyed := Keyed.of_law (deep_law_gate laidOut (of_decide_eq_true (by kernel_rfl)) (of_decide_eq_true (by kernel_rfl)) keyType39 (by rw [Try.underlying39]))
  ok := key_of
  inj := fun ⟨a, b, c⟩ ⟨d, e, f⟩ h => by
    simp only [kvG, Value.agg.injEq, Array.mk.injEq, List.cons.injEq, Value.string.injEq, and_true] at h
    obtain ⟨rfl, rfl, rfl⟩ := h
    rfl
/-- How the elements stand in memory. -/
structure MK where vv : S37 → Value
def mT : MK := ⟨fun x => .agg #[.int .i64 x.f0, .int .i64 x.f1, .int .i64 x.f2, .int .i64 x.f3]⟩
def mS : MK := ⟨fun x => .bool (x.f0 == 1)⟩
def mB : Value → Option Nat
  | .map b => b
  | _ => none
abbrev pr (x : S41) : S39 × S37 := (x.f0, x.f1)
/-- v is a map of the call's own, with these entries. -/
def R (d : MK) (w : World) (base : Nat) (ok : Nat → Prop) (v : Value) (xs : List S41) : Prop :=
  ∃ b, v = .map (some b) ∧ base ≤ b ∧ ok b ∧ Mp.At kvG d.vv good w b (xs.map pr)
section
variable {d d' : MK} {w w1 W W2 : World} {base base' : Nat} {ok ok1 ok' S : Nat → Prop} {v u : Value} {xs ys : List S41}
theorem R_map (h : R d w base ok v xs) : ∃ b, v = .map (some b) := ⟨_, h.choose_spec.1⟩
theorem R_ok (h : R d w base ok v xs) : ∀ k, mB v = some k → ok k := by
  obtain ⟨b, rfl, _, hb, _⟩ := h
  rintro k ⟨⟩
  exact hb
theorem R_step (h : R d w base ok v xs) (hm : ∀ k, ok k → k < w.heap.size → w1.heap[k]? = w.heap[k]?) : R d w1 base ok v xs := by
  obtain ⟨b, e, h1, h2, h3⟩ := h
  exact ⟨b, e, h1, h2, h3.same (hm b h2 h3.lt)⟩
theorem R_mono (h : R d w base ok v xs) (hok : ∀ k, ok k → ok' k) : R d w base ok' v xs := by
  obtain ⟨b, e, h1, h2, h3⟩ := h
  exact ⟨b, e, h1, hok _ h2, h3⟩
theorem R_below (h : R d w base ok v xs) (hb : Below w.heap.size w w1) : R d w1 base ok v xs := R_step h (fun k _ hk => hb.block k hk)
theorem R_alloc (h : R d w base ok v xs) (o : Obj) : R d (w.alloc o) base ok v xs := R_below h (below_alloc (Below.refl _ _) o)
theorem R_drew (h : R d w base ok v xs) : R d w.drew base ok v xs := R_below h (below_drew (Below.refl _ _))
theorem R_drewN (h : R d w base ok v xs) (m : Nat) : R d (w.drewN m) base ok v xs := R_below h (pw_below_drewN (Below.refl _ _) m)
theorem R_ne (h : R d w base ok v xs) {g t : Nat} {cells : Array Value} (hb : w.heap[g]? = some (.cells cells t (0, 0))) (_ht : True) : some g ≠ mB v := by
  obtain ⟨b, rfl, _, _, es, clock, hh, _⟩ := h
  intro e
  have : g = b := by simpa [mB] using e
  subst this
  rw [hb] at hh
  cases hh
theorem R_types (h : R d w base ok v xs) {g t : Nat} {cells : Array Value} (hb : w.heap[g]? = some (.cells cells t (0, 0))) (_ht : True) : R d w base (fun k => ok k ∧ k ≠ g) v xs := by
  have hne := R_ne h hb trivial
  obtain ⟨b, rfl, h1, h2, h3⟩ := h
  exact ⟨b, rfl, h1, ⟨h2, fun e => hne (by rw [e]; rfl)⟩, h3⟩
theorem R_far (h : R d w base ok v xs) {p : Addr} (hok : ∀ k, ok k → k ≠ p.block) (u : Value) : R d (w.setCell p u) base ok v xs := R_step h (fun k ho _ => Below.heap_setCell w p u k (hok k ho))
theorem R_tight (_hE : (0 : Nat) = 0) (h : R d w base ok v xs) : R d w base (fun k => some k = mB v) v xs := by
  obtain ⟨b, rfl, h1, h2, h3⟩ := h
  exact ⟨b, rfl, h1, rfl, h3⟩
theorem R_reok (_hE : (0 : Nat) = 0) (h : R d w base ok1 v xs) (hok : ∀ k, mB v = some k → ok k) : R d w base ok v xs := R_mono (R_tight rfl h) (fun k hk => hok k hk.symm)
theorem R_keptB (h : R d W base ok v xs) (hk : Kept W W2 S) (hne : ∀ k, ok k → ¬ S k) : R d W2 base (fun k => ok k ∧ (¬ S k ∧ k < W.heap.size)) v xs := by
  obtain ⟨b, rfl, h1, h2, h3⟩ := h
  exact ⟨b, rfl, h1, ⟨h2, hne b h2, h3.lt⟩, h3.same (hk.2 b h3.lt (hne b h2))⟩
theorem R_lower (h : R d w base ok v xs) (hb : base' ≤ base) : R d w base' ok v xs := by
  obtain ⟨b, rfl, h1, h2, h3⟩ := h
  exact ⟨b, rfl, Nat.le_trans hb h1, h2, h3⟩
theorem R_new' (h : R d w1 W.heap.size ok v xs) (hlt : ∀ k, mB u = some k → k < W.heap.size) : R d w1 W.heap.size (fun k => ok k ∧ some k ≠ mB u) v xs := by
  obtain ⟨b, rfl, h1, h2, h3⟩ := h
  exact ⟨b, rfl, h1, ⟨h2, fun e => absurd (hlt b e.symm) (by omega)⟩, h3⟩
theorem R_lt (h : R d w base ok v xs) : ∀ k, mB v = some k → k < w.heap.size := by
  obtain ⟨b, rfl, _, _, h3⟩ := h
  rintro k ⟨⟩
  exact h3.lt
theorem R_base (h : R d w base ok v xs) : ∀ k, mB v = some k → base ≤ k := by
  obtain ⟨b, rfl, h1, _⟩ := h
  rintro k ⟨⟩
  exact h1
theorem R_elder' (hu : R d W base ok u xs) (hbase : ∀ k, mB v = some k → W.heap.size ≤ k) (hb : Below W.heap.size W w1) : R d w1 base (fun k => ok k ∧ some k ≠ mB v) u xs := by
  have h := R_below hu hb
  obtain ⟨b, rfl, h1, h2, h3⟩ := hu
  obtain ⟨b', e, h1', h2', h3'⟩ := h
  cases e
  exact ⟨b, rfl, h1, ⟨h2, fun e => absurd (hbase b e.symm) (by have := h3.lt; omega)⟩, h3'⟩
end
end Go.Proofs.Ythdifdnjodbdnaa.Mr
namespace Go.Proofs.Ythdifdnjodbdnaa.Mr
open Go.RowKit Go.Proofs.YthdifdnjodbdnaaW.PrintWords Go.Proofs.YthdifdnjodbdnaaW.PrintLast Go.Proofs.YthdifdnjodbdnaaW.PrintMore Go.Proofs.Ythdifdnjodbdnaa.Q
set_option linter.unusedVariables false
set_option linter.unusedSimpArgs false
set_option linter.unusedSectionVars false
def getL (l : List S41) (k : S39) : S37 := Mp.get (l.map pr) k z37
def putL (l : List S41) (k : S39) (v : S37) : List S41 := (Mp.put (l.map pr) k v).map fun p => ⟨p.1, p.2⟩
theorem put_pr (l : List S41) (k : S39) (v : S37) : (putL l k v).map pr = Mp.put (l.map pr) k v := by
  unfold putL
  rw [List.map_map]
  exact List.map_id _
def findF (l : List S41) (a b c : ByteArray) : Option Bool := if good ⟨a, b, c⟩ then some ((getL l ⟨a, b, c⟩).f0 == 1) else none
def topF (l : List S41) (a b c : ByteArray) : Option (Int × Int × Int × Int) := if good ⟨a, b, c⟩ then some ((getL l ⟨a, b, c⟩).f0, (getL l ⟨a, b, c⟩).f1, (getL l ⟨a, b, c⟩).f2, (getL l ⟨a, b, c⟩).f3) else none
def sumF (l : List S41) (a b c : ByteArray) : Option (List S41) := if good ⟨a, b, c⟩ then some (putL l ⟨a, b, c⟩ ⟨1, 0, 0, 0⟩) else none
def mergeF (l : List S41) (a b c : ByteArray) (x y z u : Int) : Option (List S41) := if good ⟨a, b, c⟩ then some (putL l ⟨a, b, c⟩ ⟨x, y, z, u⟩) else none
theorem zero37 (w : World) : (zeroValue 37).run Try.prog w = .ok (mT.vv z37) w := by kernel_rfl
theorem zero4 (w : World) : (zeroValue 4).run Try.prog w = .ok (mS.vv z37) w := by kernel_rfl
section
variable {d : MK} {w : World} {base : Nat} {ok : Nat → Prop} {v : Value} {l l' : List S41}
theorem R_look {t e : TypeId} (ht : Try.prog.underlying t = some (.map 39 e)) (hz : (zeroValue e).run Try.prog w = .ok (d.vv z37) w) (h : R d w base ok v l) {k : S39} (hk : good k) : (Instr.lookup t v (kvG k) false).run Try.prog w = .ok (d.vv (getL l k)) w := by
  obtain ⟨b, rfl, _, _, h3⟩ := h
  exact h3.look ks ht hz hk
theorem R_store {t e : TypeId} (ht : Try.prog.underlying t = some (.map 39 e)) (h : R d w base ok v l) {k : S39} (hk : good k) (x : S37) :
    ∃ w' b, (Instr.mapUpdate t v (kvG k) (d.vv x)).run Try.prog w = .ok () w' ∧ R d w' base ok v (putL l k x) ∧ w.grownBy w' (some b) ∧ base ≤ b ∧ ok b ∧ b < w.heap.size ∧ mB v = some b := by
  obtain ⟨b, rfl, h1, h2, h3⟩ := h
  obtain ⟨w', r1, r2, r3, _⟩ := h3.store ks ht hk x
  exact ⟨w', b, r1, ⟨b, rfl, h1, h2, by rw [put_pr]; exact r2⟩, r3, h1, h2, h3.lt, rfl⟩
variable {ops : Array Oper} {rest : List Oper} {o : Oper} {a : Act} {Q : Exit → Act → World → Prop}
/-- 'make(map)'. -/
theorem make_w (d : MK) (t : TypeId) (hg : o.guard = none) (hop : o.op = Op.makeMap t none) (hK : ∀ v w', R d w' w.heap.size (fun _ => True) v [] → Below w.heap.size w w' → wpList Try.prog ops Q rest (a.put o.dst v) w') : wpList Try.prog ops Q (o :: rest) a w := by
  refine wpList_plain hg fun K' hK' => ?_
  unfold Oper.wp
  simp [execOp, hop, run_makeMap, Result.andThen]
  exact hK' _ _ (hK _ _ ⟨_, rfl, Nat.le_refl _, trivial, Mp.At.made w⟩ (below_alloc (Below.refl _ _) _))
theorem make_w' (d : MK) (t : TypeId) {xs : List S41} (hx : some ([] : List S41) = some xs) (hg : o.guard = none) (hop : o.op = Op.makeMap t none) (hK : ∀ v w', R d w' w.heap.size (fun _ => True) v xs → Below w.heap.size w w' → wpList Try.prog ops Q rest (a.put o.dst v) w') : wpList Try.prog ops Q (o :: rest) a w := by
  cases hx
  exact make_w d t hg hop hK
/-- 'seen[g]'. -/
theorem find_w (hg : o.guard = none) (m x : Operand) (hop : o.op = Op.lookup 98 m x false) {p q r : ByteArray} {c : Bool} (hm : a.eval m = v) (hx : a.eval x = .agg #[.string p, .string q, .string r]) (h : R mS w base ok v l) (hf : findF l p q r = some c)
    (hK : ∀ w', Below w.heap.size w w' → wpList Try.prog ops Q rest (a.put o.dst (.bool c)) w') : wpList Try.prog ops Q (o :: rest) a w := by
  unfold findF at hf
  split at hf
  · rename_i hk
    cases hf
    have hrun := R_look Try.underlying98 (zero4 w) h hk
    refine wpList_plain hg fun K' hK' => ?_
    have hx' : a.eval x = kvG ⟨p, q, r⟩ := hx
    unfold Oper.wp
    simp [execOp, hop, hm, hx', hrun, Result.andThen]
    exact hK' _ _ (hK _ (Below.refl _ _))
  · cases hf
/-- 'totals[g]', where the order is drawn. -/
theorem top_d {N : Option Tmp} {K : Act → World → Prop} (hw : Region.wanted o (yielded ops a.tmps) = true) (hN : o.dst = N) (m x : Operand) (hop : o.op = Op.lookup 97 m x false) {p q r : ByteArray} {r1 r2 r3 r4 : Int} (hm : a.eval m = v)
    (hx : a.eval x = .agg #[.string p, .string q, .string r]) (h : R mT w base ok v l) (hf : topF l p q r = some (r1, r2, r3, r4))
    (hK : ∀ w', Below w.heap.size w w' → K (a.put N (.agg #[.int .i64 r1, .int .i64 r2, .int .i64 r3, .int .i64 r4])) w') : if Region.wanted o (yielded ops a.tmps) = true then Oper.wp Try.prog o a w K Q else K (a.put N undef) w := by
  unfold topF at hf
  split at hf
  · rename_i hk
    cases hf
    have hrun := R_look Try.underlying97 (zero37 w) h hk
    have hx' : a.eval x = kvG ⟨p, q, r⟩ := hx
    refine value_ hw hN ?_ (hK w (Below.refl _ _))
    unfold execOp
    simp [hop, hm, hx', hrun, Result.andThen]
    rfl
  · cases hf
/-- 'm[g] = x', where the order is drawn. -/
theorem put_d {K : Act → World → Prop} {t e : TypeId} (ht : Try.prog.underlying t = some (.map 39 e)) (hw : Region.wanted o (yielded ops a.tmps) = true) (hN : o.dst = none) (m x y : Operand) (hop : o.op = Op.mapUpdate t m x y) {p q r : ByteArray} {z : S37} {w0 : World} (hm : a.eval m = v)
    (hx : a.eval x = .agg #[.string p, .string q, .string r]) (hy : a.eval y = d.vv z) (hk : good ⟨p, q, r⟩) (hB : Below w0.heap.size w0 w) (h : R d w w0.heap.size ok v l)
    (hK : ∀ w', R d w' w0.heap.size (fun k_ => ok k_ ∨ w.heap.size ≤ k_) v (putL l ⟨p, q, r⟩ z) → Below w0.heap.size w0 w' → Kept w w' (fun k_ => ok k_) → K a w') : if Region.wanted o (yielded ops a.tmps) = true then Oper.wp Try.prog o a w K Q else K (a.put none undef) w := by
  obtain ⟨w', b, hrun, h1, h2, h3, h4, h5, h6⟩ := R_store ht h hk z
  have hx' : a.eval x = kvG ⟨p, q, r⟩ := hx
  refine skip_ hw hN (w1 := w') ?_ (hK w' (R_mono h1 (fun k hk => .inl hk)) (hB.grown h2 hB.size (fun k hk => by cases hk; exact h3)) (Kept.of_grown h2 (Kept.refl _ _) (fun k hk => by cases hk; exact .inl h4)))
  unfold execOp
  simp [hop, hm, hx', hy, hrun, Result.andThen]
theorem sum_d {K : Act → World → Prop} (hw : Region.wanted o (yielded ops a.tmps) = true) (hN : o.dst = none) (m x y : Operand) (hop : o.op = Op.mapUpdate 98 m x y) {p q r : ByteArray} {w0 : World} (hm : a.eval m = v)
    (hx : a.eval x = .agg #[.string p, .string q, .string r]) (hy : a.eval y = .bool true) (hB : Below w0.heap.size w0 w) (h : R mS w w0.heap.size ok v l) (hf : sumF l p q r = some l')
    (hK : ∀ w', R mS w' w0.heap.size (fun k_ => ok k_ ∨ w.heap.size ≤ k_) v l' → Below w0.heap.size w0 w' → Kept w w' (fun k_ => ok k_) → K a w') : if Region.wanted o (yielded ops a.tmps) = true then Oper.wp Try.prog o a w K Q else K (a.put none undef) w := by
  unfold sumF at hf
  split at hf
  · rename_i hk
    cases hf
    exact put_d Try.underlying98 hw hN m x y hop hm hx (hy.trans rfl) hk hB h hK
  · cases hf
theorem merge_d {K : Act → World → Prop} (hw : Region.wanted o (yielded ops a.tmps) = true) (hN : o.dst = none) (m x y : Operand) (hop : o.op = Op.mapUpdate 97 m x y) {p q r : ByteArray} {r1 r2 r3 r4 : Int} {w0 : World} (hm : a.eval m = v)
    (hx : a.eval x = .agg #[.string p, .string q, .string r]) (hy : a.eval y = .agg #[.int .i64 r1, .int .i64 r2, .int .i64 r3, .int .i64 r4]) (hB : Below w0.heap.size w0 w) (h : R mT w w0.heap.size ok v l) (hf : mergeF l p q r r1 r2 r3 r4 = some l')
    (hK : ∀ w', R mT w' w0.heap.size (fun k_ => ok k_ ∨ w.heap.size ≤ k_) v l' → Below w0.heap.size w0 w' → Kept w w' (fun k_ => ok k_) → K a w') : if Region.wanted o (yielded ops a.tmps) = true then Oper.wp Try.prog o a w K Q else K (a.put none undef) w := by
  unfold mergeF at hf
  split at hf
  · rename_i hk
    cases hf
    exact put_d Try.underlying97 hw hN m x y hop hm hx (hy.trans rfl) hk hB h hK
  · cases hf
/-! The functions that estimate.grouping gives. -/
def gv (g : Int) : Value := if g = 0 then .nilFunc else .func (.func g.toNat) #[] #[]
def grpF (a1 : Int) : Option (Int × Bool) := some (if a1 = 1 then (62, true) else if a1 = 2 then (63, true) else if a1 = 3 then (64, true) else (0, false))
def keyF (s v o : ByteArray) (g : Int) : Option (ByteArray × ByteArray × ByteArray) := if g = 62 then some (s, ⟨#[]⟩, ⟨#[]⟩) else if g = 63 then some (s, v, ⟨#[]⟩) else if g = 64 then some (s, ⟨#[]⟩, o) else none
/-- A call of a function value. -/
theorem goesV_ (N : Option Tmp) (hd : o.dst = N) (hg : o.guard = none) {f : FuncId} {fn : Func} {qs : Array Operand} {ts : Array TypeId} {y : Operand} (hf : Try.prog.funcs[f]? = some fn) (hname : (fn.name == "runtime.NumGoroutine") = false) (hb : fn.body.isSome = true) (args : Array Value)
    (hop : o.op = .call { callee := .value y, args := qs, argTypes := ts }) (hy : a.eval y = .func (.func f) #[] #[]) (hargs : qs.map a.eval = args)
    (h : Calls Try.prog f args w fun e w' => ∃ v, e = .returned v ∧ wpList Try.prog ops Q rest (a.put N v) w') : wpList Try.prog ops Q (o :: rest) a w := by
  refine wpList_plain hg fun K hK => ?_
  have he := enters_ hf hname hb args w
  have hrun : (execOp a.eval o).run Try.prog w = .ok (.enter f args) w := by
    unfold execOp
    simp [hop, resolve, Deferred.ofValue, invoke, hy, hargs, he]
  unfold Oper.wp
  rw [hrun, Oper.upon_enter]
  refine h.mono fun e w'' hh => ?_
  obtain ⟨v, rfl, hk⟩ := hh
  subst hd
  exact hK _ _ hk
end
end Go.Proofs.Ythdifdnjodbdnaa.Mr
