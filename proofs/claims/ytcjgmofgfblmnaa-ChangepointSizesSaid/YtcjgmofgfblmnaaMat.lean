/- changepoint.Match: the plain mathematics, the walk, the contract. -/
import Derived.Test.YtcjgmofgfblmnaaQgChg
import Derived.Test.YtcjgmofgfblmnaaQgCosts
import Derived.Lib.Hide
import Derived.Laws.Rows
import Derived.LaidEqlPtr
import Derived.Outline
import Derived.RegionTactic
import Derived.Deep.QuietTactic
import Derived.BigQuiet
import Derived.Deep.RegionHeld3
import Derived.Laws.Pointers
import Derived.WalkSpells
import Derived.Deep.DeepCutAuto
import Derived.Deep.CutBlock
import Derived.Laws.MakeOwn
import Derived.Laws.OwnMore
import Derived.IntWalk
namespace Go.Proofs.Ytcjgmofgfblmnaa.Mat
set_option linter.unusedVariables false
set_option linter.unusedSimpArgs false
set_option linter.unusedSimpArgs false
abbrev Pr := Nat × Nat
/-- Lesser, place by place. -/
def plt (p q : Pr) : Prop := p.1 < q.1 ∨ (p.1 = q.1 ∧ p.2 < q.2)
def lex : List Pr → List Pr → Prop
  | p :: l, q :: m => plt p q ∨ (p = q ∧ lex l m)
  | _, _ => False
theorem lex_irr : ∀ l : List Pr, ¬ lex l l
  | [] => fun h => h
  | p :: l => fun h => h.elim (fun h => by unfold plt at h; omega) (fun h => lex_irr l h.2)
theorem lex_trans : ∀ {a b c : List Pr}, lex a b → lex b c → lex a c
  | p :: a, q :: b, r :: c, h1, h2 => by
    rcases h1 with h1 | ⟨rfl, h1⟩
    · rcases h2 with h2 | ⟨rfl, h2⟩
      · refine .inl ?_; unfold plt at *; omega
      · exact .inl h1
    · rcases h2 with h2 | ⟨rfl, h2⟩
      · exact .inl h2
      · exact .inr ⟨rfl, lex_trans h1 h2⟩
theorem lex_total : ∀ {a b : List Pr}, a.length = b.length → a = b ∨ lex a b ∨ lex b a
  | [], [], _ => .inl rfl
  | p :: a, q :: b, h => by
    by_cases e : p = q
    · subst e
      rcases lex_total (a := a) (b := b) (by simpa using h) with h | h | h
      · exact .inl (by rw [h])
      · exact .inr (.inl (.inr ⟨rfl, h⟩))
      · exact .inr (.inr (.inr ⟨rfl, h⟩))
    · have : plt p q ∨ plt q p := by
        have : ¬ (p.1 = q.1 ∧ p.2 = q.2) := fun h => e (Prod.ext h.1 h.2)
        unfold plt; omega
      rcases this with h | h
      · exact .inr (.inl (.inl h))
      · exact .inr (.inr (.inl h))
/-- What may be matched, and how far it is apart. -/
structure Game where
  n : Nat
  m : Nat
  ok : Nat → Nat → Bool
  ds : Nat → Nat → Int
variable (G : Game)
def dist : List Pr → Int
  | [] => 0
  | p :: l => G.ds p.1 p.2 + dist l
def IsM : Nat → Nat → List Pr → Prop
  | _, _, [] => True
  | i, k, p :: l => i ≤ p.1 ∧ p.1 < G.n ∧ k ≤ p.2 ∧ p.2 < G.m ∧ G.ok p.1 p.2 = true ∧ IsM (p.1 + 1) (p.2 + 1) l
def bt (a b : List Pr) : Prop := b.length < a.length ∨ (a.length = b.length ∧ (dist G a < dist G b ∨ (dist G a = dist G b ∧ lex a b)))
theorem bt_irr (a : List Pr) : ¬ bt G a a := fun h => by
  rcases h with h | ⟨_, h | ⟨_, h⟩⟩
  · omega
  · omega
  · exact lex_irr a h
theorem bt_trans {a b c : List Pr} (h1 : bt G a b) (h2 : bt G b c) : bt G a c := by
  rcases h1 with h1 | ⟨e1, h1 | ⟨d1, h1⟩⟩
  · rcases h2 with h2 | ⟨e2, _⟩
    · exact .inl (by omega)
    · exact .inl (by omega)
  · rcases h2 with h2 | ⟨e2, h2 | ⟨d2, h2⟩⟩
    · exact .inl (by omega)
    · exact .inr ⟨by omega, .inl (by omega)⟩
    · exact .inr ⟨by omega, .inl (by omega)⟩
  · rcases h2 with h2 | ⟨e2, h2 | ⟨d2, h2⟩⟩
    · exact .inl (by omega)
    · exact .inr ⟨by omega, .inl (by omega)⟩
    · exact .inr ⟨by omega, .inr ⟨by omega, lex_trans h1 h2⟩⟩
theorem bt_total (a b : List Pr) : a = b ∨ bt G a b ∨ bt G b a := by
  rcases Nat.lt_trichotomy a.length b.length with h | h | h
  · exact .inr (.inr (.inl h))
  · rcases Int.lt_trichotomy (dist G a) (dist G b) with d | d | d
    · exact .inr (.inl (.inr ⟨h, .inl d⟩))
    · rcases lex_total h with l | l | l
      · exact .inl l
      · exact .inr (.inl (.inr ⟨h, .inr ⟨d, l⟩⟩))
      · exact .inr (.inr (.inr ⟨h.symm, .inr ⟨d.symm, l⟩⟩))
    · exact .inr (.inr (.inr ⟨h.symm, .inl d⟩))
  · exact .inr (.inl (.inl h))
theorem bt_cons (p : Pr) {a b : List Pr} : bt G (p :: a) (p :: b) ↔ bt G a b := by
  unfold bt
  simp only [List.length_cons, dist, lex]
  have : ¬ plt p p := by unfold plt; omega
  constructor
  · rintro (h | ⟨h1, h2 | ⟨h2, h3 | ⟨_, h3⟩⟩⟩)
    · exact .inl (by omega)
    · exact .inr ⟨by omega, .inl (by omega)⟩
    · exact absurd h3 this
    · exact .inr ⟨by omega, .inr ⟨by omega, h3⟩⟩
  · rintro (h | ⟨h1, h2 | ⟨h2, h3⟩⟩)
    · exact .inl (by omega)
    · exact .inr ⟨by omega, .inl (by omega)⟩
    · exact .inr ⟨by omega, .inr ⟨by omega, .inr ⟨trivial, h3⟩⟩⟩
def Best (i k : Nat) (l : List Pr) : Prop := IsM G i k l ∧ ∀ l', IsM G i k l' → l' = l ∨ bt G l l'
theorem Best.unique {G : Game} {i k : Nat} {l l' : List Pr} (h : Best G i k l) (h' : Best G i k l') : l = l' := by
  rcases h.2 l' h'.1 with e | e
  · exact e.symm
  · rcases h'.2 l h.1 with f | f
    · exact f
    · exact absurd (bt_trans G e f) (bt_irr G l)
theorem IsM.mono {G : Game} {i k i' k' : Nat} {l : List Pr} (h : IsM G i k l) (hi : i' ≤ i) (hk : k' ≤ k) : IsM G i' k' l := by
  cases l with
  | nil => trivial
  | cons p l => exact ⟨by have := h.1; omega, h.2.1, by have := h.2.2.1; omega, h.2.2.2⟩
theorem isM_end {i k : Nat} (h : G.n ≤ i ∨ G.m ≤ k) {l : List Pr} (hl : IsM G i k l) : l = [] := by
  cases l with
  | nil => rfl
  | cons p l => have := hl.1; have := hl.2.1; have := hl.2.2.1; have := hl.2.2.2.1; omega
theorem Best.end_ {i k : Nat} (h : G.n ≤ i ∨ G.m ≤ k) : Best G i k [] := ⟨trivial, fun l' hl => .inl (isM_end G h hl)⟩
/-- One place of the table. -/
theorem Best.step {G : Game} {i k : Nat} (hi : i < G.n) (hk : k < G.m) {lb ln lp b1 b2 : List Pr} (hb : Best G (i + 1) k lb) (hn : Best G i (k + 1) ln) (hp : Best G (i + 1) (k + 1) lp)
    (h1 : (bt G ln lb ∧ b1 = ln) ∨ (¬ bt G ln lb ∧ b1 = lb))
    (h2 : (G.ok i k = true ∧ bt G ((i, k) :: lp) b1 ∧ b2 = (i, k) :: lp) ∨ (¬ (G.ok i k = true ∧ bt G ((i, k) :: lp) b1) ∧ b2 = b1)) : Best G i k b2 := by
  have b1b : lb = b1 ∨ bt G b1 lb := by
    rcases h1 with ⟨h, rfl⟩ | ⟨h, rfl⟩
    · exact .inr h
    · exact .inl rfl
  have b1n : ln = b1 ∨ bt G b1 ln := by
    rcases h1 with ⟨h, rfl⟩ | ⟨h, rfl⟩
    · exact .inl rfl
    · rcases bt_total G ln b1 with e | e | e
      · exact .inl e
      · exact absurd e h
      · exact .inr e
  have b1m : IsM G i k b1 := by
    rcases h1 with ⟨h, rfl⟩ | ⟨h, rfl⟩
    · exact hn.1.mono (Nat.le_refl _) (by omega)
    · exact hb.1.mono (by omega) (Nat.le_refl _)
  have b2b1 : b1 = b2 ∨ bt G b2 b1 := by
    rcases h2 with ⟨_, h, rfl⟩ | ⟨_, rfl⟩
    · exact .inr h
    · exact .inl rfl
  have b2p : G.ok i k = true → (i, k) :: lp = b2 ∨ bt G b2 ((i, k) :: lp) := fun ho => by
    rcases h2 with ⟨_, h, rfl⟩ | ⟨h, rfl⟩
    · exact .inl rfl
    · rcases bt_total G ((i, k) :: lp) b2 with e | e | e
      · exact .inl e
      · exact absurd ⟨ho, e⟩ h
      · exact .inr e
  have cat : ∀ {x y z : List Pr}, (x = y ∨ bt G y x) → (y = z ∨ bt G z y) → (x = z ∨ bt G z x) := fun {x y z} h h' => by
    rcases h with rfl | h
    · exact h'
    · rcases h' with rfl | h'
      · exact .inr h
      · exact .inr (bt_trans G h' h)
  refine ⟨?_, fun l' hl => ?_⟩
  · rcases h2 with ⟨ho, _, rfl⟩ | ⟨_, rfl⟩
    · exact ⟨Nat.le_refl _, hi, Nat.le_refl _, hk, ho, hp.1⟩
    · exact b1m
  · cases l' with
    | nil => exact cat (cat (hb.2 [] trivial) b1b) b2b1
    | cons p l' =>
      obtain ⟨p1, p2⟩ := p
      have hl' := hl
      obtain ⟨g1, g2, g3, g4, g5, g6⟩ := hl'
      simp only at g1 g2 g3 g4 g5 g6
      by_cases e1 : p1 = i
      · by_cases e2 : p2 = k
        · subst e1; subst e2
          have : (p1, p2) :: l' = (p1, p2) :: lp ∨ bt G ((p1, p2) :: lp) ((p1, p2) :: l') := by
            rcases hp.2 l' g6 with h | h
            · exact .inl (by rw [h])
            · exact .inr ((bt_cons G _).2 h)
          exact cat this (b2p g5)
        · exact cat (cat (hn.2 _ ⟨g1, g2, by simp only; omega, g4, g5, g6⟩) b1n) b2b1
      · exact cat (cat (hb.2 _ ⟨by simp only; omega, g2, g3, g4, g5, g6⟩) b1b) b2b1
/-! Facts about any matching. -/
theorem IsM.len {G : Game} {i k : Nat} {l : List Pr} (h : IsM G i k l) (hi : i ≤ G.n) : l.length + i ≤ G.n := by
  induction l generalizing i k with
  | nil => simp; exact hi
  | cons p l ih =>
    have h1 := h.1; have h2 := h.2.1
    have := ih h.2.2.2.2.2 (by omega)
    simp only [List.length_cons]; omega
theorem dist_nonneg (h : ∀ i k, 0 ≤ G.ds i k) (l : List Pr) : 0 ≤ dist G l := by
  induction l with
  | nil => exact Int.le_refl _
  | cons p l ih => have := h p.1 p.2; simp only [dist]; omega
/-- The same game with the sides exchanged. -/
def Game.swap (G : Game) : Game := ⟨G.m, G.n, fun i k => G.ok k i, fun i k => G.ds k i⟩
def swp (l : List Pr) : List Pr := l.map fun p => (p.2, p.1)
theorem IsM.swap {G : Game} {i k : Nat} {l : List Pr} (h : IsM G i k l) : IsM G.swap k i (swp l) := by
  induction l generalizing i k with
  | nil => trivial
  | cons p l ih => exact ⟨h.2.2.1, h.2.2.2.1, h.1, h.2.1, h.2.2.2.2.1, ih h.2.2.2.2.2⟩
/-- More is permitted: not fewer pairs. -/
theorem Best.more {G G' : Game} {l l' : List Pr} (h : Best G 0 0 l) (h' : Best G' 0 0 l') (hn : G'.n = G.n) (hm : G'.m = G.m) (ho : ∀ i k, G.ok i k = true → G'.ok i k = true) : l.length ≤ l'.length := by
  have : ∀ (l : List Pr) (i k : Nat), IsM G i k l → IsM G' i k l := by
    intro l
    induction l with
    | nil => intros; trivial
    | cons p l ih => intro i k h; exact ⟨h.1, hn ▸ h.2.1, h.2.2.1, hm ▸ h.2.2.2.1, ho _ _ h.2.2.2.2.1, ih _ _ h.2.2.2.2.2⟩
  rcases h'.2 l (this l 0 0 h.1) with e | e | ⟨e, _⟩
  · rw [e]; exact Nat.le_refl _
  · omega
  · omega
/-- With itself: all. -/
def diag (i : Nat) : Nat → List Pr
  | 0 => []
  | d + 1 => (i, i) :: diag (i + 1) d
theorem diag_len (d : Nat) : ∀ i, (diag i d).length = d := by
  induction d with
  | zero => intro; rfl
  | succ d ih => intro i; simp only [diag, List.length_cons, ih]
theorem Best.own {G : Game} {l : List Pr} (h : Best G 0 0 l) (hm : G.m = G.n) (ho : ∀ i, i < G.n → G.ok i i = true ∧ G.ds i i = 0) (hd : ∀ i k, 0 ≤ G.ds i k) : l.length = G.n ∧ dist G l = 0 := by
  have : ∀ (d i : Nat), i + d = G.n → IsM G i i (diag i d) ∧ dist G (diag i d) = 0 := by
    intro d
    induction d with
    | zero => intro i _; exact ⟨trivial, rfl⟩
    | succ d ih =>
      intro i hi
      have h1 := ih (i + 1) (by omega)
      have h2 := ho i (by omega)
      exact ⟨⟨Nat.le_refl _, by simp only; omega, Nat.le_refl _, by simp only; omega, h2.1, h1.1⟩, by simp only [diag, dist]; omega⟩
  have hg := this G.n 0 (by omega)
  have hl := h.1.len (Nat.zero_le _)
  have hz := dist_nonneg G hd l
  have hdl := diag_len G.n 0
  rcases h.2 _ hg.1 with e | e | ⟨e, e2⟩
  · rw [← e]; exact ⟨hdl, hg.2⟩
  · omega
  · refine ⟨by omega, ?_⟩
    rcases e2 with e2 | ⟨e2, _⟩ <;> omega
end Go.Proofs.Ytcjgmofgfblmnaa.Mat
namespace Go.Proofs.Ytcjgmofgfblmnaa.MatV
open Go.RowKit Go.Shelf Go.Proofs.YtcjgmofgfblmnaaW.PrintWords Go.Proofs.YtcjgmofgfblmnaaW.PrintLast Go.Proofs.YtcjgmofgfblmnaaW.PrintMore Go.Proofs.Ytcjgmofgfblmnaa.Q Go.Proofs.Ytcjgmofgfblmnaa.Mat
set_option linter.unusedVariables false
set_option linter.unusedSimpArgs false
set_option linter.unusedSimpArgs false
def cmpI (x y : Int) : Int := if x < y then -1 else if y < x then 1 else 0
def orI (x y : Int) : Int := if x = 0 then y else x
def cmp2 (p q : Pr) : Int := orI (cmpI p.1 q.1) (cmpI p.2 q.2)
def lexc : List Pr → List Pr → Int
  | p :: l, q :: m => orI (cmp2 p q) (lexc l m)
  | _, _ => 0
/-- What compare returns of two matchings. -/
def cmpP (D : List Pr → Int) (l m : List Pr) : Int := orI (orI (cmpI (m.length : Int) (l.length : Int)) (cmpI (D l) (D m))) (lexc l m)
theorem cmpI_neg (x y : Int) : cmpI x y < 0 ↔ x < y := by unfold cmpI; split <;> (try split) <;> omega
theorem cmpI_zero (x y : Int) : cmpI x y = 0 ↔ x = y := by unfold cmpI; split <;> (try split) <;> omega
theorem orI_neg (x y : Int) : orI x y < 0 ↔ x < 0 ∨ (x = 0 ∧ y < 0) := by unfold orI; split <;> omega
theorem orI_zero (x y : Int) : orI x y = 0 ↔ x = 0 ∧ y = 0 := by unfold orI; split <;> omega
theorem cmp2_neg (p q : Pr) : cmp2 p q < 0 ↔ plt p q := by unfold cmp2 plt; rw [orI_neg, cmpI_neg, cmpI_zero, cmpI_neg]; omega
theorem cmp2_zero (p q : Pr) : cmp2 p q = 0 ↔ p = q := by
  unfold cmp2
  rw [orI_zero, cmpI_zero, cmpI_zero, Prod.ext_iff]
  omega
theorem lexc_neg : ∀ l m : List Pr, lexc l m < 0 ↔ lex l m
  | [], m => by simp [lexc, lex]
  | _ :: _, [] => by simp [lexc, lex]
  | p :: l, q :: m => by simp only [lexc, lex]; rw [orI_neg, cmp2_neg, cmp2_zero, lexc_neg l m]
theorem lexc_self (l : List Pr) : lexc l l = 0 := by
  induction l with
  | nil => rfl
  | cons p l ih => simp only [lexc]; rw [orI_zero]; exact ⟨(cmp2_zero p p).2 rfl, ih⟩
theorem cmpP_neg (G : Game) (l m : List Pr) : cmpP (dist G) l m < 0 ↔ Mat.bt G l m := by
  unfold cmpP Mat.bt
  rw [orI_neg, orI_neg, orI_zero, cmpI_neg, cmpI_zero, cmpI_neg, cmpI_zero, lexc_neg]
  by_cases h : lex l m <;> simp only [h, and_true, and_false, or_false] <;> omega
/-- A matching in memory. -/
def IsPart (D : List Pr → Int) (w : World) : List Pr → Nat → Prop
  | [], b => ∃ r, w.heap[b]? = some (.cells #[.int .i64 0, .int .i64 (D []), .int .i64 0, .int .i64 0, r] 95 (0, 0))
  | p :: l, b => ∃ b', w.heap[b]? = some (.cells #[.int .i64 (((l.length + 1 : Nat)) : Int), .int .i64 (D (p :: l)), .int .i64 (p.1 : Nat), .int .i64 (p.2 : Nat), .pointer (some ⟨b', 0, none⟩)] 95 (0, 0)) ∧ IsPart D w l b'
theorem IsPart.cells {D : List Pr → Int} {w : World} {l : List Pr} {b : Nat} (h : IsPart D w l b) : ∃ i k r, w.heap[b]? = some (.cells #[.int .i64 (l.length : Nat), .int .i64 (D l), .int .i64 (i : Nat), .int .i64 (k : Nat), r] 95 (0, 0)) := by
  cases l with
  | nil => obtain ⟨r, h⟩ := h; exact ⟨0, 0, r, h⟩
  | cons p l => obtain ⟨b', h, _⟩ := h; exact ⟨p.1, p.2, _, h⟩
/-- One matching at one place. -/
theorem IsPart.same {D : List Pr → Int} {w : World} : ∀ {l m : List Pr} {b : Nat}, IsPart D w l b → IsPart D w m b → l = m
  | [], [], _, _, _ => rfl
  | [], q :: m, b, h1, h2 => by
    obtain ⟨r, h1⟩ := h1
    obtain ⟨b', h2, _⟩ := h2
    rw [h1] at h2
    simp at h2
    omega
  | p :: l, [], b, h1, h2 => by
    obtain ⟨r, h2⟩ := h2
    obtain ⟨b', h1, _⟩ := h1
    rw [h1] at h2
    simp at h2
    omega
  | p :: l, q :: m, b, h1, h2 => by
    obtain ⟨b1, h1, k1⟩ := h1
    obtain ⟨b2, h2, k2⟩ := h2
    rw [h1] at h2
    simp only [Option.some.injEq, Obj.cells.injEq, Array.mk.injEq, List.cons.injEq, Value.int.injEq, true_and, and_true, Value.pointer.injEq, Addr.mk.injEq] at h2
    obtain ⟨_, _, e3, e4, e5⟩ := h2
    subst e5
    rw [IsPart.same k1 k2, show p = q from Prod.ext (by omega) (by omega)]
theorem IsPart.move {D : List Pr → Int} {w w1 : World} (hm : ∀ b : Nat, (∃ cs, w.heap[b]? = some (Obj.cells cs 95 (0, 0))) → w1.heap[b]? = w.heap[b]?) : ∀ {l : List Pr} {b : Nat}, IsPart D w l b → IsPart D w1 l b
  | [], b, h => by
    obtain ⟨r, h⟩ := h
    exact ⟨r, (hm b ⟨_, h⟩).trans h⟩
  | p :: l, b, h => by
    obtain ⟨b', h, k⟩ := h
    exact ⟨b', (hm b ⟨_, h⟩).trans h, IsPart.move hm k⟩
theorem IsPart.below {D : List Pr → Int} {w w1 : World} {l : List Pr} {b : Nat} (h : IsPart D w l b) (hb : Below w.heap.size w w1) : IsPart D w1 l b :=
  h.move (fun b ⟨cs, hc⟩ => hb.block b (blk_lt hc))
/-- A store into a block of another type. -/
theorem IsPart.set {D : List Pr → Int} {w : World} {l : List Pr} {b g : Nat} {cs : Array Value} {t : TypeId} (h : IsPart D w l b) (hg : w.heap[g]? = some (.cells cs t (0, 0))) (ht : t ≠ 95) (i : Nat) (v : Value) : IsPart D (w.setCell ⟨g, i, none⟩ v) l b :=
  h.move (fun b ⟨cs', hc⟩ => Below.heap_setCell w ⟨g, i, none⟩ v b (by
    intro e
    have e : b = g := e
    subst e
    rw [hg] at hc
    simp only [Option.some.injEq, Obj.cells.injEq] at hc
    exact ht hc.2.1))
theorem IsPart.drew {D : List Pr → Int} {w : World} {l : List Pr} {b : Nat} (h : IsPart D w l b) : IsPart D w.drew l b := h.below (below_drew (Below.refl _ _))
theorem IsPart.drewN {D : List Pr → Int} {w : World} {l : List Pr} {b : Nat} (h : IsPart D w l b) (n : Nat) : IsPart D (w.drewN n) l b := h.below (pw_below_drewN (Below.refl _ _) n)
theorem IsPart.alloc {D : List Pr → Int} {w : World} {l : List Pr} {b : Nat} (h : IsPart D w l b) (o : Obj) : IsPart D (w.alloc o) l b := h.below (below_alloc (Below.refl _ _) o)
/-! The library's functions. -/
theorem cmp_any (x y : Int) (w : World) : Calls Try.prog 53 #[.int .i64 x, .int .i64 y] w fun e w' => e = .returned (.int .i64 (cmpI x y)) ∧ ∃ n, w' = w.drewN n :=
  (cmp_Compare_int.calls x y (cmpI x y) w (by unfold cmp_Compare_int.f cmp_isNaN_int.f cmpI; simp; split <;> (try split) <;> simp_all <;> omega)).mono fun e w' h => ⟨h.1, h.2.out⟩
theorem C_pair {w : World} {b o : Nat} {x y : Int} (h0 : w.cell? ⟨b, o, none⟩ = some (.int .i64 x)) (h1 : w.cell? ⟨b, o + 1, none⟩ = some (.int .i64 y)) : Kd.C (Kd.int .i64) w (some ⟨b, o, none⟩) [x, y].length [x, y] := by
  refine ⟨rfl, by simp, fun _ => ⟨_, rfl, fun j p hj => ?_⟩⟩
  match j, hj with
  | 0, hj =>
    obtain rfl : x = p := by simpa using hj
    refine ⟨[.int .i64 x], rfl, rfl, fun i u hu => ?_⟩
    match i, hu with
    | 0, hu =>
      obtain rfl : Value.int .i64 x = u := by simpa using hu
      rw [show (⟨b, o, none⟩ : Addr).add (0 * Kd.sz (Kd.int .i64) + 0) = ⟨b, o, none⟩ by simp [Addr.add]]
      exact h0
  | 1, hj =>
    obtain rfl : y = p := by simpa using hj
    refine ⟨[.int .i64 y], rfl, rfl, fun i u hu => ?_⟩
    match i, hu with
    | 0, hu =>
      obtain rfl : Value.int .i64 y = u := by simpa using hu
      rw [show (⟨b, o, none⟩ : Addr).add (1 * Kd.sz (Kd.int .i64) + 0) = ⟨b, o + 1, none⟩ by show Addr.add _ 1 = _; simp [Addr.add]]
      exact h1
theorem or_any (b : Nat) (x y : Int) (w : World) (h0 : w.cell? ⟨b, 0, none⟩ = some (.int .i64 x)) (h1 : w.cell? ⟨b, 1, none⟩ = some (.int .i64 y)) :
    Calls Try.prog 69 #[.slice (some ⟨b, 0, none⟩) 2 2] w fun e w' => e = .returned (.int .i64 (orI x y)) ∧ ∃ n, w' = w.drewN n := by
  have hf : cmp_Or_int.f 4 [x, y] = some (orI x y) := by
    unfold cmp_Or_int.f orI
    simp only [cmp_Or_int.l0, wrap64, rd]
    by_cases h : x = 0
    · by_cases h2 : y = 0
      · simp [h, h2]
      · simp [h, h2]
    · simp [h]
  exact (cmp_Or_int.calls 4 _ 2 [x, y] (orI x y) w (C_pair h0 h1) (Nat.le_refl 2) hf).mono fun e w' h => ⟨h.1, h.2.out⟩
theorem compare_any (b c o1 o2 : Nat) (p q : Pr) (w : World) (h0 : w.cell? ⟨b, o1, none⟩ = some (.int .i64 (p.1 : Nat))) (h1 : w.cell? ⟨b, o1 + 1, none⟩ = some (.int .i64 (p.2 : Nat))) (h2 : w.cell? ⟨c, o2, none⟩ = some (.int .i64 (q.1 : Nat))) (h3 : w.cell? ⟨c, o2 + 1, none⟩ = some (.int .i64 (q.2 : Nat))) :
    Calls Try.prog 70 #[.slice (some ⟨b, o1, none⟩) 2 2, .slice (some ⟨c, o2, none⟩) 2 2] w fun e w' => e = .returned (.int .i64 (cmp2 p q)) ∧ ∃ n, w' = w.drewN n := by
  have hc : ∀ x y : Int, cmp_Compare_int.f x y = some (cmpI x y) := fun x y => by unfold cmp_Compare_int.f cmp_isNaN_int.f cmpI; simp; split <;> (try split) <;> simp_all <;> omega
  have hf : slices_Compare_int_int.f 4 [(p.1 : Int), (p.2 : Int)] [(q.1 : Int), (q.2 : Int)] = some (cmp2 p q) := by
    unfold slices_Compare_int_int.f cmp2 orI
    simp only [slices_Compare_int_int.l0, wrap64, rd, hc]
    by_cases h : cmpI (p.1 : Int) (q.1 : Int) = 0
    · by_cases h2 : cmpI (p.2 : Int) (q.2 : Int) = 0
      · simp [h, h2]
      · simp [h, h2]
    · simp [h]
  exact (slices_Compare_int_int.calls 4 _ 2 [(p.1 : Int), (p.2 : Int)] _ 2 [(q.1 : Int), (q.2 : Int)] (cmp2 p q) w (C_pair h0 h1) (Nat.le_refl 2) (C_pair h2 h3) (Nat.le_refl 2) hf).mono fun e w' h => ⟨h.1, h.2.out⟩
theorem infoPart : ∃ j, Try.prog.info? 95 = some j ∧ j.size ≠ 0 := by
  have h : (Try.prog.info? 95).map (·.size) = some 5 := by kernel_rfl
  obtain ⟨j, hj, h2⟩ := Option.map_eq_some_iff.1 h
  exact ⟨j, hj, by omega⟩
/-- '!=' of two pointers to parts. -/
theorem neq_same (b : Nat) (w : World) : (binOp .neq 93 (.pointer (some ⟨b, 0, none⟩)) (.pointer (some ⟨b, 0, none⟩))).run Try.prog w = .ok (.bool false) w := by
  obtain ⟨j, hj, _⟩ := infoPart
  have h : ∀ d : Nat, (Op.equalIn (d + 1) 93 (.pointer (some ⟨b, 0, none⟩)) (.pointer (some ⟨b, 0, none⟩))).run Try.prog w = .ok true w := fun d => by
    simp [Op.equalIn, run_underlying Try.underlying93, sizeOf, typeInfo, hj, run_sameAddr_same]
  simp only [binOp]
  simp [Op.equal, Op.maxDepth, h 9999]
theorem neq_other {D : List Pr → Int} {l m : List Pr} {a b : Nat} {w : World} (ha : IsPart D w l a) (hb : IsPart D w m b) (hne : a ≠ b) : (binOp .neq 93 (.pointer (some ⟨a, 0, none⟩)) (.pointer (some ⟨b, 0, none⟩))).run Try.prog w = .ok (.bool true) w := by
  obtain ⟨j, hj, hs⟩ := infoPart
  obtain ⟨_, _, _, ha⟩ := ha.cells
  obtain ⟨_, _, _, hb⟩ := hb.cells
  have hn : (⟨a, 0, none⟩ : Addr) ≠ ⟨b, 0, none⟩ := fun e => hne (by injection e)
  have h : ∀ d : Nat, (Op.equalIn (d + 1) 93 (.pointer (some ⟨a, 0, none⟩)) (.pointer (some ⟨b, 0, none⟩))).run Try.prog w = .ok false w := fun d => by
    simp [Op.equalIn, run_underlying Try.underlying93, sizeOf, typeInfo, hj, hs, run_sameAddr_other (a := ⟨a, 0, none⟩) (b := ⟨b, 0, none⟩) w hn ha hb]
  simp only [binOp]
  simp [Op.equal, Op.maxDepth, h 9999]
end Go.Proofs.Ytcjgmofgfblmnaa.MatV
namespace Go.Proofs.Ytcjgmofgfblmnaa.MatW
open Go.RowKit Go.Shelf Go.Proofs.YtcjgmofgfblmnaaW.PrintWords Go.Proofs.YtcjgmofgfblmnaaW.PrintLast Go.Proofs.YtcjgmofgfblmnaaW.PrintMore Go.Proofs.Ytcjgmofgfblmnaa.Q Go.Proofs.Ytcjgmofgfblmnaa.Mat Go.Proofs.Ytcjgmofgfblmnaa.MatV
attribute [local go_sem] max2_int min2_int max_two min_two max_three min_three max_four min_four
set_option linter.unusedVariables false
set_option linter.unusedSimpArgs false
set_option linter.unusedSimpArgs false
set_option maxHeartbeats 1000000 in
set_option maxRecDepth 100000 in
theorem compare_calls (D : List Pr → Int) (b1 b2 : Nat) (l m : List Pr) (w : World) (h1 : IsPart D w l b1) (h2 : IsPart D w m b2) :
    Calls Try.prog 47 #[.pointer (some ⟨b1, 0, none⟩), .pointer (some ⟨b2, 0, none⟩)] w fun e w' => e = .returned (.int .i64 (cmpP D l m)) ∧ Below w.heap.size w w' := by
  obtain ⟨i1, k1, r1, hc1⟩ := h1.cells
  obtain ⟨i2, k2, r2, hc2⟩ := h2.cells
  have H1 := Aside0.mk h1
  have H2 := Aside0.mk h2
  have l1 := blk_lt hc1
  have l2 := blk_lt hc2
  have c10 := (blk_cell hc1 0).trans rfl
  have c11 := (blk_cell hc1 1).trans rfl
  have c20 := (blk_cell hc2 0).trans rfl
  have c21 := (blk_cell hc2 1).trans rfl
  clear hc1 hc2 h1 h2
  go_enter Try.func47, Try.ntmps47
  go_wp2_with fail
  go_region_held3 (fun w' => w'.cell? ⟨b1, 0, none⟩ = some (.int .i64 (l.length : Nat)) ∧ w'.cell? ⟨b1, 1, none⟩ = some (.int .i64 (D l)) ∧ w'.cell? ⟨b2, 0, none⟩ = some (.int .i64 (m.length : Nat)) ∧ w'.cell? ⟨b2, 1, none⟩ = some (.int .i64 (D m)))
    (go_keep)
    ((first
      | (go_at_call 53; (with_reducible refine (cmp_any _ _ _).mono ?_); rintro e w' ⟨rfl, nq, rfl⟩)
      | (go_at_call 69; (with_reducible refine (or_any w.heap.size (cmpI (m.length : Nat) (l.length : Nat)) (cmpI (D l) (D m)) _ ?x1 ?x2).mono ?_); (case x1 => exact (blk_cell (heap_alloc_new _ _) 0).trans rfl); (case x2 => exact (blk_cell (heap_alloc_new _ _) 1).trans rfl); rintro e w' ⟨rfl, nq, rfl⟩)))
  have HP : Aside0 (cmpP D l m = orI (orI (cmpI (m.length : Nat) (l.length : Nat)) (cmpI (D l) (D m))) (lexc l m)) := ⟨rfl⟩
  have hL0 : orI (cmpI (m.length : Nat) (l.length : Nat)) (cmpI (D l) (D m)) = 0 → l.length = m.length := fun h => by rw [orI_zero, cmpI_zero] at h; omega
  generalize orI (cmpI (m.length : Nat) (l.length : Nat)) (cmpI (D l) (D m)) = X at *
  by_cases hX : X = 0
  · have HLM := Aside0.mk (hL0 hX)
    have e1 : (X == 0) = true := beq_iff_eq.2 hX
    have e2 : (X != 0) = false := by rw [hX]; rfl
    have HX := Aside0.mk hX
    clear hX hL0 c10 c11 c20 c21
    go_wp2
    go_loopg [0, 1] (l.length + 1) (fun kq v0 v1 w' => ∃ (l' m' : List Pr) (a1 a2 : Nat), v0 = .pointer (some ⟨a1, 0, none⟩) ∧ v1 = .pointer (some ⟨a2, 0, none⟩) ∧ l'.length < kq ∧ Aside0 (l'.length = m'.length) ∧ Aside0 (IsPart D w' l' a1) ∧ Aside0 (IsPart D w' m' a2) ∧ Aside0 (lexc l' m' = lexc l m) ∧ Aside0 (Below w.heap.size w w'))
    case atStart => exact ⟨l, m, b1, b2, rfl, rfl, Nat.lt_succ_self _, HLM, ⟨H1.out.below (pw_below_drewN (below_alloc (pw_below_drewN (Below.refl _ _) _) _) _)⟩, ⟨H2.out.below (pw_below_drewN (below_alloc (pw_below_drewN (Below.refl _ _) _) _) _)⟩, ⟨rfl⟩, ⟨pw_below_drewN (below_alloc (pw_below_drewN (Below.refl _ _) _) _) _⟩⟩
    case round =>
      obtain ⟨l', m', a1, a2, rfl, rfl, hk, HN, J1, J2, HE, HB⟩ := hrel
      by_cases hp : a1 = a2
      · subst hp
        have hf : orI X (lexc l m) = 0 := by
          rw [orI_zero, ← HE.out, J1.out.same J2.out]
          exact ⟨HX.out, lexc_self _⟩
        have HF := Aside0.mk hf
        clear hf
        have hq := neq_same a1 wr
        go_wp2
        go_ret
        exact ⟨by rw [HP.out, HF.out]; rfl, HB.out⟩
      · have hq := neq_other J1.out J2.out hp
        cases l' with
        | nil =>
          obtain ⟨r, hc⟩ := J1.out
          have c0 := (blk_cell hc 0).trans rfl
          clear hc
          have HF : Aside0 (orI X (lexc l m) = 0) := ⟨by rw [orI_zero, ← HE.out]; exact ⟨HX.out, by cases m' <;> rfl⟩⟩
          go_wp2
          go_ret
          exact ⟨by rw [HP.out, HF.out]; rfl, HB.out⟩
        | cons p l'' =>
          cases m' with
          | nil => exact absurd HN.out (by simp)
          | cons q m'' =>
            obtain ⟨d1, hc1, K1⟩ := J1.out
            obtain ⟨d2, hc2, K2⟩ := J2.out
            have n1 := blk_lt hc1
            have n2 := blk_lt hc2
            have f10 := (blk_cell hc1 0).trans rfl
            have f12 := (blk_cell hc1 2).trans rfl
            have f13 := (blk_cell hc1 3).trans rfl
            have f14 := (blk_cell hc1 4).trans rfl
            have f22 := (blk_cell hc2 2).trans rfl
            have f23 := (blk_cell hc2 3).trans rfl
            have f24 := (blk_cell hc2 4).trans rfl
            have hpos : (0 : Int) < ((l''.length + 1 : Nat) : Int) := by omega
            clear hc1 hc2
            have L1 := Aside0.mk K1
            have L2 := Aside0.mk K2
            clear K1 K2
            go_wp2
            go_region_held3 (fun w' => w'.cell? ⟨a1, 2, none⟩ = some (.int .i64 (p.1 : Nat)) ∧ w'.cell? ⟨a1, 3, none⟩ = some (.int .i64 (p.2 : Nat)) ∧ w'.cell? ⟨a2, 2, none⟩ = some (.int .i64 (q.1 : Nat)) ∧ w'.cell? ⟨a2, 3, none⟩ = some (.int .i64 (q.2 : Nat)))
              (go_keep)
              ((go_at_call 70; (with_reducible refine (compare_any a1 a2 2 2 p q _ ?y1 ?y2 ?y3 ?y4).mono ?_); (case y1 => go_split_ands; assumption); (case y2 => go_split_ands; assumption); (case y3 => go_split_ands; assumption); (case y4 => go_split_ands; assumption); rintro e w' ⟨rfl, nq2, rfl⟩))
            have HE2 : Aside0 (lexc l m = orI (cmp2 p q) (lexc l'' m'')) := ⟨HE.out.symm⟩
            clear HE
            by_cases hc : cmp2 p q = 0
            · have e3 : (cmp2 p q == 0) = true := beq_iff_eq.2 hc
              have e4 : (cmp2 p q != 0) = false := by rw [hc]; rfl
              have HE3 : Aside0 (lexc l'' m'' = lexc l m) := ⟨by rw [HE2.out]; exact (if_pos hc).symm⟩
              have HN2 : Aside0 (l''.length = m''.length) := ⟨by have := HN.out; simpa using this⟩
              clear hc HN HE2 hq f10 f12 f13 f22 f23
              go_wp2
              go_region_held3 (fun w' => w'.cell? ⟨a1, 4, none⟩ = some (.pointer (some ⟨d1, 0, none⟩)) ∧ w'.cell? ⟨a2, 4, none⟩ = some (.pointer (some ⟨d2, 0, none⟩)))
                (go_keep)
                (fail)
              go_wp2
              go_roundg (l''.length + 1)
              case measure => simp at hk; omega
              case rel => exact ⟨l'', m'', d1, d2, rfl, rfl, Nat.lt_succ_self _, HN2, ⟨L1.out.below (below_drew (pw_below_drewN (Below.refl _ _) _))⟩, ⟨L2.out.below (below_drew (pw_below_drewN (Below.refl _ _) _))⟩, HE3, ⟨below_drew (pw_below_drewN HB.out _)⟩⟩
            · have e3 : (cmp2 p q == 0) = false := beq_eq_false_iff_ne.2 hc
              have e4 : (cmp2 p q != 0) = true := bne_iff_ne.2 hc
              have HF : Aside0 (orI X (lexc l m) = cmp2 p q) := ⟨by rw [HE2.out]; unfold orI; rw [if_pos HX.out, if_neg hc]⟩
              clear hc
              go_wp2
              go_ret
              exact ⟨by rw [HP.out, HF.out]; rfl, pw_below_drewN HB.out _⟩
  · have e1 : (X == 0) = false := beq_eq_false_iff_ne.2 hX
    have e2 : (X != 0) = true := bne_iff_ne.2 hX
    have HX : Aside0 (orI X (lexc l m) = X) := ⟨if_neg hX⟩
    clear hX
    go_wp2
    go_ret
    exact ⟨by rw [HP.out, HX.out]; rfl, pw_below_drewN (below_alloc (pw_below_drewN (Below.refl _ _) _) _) _⟩
end Go.Proofs.Ytcjgmofgfblmnaa.MatW
namespace Go.Proofs.Ytcjgmofgfblmnaa.MatX
open Go.RowKit Go.Shelf Go.Proofs.YtcjgmofgfblmnaaW.PrintWords Go.Proofs.YtcjgmofgfblmnaaW.PrintLast Go.Proofs.YtcjgmofgfblmnaaW.PrintMore Go.Proofs.Ytcjgmofgfblmnaa.Q Go.Proofs.Ytcjgmofgfblmnaa.Mat Go.Proofs.Ytcjgmofgfblmnaa.MatV Go.Proofs.Ytcjgmofgfblmnaa.MatW
attribute [local go_sem] max2_int min2_int max_two min_two max_three min_three max_four min_four
set_option linter.unusedVariables false
set_option linter.unusedSimpArgs false
set_option linter.unusedSimpArgs false
/-- A number's magnitude. -/
def mag (x : Int) : Int := max x (-x)
def dirI (x : S41) : Int := cmpI x.f2 x.f1
def gds (la lb : List S41) (i k : Nat) : Int := mag ((rd_T41 la (i : Int)).f0 - (rd_T41 lb (k : Int)).f0)
def game (la lb : List S41) (tol : Int) : Game := ⟨la.length, lb.length, fun i k => decide (gds la lb i k ≤ tol) && (dirI (rd_T41 la (i : Int)) == dirI (rd_T41 lb (k : Int))), gds la lb⟩
/-- A pair in Go's form. -/
def tp (p : Pr) : S58 := ⟨(p.1 : Int), (p.2 : Int)⟩
/-- A row of pointers, in its block. -/
def RowV (w : World) (g n : Nat) (V : Nat → Value) : Prop := ∃ cs, w.heap[g]? = some (.cells cs 93 (0, 0)) ∧ cs.size = n ∧ ∀ k, k < n → cs[k]? = some (V k)
theorem RowV.cell {w : World} {g n : Nat} {V : Nat → Value} (h : RowV w g n V) (k : Nat) (hk : k < n) : w.cell? ⟨g, k, none⟩ = some (V k) := by
  obtain ⟨cs, hc, _, h3⟩ := h
  rw [blk_cell hc, h3 k hk]
theorem RowV.frozen {w : World} {g n : Nat} {V : Nat → Value} (h : RowV w g n V) (k : Nat) : w.frozen? ⟨g, k, none⟩ = false := by
  obtain ⟨cs, hc, _, _⟩ := h
  exact blk_frozen hc _
theorem RowV.lt {w : World} {g n : Nat} {V : Nat → Value} (h : RowV w g n V) : g < w.heap.size := by
  obtain ⟨cs, hc, _, _⟩ := h
  exact blk_lt hc
theorem RowV.set {w : World} {g n : Nat} {V : Nat → Value} (h : RowV w g n V) (k : Nat) (hk : k < n) (v : Value) : RowV (w.setCell ⟨g, k, none⟩ v) g n (fun j => if j = k then v else V j) := by
  obtain ⟨cs, hc, hz, h3⟩ := h
  refine ⟨_, blk_set hc _ _, by simpa using hz, fun j hj => ?_⟩
  show _ = some (if j = k then v else V j)
  rw [Array.getElem?_setIfInBounds]
  by_cases e : k = j
  · rw [if_pos e, if_pos (by omega), if_pos e.symm]
  · rw [if_neg e, if_neg (Ne.symm e), h3 j hj]
theorem RowV.below {w w1 : World} {g n : Nat} {V : Nat → Value} (h : RowV w g n V) (hb : Below w.heap.size w w1) : RowV w1 g n V := by
  obtain ⟨cs, hc, hz, h3⟩ := h
  exact ⟨cs, (hb.block g (blk_lt hc)).trans hc, hz, h3⟩
theorem RowV.far {w : World} {g g' n : Nat} {V : Nat → Value} (h : RowV w g n V) (hne : g ≠ g') (i : Nat) (v : Value) : RowV (w.setCell ⟨g', i, none⟩ v) g n V := by
  obtain ⟨cs, hc, hz, h3⟩ := h
  exact ⟨cs, (Below.heap_setCell w ⟨g', i, none⟩ v g hne).trans hc, hz, h3⟩
theorem RowV.congr {w : World} {g n : Nat} {V U : Nat → Value} (h : RowV w g n V) (e : ∀ k, k < n → V k = U k) : RowV w g n U := by
  obtain ⟨cs, hc, hz, h3⟩ := h
  exact ⟨cs, hc, hz, fun k hk => by rw [h3 k hk, e k hk]⟩
theorem isPart_setRow {D : List Pr → Int} {w : World} {l : List Pr} {b g n : Nat} {V : Nat → Value} (h : IsPart D w l b) (hg : RowV w g n V) (i : Nat) (v : Value) : IsPart D (w.setCell ⟨g, i, none⟩ v) l b := by
  obtain ⟨cs, hc, _, _⟩ := hg
  exact h.set hc (by decide) i v
/-- What make gives. -/
def made (n : Nat) : Array Value := madeCells (Value.pointer none).cells (n * 1)
theorem made_size (n : Nat) : (made n).size = n := by unfold made; rw [size_madeCells, Nat.mul_one]
theorem made_get (n k : Nat) (h : k < n) : (made n)[k]? = some (.pointer none) := by
  unfold made
  simp [madeCells, Value.cells, h, Nat.mod_one]
theorem RowV.made (w : World) (n : Nat) : RowV (w.alloc (.cells (made n) 93)) w.heap.size n (fun _ => .pointer none) :=
  ⟨_, heap_alloc_new _ _, made_size n, fun k hk => made_get n k hk⟩
theorem RowV.made1 (w : World) (n : Nat) (v : Value) : RowV (w.alloc (.cells ((MatX.made (n + 1)).setIfInBounds n v) 93)) w.heap.size (n + 1) (fun j => if n ≤ j then v else .pointer none) := by
  refine ⟨_, heap_alloc_new _ _, by rw [Array.size_setIfInBounds, made_size], fun k hk => ?_⟩
  show _ = some (if n ≤ k then v else .pointer none)
  rw [Array.getElem?_setIfInBounds, made_size]
  by_cases e : n = k
  · rw [if_pos e, if_pos (by omega), if_pos (by omega)]
  · rw [if_neg e, if_neg (by omega), made_get _ _ hk]
theorem run_mk (n : Nat) (hn : n ≤ 256) (w : World) : (Instr.makeSlice 96 (.int .i64 ((n : Int) + 1)) (.int .i64 ((n : Int) + 1))).run Try.prog w = .ok (.slice (some ⟨w.heap.size, 0, none⟩) (n + 1) (n + 1)) (w.alloc (.cells (MatX.made (n + 1)) 93)) := by
  obtain ⟨i0, hi, hz0, hz1, hz2⟩ := info_parts (show (Try.prog.info? 93).map (fun i => (i.zero, i.size, i.bytes)) = some (some (.pointer none), 1, 8) by kernel_rfl)
  have h := run_makeSlice (P := Try.prog) w 96 93 i0 (.pointer none) Try.underlying96 hi hz0 .i64 .i64 ((n : Int) + 1) ((n : Int) + 1) (by omega) (Int.le_refl _) (by rw [hz1]; omega) (by rw [hz2]; omega) (by omega)
  rw [hz1, show ((n : Int) + 1).toNat = n + 1 by omega] at h
  exact h
/-- What the inner loop keeps: e: from where on the new row is laid. -/
def St (la lb : List S41) (tol : Int) (w : World) (gb gw : Nat) (B : Nat → Nat) (L : Nat → List Pr) (B2 : Nat → Nat) (L2 : Nat → List Pr) (i e : Nat) (w' : World) : Prop :=
  RowV w' gw (lb.length + 1) (fun j => if e ≤ j then .pointer (some ⟨B2 j, 0, none⟩) else .pointer none) ∧ (∀ j, e ≤ j → j ≤ lb.length → IsPart (dist (game la lb tol)) w' (L2 j) (B2 j) ∧ Best (game la lb tol) i j (L2 j)) ∧
  RowV w' gb (lb.length + 1) (fun j => .pointer (some ⟨B j, 0, none⟩)) ∧ (∀ j, j ≤ lb.length → IsPart (dist (game la lb tol)) w' (L j) (B j)) ∧ IsPart (dist (game la lb tol)) w' [] w.heap.size ∧ Below w.heap.size w w'
theorem St.below {la lb : List S41} {tol : Int} {w : World} {gb gw : Nat} {B : Nat → Nat} {L : Nat → List Pr} {B2 : Nat → Nat} {L2 : Nat → List Pr} {i e : Nat} {w' w'' : World} (h : St la lb tol w gb gw B L B2 L2 i e w') (hb : Below w'.heap.size w' w'') : St la lb tol w gb gw B L B2 L2 i e w'' :=
  ⟨h.1.below hb, fun j h1 h2 => ⟨MatV.IsPart.below (h.2.1 j h1 h2).1 hb, (h.2.1 j h1 h2).2⟩, h.2.2.1.below hb, fun j hj => MatV.IsPart.below (h.2.2.2.1 j hj) hb, MatV.IsPart.below h.2.2.2.2.1 hb, h.2.2.2.2.2.trans (hb.mono h.2.2.2.2.2.size)⟩
/-- With the best so far. -/
def St1 (la lb : List S41) (tol : Int) (w : World) (gb gw : Nat) (B : Nat → Nat) (L : Nat → List Pr) (B2 : Nat → Nat) (L2 : Nat → List Pr) (i e b1 : Nat) (l1 : List Pr) (w' : World) : Prop :=
  St la lb tol w gb gw B L B2 L2 i e w' ∧ IsPart (dist (game la lb tol)) w' l1 b1
theorem St1.below {la lb : List S41} {tol : Int} {w : World} {gb gw : Nat} {B : Nat → Nat} {L : Nat → List Pr} {B2 : Nat → Nat} {L2 : Nat → List Pr} {i e b1 : Nat} {l1 : List Pr} {w' w'' : World} (h : Aside0 (St1 la lb tol w gb gw B L B2 L2 i e b1 l1 w')) (hb : Below w'.heap.size w' w'') : Aside0 (St1 la lb tol w gb gw B L B2 L2 i e b1 l1 w'') :=
  ⟨h.out.1.below hb, MatV.IsPart.below h.out.2 hb⟩
theorem dist_bd (G : Game) (M : Int) (hM : 0 ≤ M) (h : ∀ i k, i < G.n → k < G.m → 0 ≤ G.ds i k ∧ G.ds i k ≤ M) : ∀ (l : List Pr) (i k : Nat), IsM G i k l → 0 ≤ dist G l ∧ dist G l ≤ (l.length : Int) * M
  | [], _, _, _ => ⟨Int.le_refl _, by simp [dist]⟩
  | p :: l, i, k, hl => by
    have h1 := dist_bd G M hM h l _ _ hl.2.2.2.2.2
    have h2 := h p.1 p.2 hl.2.1 hl.2.2.2.1
    simp only [dist, List.length_cons, Int.natCast_add, Int.add_mul]
    omega
theorem gds_bd (la lb : List S41) (hba : ∀ x ∈ la, -1099511627776 ≤ x.f0 ∧ x.f0 ≤ 1099511627776) (hbb : ∀ x ∈ lb, -1099511627776 ≤ x.f0 ∧ x.f0 ≤ 1099511627776) (i k : Nat) (hi : i < la.length) (hk : k < lb.length) : 0 ≤ gds la lb i k ∧ gds la lb i k ≤ 2199023255552 := by
  have ha := hba (rd_T41 la (i : Int)) (by show la.getD i z41 ∈ la; rw [List.getD_eq_getElem?_getD, List.getElem?_eq_getElem hi]; exact List.getElem_mem _)
  have hb := hbb (rd_T41 lb (k : Int)) (by show lb.getD k z41 ∈ lb; rw [List.getD_eq_getElem?_getD, List.getElem?_eq_getElem hk]; exact List.getElem_mem _)
  unfold gds mag
  omega
set_option maxHeartbeats 400000 in
theorem abs_any (x : Int) (w : World) (h1 : -4398046511104 ≤ x) (h2 : x ≤ 4398046511104) : Calls Try.prog 46 #[.int .i64 x] w fun e w' => e = .returned (.int .i64 (mag x)) ∧ ∃ n, w' = w.drewN n := by
  go_enter Try.func46, Try.ntmps46
  go_wp2
  all_goals
    go_ret
    refine ⟨?_, ⟨0, rfl⟩⟩
    first | (rw [show mag x = -x by unfold mag; omega]; rfl) | (rw [show mag x = x by unfold mag; omega]; rfl)
theorem dir_any (x : S41) (w : World) : Calls Try.prog 30 #[.agg #[.int .i64 x.f0, .int .i64 x.f1, .int .i64 x.f2]] w fun e w' => e = .returned (.int .i64 (dirI x)) ∧ Below w.heap.size w w' :=
  changepoint_Direction.calls x.f0 x.f1 x.f2 (dirI x) w (by unfold changepoint_Direction.f cmp_Compare_int.f cmp_isNaN_int.f dirI cmpI; simp; split <;> (try split) <;> simp_all <;> omega)
set_option maxHeartbeats 1000000 in
set_option maxRecDepth 100000 in
theorem match_calls (A0 : Option Addr) (c0 : Nat) (la : List S41) (A1 : Option Addr) (c1 : Nat) (lb : List S41) (tol : Int) (w : World) (hr0 : Kd.C k41 w A0 la.length la) (hc0 : la.length ≤ c0) (hr1 : Kd.C k41 w A1 lb.length lb) (hc1 : lb.length ≤ c1)
    (hla : la.length ≤ 256) (hlb : lb.length ≤ 256) (ht0 : 0 ≤ tol) (ht1 : tol ≤ 1048576) (hba : ∀ x ∈ la, -1099511627776 ≤ x.f0 ∧ x.f0 ≤ 1099511627776) (hbb : ∀ x ∈ lb, -1099511627776 ≤ x.f0 ∧ x.f0 ≤ 1099511627776) :
    Calls Try.prog 23 #[.slice A0 la.length c0, .slice A1 lb.length c1, .int .i64 tol] w fun e w' => ∃ (v0_ : Value) (l : List Pr), e = .returned (.tuple #[v0_, .int .i64 0]) ∧ Best (game la lb tol) 0 0 l ∧ Kd.R k58 58 w' w.heap.size (fun _ => True) v0_ (l.map tp) ∧ Below w.heap.size w w' := by
  have HC0 := Aside0.mk hr0
  have HC1 := Aside0.mk hr1
  have e1 : decide ((la.length : Int) > 256) = false := decide_eq_false (by omega)
  have e2 : decide ((lb.length : Int) > 256) = false := decide_eq_false (by omega)
  have e3 : decide (tol < 0) = false := decide_eq_false (by omega)
  have e4 : decide (tol > 1048576) = false := decide_eq_false (by omega)
  have hmk := run_mk lb.length hlb
  clear hr0 hr1 hc0 hc1
  go_enter Try.func23, Try.ntmps23
  go_wp2_with fail
  have HN : Aside0 (IsPart (dist (game la lb tol)) ((w.alloc (.cells #[.int .i64 0, .int .i64 0, .int .i64 0, .int .i64 0, .pointer none] 95)).alloc (.cells (MatX.made (lb.length + 1)) 93)) [] w.heap.size) := ⟨MatV.IsPart.alloc (l := []) (show IsPart _ _ [] _ from ⟨_, heap_alloc_new _ _⟩) _⟩
  have HR : Aside0 (RowV ((w.alloc (.cells #[.int .i64 0, .int .i64 0, .int .i64 0, .int .i64 0, .pointer none] 95)).alloc (.cells (MatX.made (lb.length + 1)) 93)) (w.heap.size + 1) (lb.length + 1) (fun j => if j < 0 then .pointer (some ⟨w.heap.size, 0, none⟩) else .pointer none)) := ⟨by
    have h := RowV.made (w.alloc (.cells #[.int .i64 0, .int .i64 0, .int .i64 0, .int .i64 0, .pointer none] 95)) (lb.length + 1)
    rw [show (w.alloc (.cells #[.int .i64 0, .int .i64 0, .int .i64 0, .int .i64 0, .pointer none] 95)).heap.size = w.heap.size + 1 from HandC.size_alloc' _ _] at h
    exact h.congr (fun k _ => by rw [if_neg (Nat.not_lt_zero _)])⟩
  have HB : Aside0 (Below w.heap.size w ((w.alloc (.cells #[.int .i64 0, .int .i64 0, .int .i64 0, .int .i64 0, .pointer none] 95)).alloc (.cells (MatX.made (lb.length + 1)) 93))) := ⟨((Below.refl _ _).alloc (Nat.le_refl _) _).alloc (by rw [HandC.size_alloc']; omega) _⟩
  generalize (w.alloc (.cells #[.int .i64 0, .int .i64 0, .int .i64 0, .int .i64 0, .pointer none] 95)).alloc (.cells (MatX.made (lb.length + 1)) 93) = W1 at *
  go_loopw [44] (fun v44 w' => ∃ i : Nat, i ≤ lb.length + 1 ∧ v44 = .int .i64 (i : Nat) ∧ Aside0 (RowV w' (w.heap.size + 1) (lb.length + 1) (fun j => if j < i then .pointer (some ⟨w.heap.size, 0, none⟩) else .pointer none)) ∧ Aside0 (IsPart (dist (game la lb tol)) w' [] w.heap.size) ∧ Aside0 (Below w.heap.size w w')) (fun v44 _ => lb.length + 1 - (intOf v44).toNat)
  case atStart => exact ⟨0, Nat.zero_le _, rfl, HR, HN, HB⟩
  case round =>
    clear HR HN HB
    obtain ⟨i, hi, rfl, HR, HN, HB⟩ := hrel
    by_cases hlt : i < lb.length + 1
    · have hc := HR.out.cell i hlt
      rw [if_neg (Nat.lt_irrefl _)] at hc
      have hf := HR.out.frozen i
      have HS := Aside0.mk ((HR.out.set i hlt (.pointer (some ⟨w.heap.size, 0, none⟩))).congr (U := fun j => if j < i + 1 then .pointer (some ⟨w.heap.size, 0, none⟩) else .pointer none) (fun k hk => by
        by_cases h1 : k = i
        · rw [if_pos h1, if_pos (by omega)]
        · rw [if_neg h1]
          by_cases h2 : k < i
          · rw [if_pos h2, if_pos (by omega)]
          · rw [if_neg h2, if_neg (by omega)]))
      have HN2 := Aside0.mk (isPart_setRow HN.out HR.out i (.pointer (some ⟨w.heap.size, 0, none⟩)))
      go_wp2
      go_roundw
      case rel => exact ⟨i + 1, by omega, by go_num, HS, HN2, ⟨HB.out.setCell (by simp) _⟩⟩
      case measure => simp [intOf]; omega
    · obtain rfl : i = lb.length + 1 := by omega
      have HR2 := Aside0.mk (HR.out.congr (U := fun j => .pointer (some ⟨(fun _ => w.heap.size) j, 0, none⟩)) (fun k hk => by rw [if_pos hk]))
      clear HR
      go_wp2_with fail
      go_loopw [9, 11] (fun v9 v11 w' => ∃ (d gb : Nat) (B : Nat → Nat) (L : Nat → List Pr), d ≤ la.length ∧ v11 = .int .i64 ((d : Int) - 1) ∧ v9 = .slice (some ⟨gb, 0, none⟩) (lb.length + 1) (lb.length + 1) ∧ Aside0 (w.heap.size < gb) ∧ Aside0 (RowV w' gb (lb.length + 1) (fun j => .pointer (some ⟨B j, 0, none⟩))) ∧ Aside0 (∀ j, j ≤ lb.length → IsPart (dist (game la lb tol)) w' (L j) (B j) ∧ Best (game la lb tol) d j (L j)) ∧ Aside0 (IsPart (dist (game la lb tol)) w' [] w.heap.size) ∧ Aside0 (Below w.heap.size w w')) (fun _ v11 _ => (intOf v11 + 1).toNat)
      case atStart => exact ⟨la.length, w.heap.size + 1, fun _ => w.heap.size, fun _ => [], Nat.le_refl _, rfl, rfl, ⟨Nat.lt_succ_self _⟩, HR2, ⟨fun j _ => ⟨HN.out, Best.end_ _ (.inl (Nat.le_refl _))⟩⟩, HN, HB⟩
      case round =>
        clear HR2 HN HB
        obtain ⟨d, gb, B, L, hd, rfl, rfl, HG, HR, HL, HN, HB⟩ := hrel
        cases d with
        | zero =>
          have hq0 := HR.out.cell 0 (by omega)
          have hl0 := HL.out 0 (Nat.zero_le _)
          have J := Aside0.mk hl0.1
          have JB := Aside0.mk hl0.2
          clear hl0 HL HN
          go_wp2_with fail
          go_loopg [18, 19] ((L 0).length + 1) (fun kq v18 v19 w' => ∃ (dn rs : List Pr) (b : Nat), v19 = .pointer (some ⟨b, 0, none⟩) ∧ rs.length < kq ∧ Aside0 (dn ++ rs = L 0) ∧ Aside0 (IsPart (dist (game la lb tol)) w' rs b) ∧ Aside0 (Kd.R k58 58 w' w.heap.size (fun _ => True) v18 (dn.map tp)) ∧ Aside0 (Below w.heap.size w w'))
          case atStart => exact ⟨[], L 0, B 0, rfl, Nat.lt_succ_self _, ⟨rfl⟩, J, ⟨Kd.R_nil _ _ _ _ _⟩, HB⟩
          case round =>
            obtain ⟨dn, rs, b, rfl, hk, HE, HI, HO, HB⟩ := hrel
            cases rs with
            | nil =>
              obtain ⟨r, hc⟩ := HI.out
              have f0 := (blk_cell hc 0).trans rfl
              clear hc
              have HEE : Aside0 (dn = L 0) := ⟨by have := HE.out; rwa [List.append_nil] at this⟩
              go_wp2
              go_ret2
              exact ⟨u18, L 0, rfl, JB.out, by rw [← HEE.out]; exact HO.out, HB.out⟩
            | cons p rs =>
              obtain ⟨b', hc, HI2⟩ := HI.out
              have n1 := blk_lt hc
              have f0 := (blk_cell hc 0).trans rfl
              have f2 := (blk_cell hc 2).trans rfl
              have f3 := (blk_cell hc 3).trans rfl
              have f4 := (blk_cell hc 4).trans rfl
              have hpos : (0 : Int) < ((rs.length + 1 : Nat) : Int) := by omega
              have HI3 := Aside0.mk HI2
              have HLL : Aside0 (dn.length ≤ 256) := ⟨by
                have h1 := JB.out.1.len (Nat.zero_le _)
                have h2 := congrArg List.length HE.out
                rw [List.length_append] at h2
                have h3 : (game la lb tol).n = la.length := rfl
                omega⟩
              have HC := Aside0.mk hc
              clear hc HI2
              have HO' := Aside0.mk HO.out
              go_wp2_with (at_builtin; refine Kd.R_append k58 (w0 := w) w.heap.size rfl (.tmp 164) (.tmp 169) 54 58 (.agg #[.int .i64 0, .int .i64 0]) 16 rfl Try.underlying54 info58 rfl (by decide) (by omega) _ (dn.map tp) (tp p) [.int .i64 (p.1 : Nat), .int .i64 (p.2 : Nat)] (fun _ => True) (fun _ => False) rfl rfl ?aP (fun _ h => h.elim) (fun _ _ => trivial) ?aO ?aB ?aS ?aL ?_; (case aP => exact k58_mkM _ _ _ (tp p)); (case aO => exact HO'.out); (case aB => exact HB.out); (case aS => exact HB.out.size); (case aL => have := HLL.out; rw [List.length_map]; omega); intro v1 w1 ho hb hg hat; have HO2 := Aside0.mk ho; have HB2 := Aside0.mk hb; have HI4 := Aside0.mk (HI3.out.move (w1 := w1) (fun b ⟨cs, hc⟩ => hg.block b (blk_lt hc) (Kd.R_ne HO'.out hc (by decide)))); have f4' : w1.cell? ⟨b, 4, none⟩ = some (.pointer (some ⟨b', 0, none⟩)) := (blk_cell ((hg.block b (blk_lt HC.out) (Kd.R_ne HO'.out HC.out (by decide))).trans HC.out) 4).trans rfl; clear ho hb hg hat f4)
              go_roundg (rs.length + 1)
              case measure => simp at hk; omega
              case rel => exact ⟨dn ++ [p], rs, b', rfl, Nat.lt_succ_self _, ⟨by have := HE.out; simpa using this⟩, HI4, ⟨by have := HO2.out; rwa [List.map_append]⟩, HB2⟩
        | succ i =>
          rw [show ((i + 1 : Nat) : Int) - 1 = (i : Int) by omega]
          have hgb := HR.out.lt
          have hgw := HB.out.size
          have hfz := fun (W : World) (k : Nat) => (RowV.made W (lb.length + 1)).frozen k
          have hmg := made_get (lb.length + 1) lb.length (by omega)
          go_wp2_with fail
          clear hfz hmg
          have HB0 : Below wr.heap.size wr (wr.alloc (.cells ((MatX.made (lb.length + 1)).setIfInBounds lb.length (.pointer (some ⟨w.heap.size, 0, none⟩))) 93)) := below_alloc (Below.refl _ _) _
          have HW := Aside0.mk (RowV.made1 wr lb.length (.pointer (some ⟨w.heap.size, 0, none⟩)))
          have HR2 := Aside0.mk (HR.out.below HB0)
          have HL2 := Aside0.mk (fun j hj => MatV.IsPart.below (HL.out j hj).1 HB0)
          have HLB := Aside0.mk (fun j hj => (HL.out j hj).2)
          have HN2 := Aside0.mk (MatV.IsPart.below HN.out HB0)
          have HB2 : Aside0 (Below w.heap.size w _) := ⟨HB.out.trans (HB0.mono hgw)⟩
          clear HB0 HR HL HN HB
          generalize wr.alloc (.cells ((MatX.made (lb.length + 1)).setIfInBounds lb.length (.pointer (some ⟨w.heap.size, 0, none⟩))) 93) = W2 at *
          generalize hgg : wr.heap.size = gw at *
          have HGG := Aside0.mk hgg
          clear hgg
          go_loopw [13] (fun v13 w' => ∃ (e : Nat) (B2 : Nat → Nat) (L2 : Nat → List Pr), e ≤ lb.length ∧ v13 = .int .i64 ((e : Int) - 1) ∧ Aside0 (RowV w' gw (lb.length + 1) (fun j => if e ≤ j then .pointer (some ⟨B2 j, 0, none⟩) else .pointer none)) ∧ Aside0 (∀ j, e ≤ j → j ≤ lb.length → IsPart (dist (game la lb tol)) w' (L2 j) (B2 j) ∧ Best (game la lb tol) i j (L2 j)) ∧ Aside0 (RowV w' gb (lb.length + 1) (fun j => .pointer (some ⟨B j, 0, none⟩))) ∧ Aside0 (∀ j, j ≤ lb.length → IsPart (dist (game la lb tol)) w' (L j) (B j)) ∧ Aside0 (IsPart (dist (game la lb tol)) w' [] w.heap.size) ∧ Aside0 (Below w.heap.size w w')) (fun v13 _ => (intOf v13 + 1).toNat)
          case atStart => exact ⟨lb.length, fun _ => w.heap.size, fun _ => [], Nat.le_refl _, rfl, HW, ⟨fun j h1 h2 => ⟨HN2.out, Best.end_ _ (.inr h1)⟩⟩, HR2, HL2, HN2, HB2⟩
          case round =>
            clear HW HR2 HL2 HN2 HB2
            obtain ⟨e, B2, L2, he, rfl, HW, HL2, HR, HL, HN, HB⟩ := hrel
            cases e with
            | zero =>
              have HW2 := Aside0.mk (HW.out.congr (U := fun j => .pointer (some ⟨B2 j, 0, none⟩)) (fun j _ => if_pos (Nat.zero_le j)))
              clear HW
              go_wp2
              exact ⟨⟨i, gw, B2, L2, by omega, rfl, rfl, ⟨Nat.lt_of_lt_of_le HG.out (Nat.le_of_lt hgb)⟩, HW2, ⟨fun j hj => HL2.out j (Nat.zero_le _) hj⟩, HN, HB⟩, by simp [intOf]⟩
            | succ k =>
              rw [show ((k + 1 : Nat) : Int) - 1 = (k : Int) by omega]
              have S0 : Aside0 (St la lb tol w gb gw B L B2 L2 i (k + 1) wr) := ⟨HW.out, HL2.out, HR.out, HL.out, HN.out, HB.out⟩
              have cb := HR.out.cell k (by omega)
              have cw1 := HW.out.cell (k + 1) (by omega)
              rw [if_pos (Nat.le_refl _)] at cw1
              have P1 := Aside0.mk (HL2.out (k + 1) (Nat.le_refl _) he).1
              have P2 := Aside0.mk (HL.out k (by omega))
              clear HW HL2 HR HL HN HB
              go_upto_if 86 with (go_at_call 47; (with_reducible refine (compare_calls (dist (game la lb tol)) (B2 (k + 1)) (B k) (L2 (k + 1)) (L k) _ P1.out P2.out).mono ?_); rintro e w5 ⟨rfl, hb5⟩; have S1 := Aside0.mk (S0.out.below hb5); clear hb5 S0 P1 P2 cb cw1)
              go_cut [14] (fun v14 wc => ∃ (b1 : Nat) (l1 : List Pr), v14 = .pointer (some ⟨b1, 0, none⟩) ∧ Aside0 (IsPart (dist (game la lb tol)) wc l1 b1) ∧ Aside0 ((Mat.bt (game la lb tol) (L2 (k + 1)) (L k) ∧ l1 = L2 (k + 1)) ∨ (¬ Mat.bt (game la lb tol) (L2 (k + 1)) (L k) ∧ l1 = L k)) ∧ Aside0 (St la lb tol w gb gw B L B2 L2 i (k + 1) wc))
              case first =>
                by_cases hc : cmpP (dist (game la lb tol)) (L2 (k + 1)) (L k) < 0
                · have hbt := (cmpP_neg _ _ _).1 hc
                  have cw1 := S1.out.1.cell (k + 1) (by omega)
                  rw [if_pos (Nat.le_refl _)] at cw1
                  have HBT := Aside0.mk hbt
                  clear hbt
                  go_wp2
                  go_meet
                  exact ⟨B2 (k + 1), L2 (k + 1), rfl, ⟨(S1.out.2.1 (k + 1) (Nat.le_refl _) he).1⟩, ⟨.inl ⟨HBT.out, rfl⟩⟩, S1⟩
                · have HBT := Aside0.mk (fun h => hc ((cmpP_neg _ _ _).2 h))
                  go_wp2
                  go_meet
                  exact ⟨B k, L k, rfl, ⟨S1.out.2.2.2.1 k (by omega)⟩, ⟨.inr ⟨HBT.out, rfl⟩⟩, S1⟩
              case rest =>
                clear S1
                obtain ⟨b1, l1, rfl, Q1, Q2, S1⟩ := hcut
                obtain ⟨ada, ea, xa0, xa1, xa2⟩ := at_T41 HC0.out (i : Int) (by omega) (by omega)
                obtain ⟨adb, eb, xb0, xb1, xb2⟩ := at_T41 HC1.out (k : Int) (by omega) (by omega)
                cases ea
                cases eb
                rw [Int.toNat_natCast] at xa0 xa1 xa2 xb0 xb1 xb2
                have hBw := S1.out.2.2.2.2.2
                replace xa0 := pw_cell_below hBw xa0
                replace xa1 := pw_cell_below hBw xa1
                replace xa2 := pw_cell_below hBw xa2
                replace xb0 := pw_cell_below hBw xb0
                replace xb1 := pw_cell_below hBw xb1
                replace xb2 := pw_cell_below hBw xb2
                have hma : rd_T41 la (i : Int) ∈ la := by show la.getD i z41 ∈ la; rw [List.getD_eq_getElem?_getD, List.getElem?_eq_getElem (by omega)]; exact List.getElem_mem _
                have hmb : rd_T41 lb (k : Int) ∈ lb := by show lb.getD k z41 ∈ lb; rw [List.getD_eq_getElem?_getD, List.getElem?_eq_getElem (by omega)]; exact List.getElem_mem _
                have ba := hba _ hma
                have bb := hbb _ hmb
                have HDS : Aside0 (gds la lb i k = mag ((rd_T41 la (i : Int)).f0 - (rd_T41 lb (k : Int)).f0)) := ⟨rfl⟩
                have HOK : Aside0 ((game la lb tol).ok i k = (decide (gds la lb i k ≤ tol) && (dirI (rd_T41 la (i : Int)) == dirI (rd_T41 lb (k : Int))))) := ⟨rfl⟩
                clear hBw hma hmb
                generalize rd_T41 la (i : Int) = xa at *
                generalize rd_T41 lb (k : Int) = xb at *
                have babs : -4398046511104 ≤ xa.f0 - xb.f0 ∧ xa.f0 - xb.f0 ≤ 4398046511104 := by omega
                have q1 : (0 : Int) ≤ (i : Int) := Int.natCast_nonneg _
                have q2 : (i : Int) < (la.length : Int) := by omega
                have q3 : (0 : Int) ≤ (k : Int) := Int.natCast_nonneg _
                have q4 : (k : Int) < (lb.length : Int) := by omega
                have qw : IntKind.i64.wrap (xa.f0 - xb.f0) = xa.f0 - xb.f0 := IntWalk.i64_in _ (by omega)
                have hab := abs_any (xa.f0 - xb.f0)
                have habs := fun W : World => hab W babs.1 babs.2
                have HAB := Aside0.mk habs
                clear hab habs babs
                have S2 : Aside0 (St1 la lb tol w gb gw B L B2 L2 i (k + 1) b1 l1 wc) := ⟨S1.out, Q1.out⟩
                clear S1 Q1
                go_wp2_with fail
                go_region_held3 (fun w' => Aside0 (St1 la lb tol w gb gw B L B2 L2 i (k + 1) b1 l1 w') ∧ w'.cell? (ada.add (i * 3)) = some (.int .i64 xa.f0) ∧ w'.cell? ⟨(ada.add (i * 3)).block, (ada.add (i * 3)).off + 1, none⟩ = some (.int .i64 xa.f1) ∧ w'.cell? ⟨(ada.add (i * 3)).block, (ada.add (i * 3)).off + 2, none⟩ = some (.int .i64 xa.f2) ∧ w'.cell? (adb.add (k * 3)) = some (.int .i64 xb.f0) ∧ w'.cell? ⟨(adb.add (k * 3)).block, (adb.add (k * 3)).off + 1, none⟩ = some (.int .i64 xb.f1) ∧ w'.cell? ⟨(adb.add (k * 3)).block, (adb.add (k * 3)).off + 2, none⟩ = some (.int .i64 xb.f2))
                  ((first
                    | (go_split_ands; exact ⟨St1.below (by assumption) (below_drew (Below.refl _ _)), by assumption, by assumption, by assumption, by assumption, by assumption, by assumption⟩)
                    | (go_split_ands; exact ⟨St1.below (by assumption) (pw_below_drewN (Below.refl _ _) _), by assumption, by assumption, by assumption, by assumption, by assumption, by assumption⟩)))
                  ((go_at_call 46; (with_reducible refine (HAB.out _).mono ?_); rintro e w' ⟨rfl, nq2, rfl⟩))
                rename_i hH
                clear xa0 xa1 xa2 xb0 xb1 xb2
                obtain ⟨S3, xa0, xa1, xa2, xb0, xb1, xb2⟩ := hH
                generalize mag (xa.f0 - xb.f0) = ds at *
                go_upto_region 24 with (fail)
                go_cut [119] (fun v119 wq => v119 = .bool ((game la lb tol).ok i k) ∧ Aside0 (St1 la lb tol w gb gw B L B2 L2 i (k + 1) b1 l1 wq))
                case first =>
                  by_cases g1 : ds ≤ tol
                  · have g1d : decide (ds ≤ tol) = true := decide_eq_true g1
                    have HOK2 : Aside0 ((game la lb tol).ok i k = (dirI xa == dirI xb)) := ⟨by rw [HOK.out, HDS.out, g1d, Bool.true_and]⟩
                    go_region_held3 (fun w' => Aside0 (St1 la lb tol w gb gw B L B2 L2 i (k + 1) b1 l1 w') ∧ w'.cell? (ada.add (i * 3)) = some (.int .i64 xa.f0) ∧ w'.cell? ⟨(ada.add (i * 3)).block, (ada.add (i * 3)).off + 1, none⟩ = some (.int .i64 xa.f1) ∧ w'.cell? ⟨(ada.add (i * 3)).block, (ada.add (i * 3)).off + 2, none⟩ = some (.int .i64 xa.f2) ∧ w'.cell? (adb.add (k * 3)) = some (.int .i64 xb.f0) ∧ w'.cell? ⟨(adb.add (k * 3)).block, (adb.add (k * 3)).off + 1, none⟩ = some (.int .i64 xb.f1) ∧ w'.cell? ⟨(adb.add (k * 3)).block, (adb.add (k * 3)).off + 2, none⟩ = some (.int .i64 xb.f2))
                      ((first
                      | (go_split_ands; exact ⟨St1.below (by assumption) (below_drew (Below.refl _ _)), by assumption, by assumption, by assumption, by assumption, by assumption, by assumption⟩)
                      | (go_split_ands; exact ⟨St1.below (by assumption) (pw_below_drewN (Below.refl _ _) _), by assumption, by assumption, by assumption, by assumption, by assumption, by assumption⟩)
                      | (go_split_ands; exact ⟨St1.below (by assumption) (by assumption), pw_cell_below (by assumption) (by assumption), pw_cell_below (by assumption) (by assumption), pw_cell_below (by assumption) (by assumption), pw_cell_below (by assumption) (by assumption), pw_cell_below (by assumption) (by assumption), pw_cell_below (by assumption) (by assumption)⟩)))
                      ((go_at_call 30; (first | (with_reducible refine (dir_any xa _).mono ?_) | (with_reducible refine (dir_any xb _).mono ?_)); rintro e w' ⟨rfl, hbd⟩))
                    rename_i hH
                    go_wp2_with fail
                    go_meet
                    exact ⟨by rw [HOK2.out], hH.1⟩
                  · have g1d : decide (ds ≤ tol) = false := decide_eq_false g1
                    have HOK2 : Aside0 ((game la lb tol).ok i k = false) := ⟨by rw [HOK.out, HDS.out, g1d, Bool.false_and]⟩
                    go_quiet (fail)
                    go_wp2_with fail
                    go_meet
                    exact ⟨by rw [HOK2.out], St1.below S2 (pw_below_drewN (Below.refl _ _) _)⟩
                case rest =>
                  clear S2 S3 xa0 xa1 xa2 xb0 xb1 xb2 qw HAB
                  obtain ⟨rfl, S4⟩ := hcut
                  go_upto_if 119 with (fail)
                  go_cut [14] (fun v14 wz => ∃ (b2 : Nat) (l2 : List Pr), v14 = .pointer (some ⟨b2, 0, none⟩) ∧ Aside0 (Best (game la lb tol) i k l2) ∧ Aside0 (St1 la lb tol w gb gw B L B2 L2 i (k + 1) b2 l2 wz))
                  case first =>
                    by_cases hok : (game la lb tol).ok i k = true
                    · have HO1 := Aside0.mk hok
                      rw [hok]
                      clear hok
                      have cb1 := S4.out.1.2.2.1.cell (k + 1) (by omega)
                      have hp := S4.out.1.2.2.2.1 (k + 1) he
                      obtain ⟨pi, pk, pr, hpc⟩ := hp.cells
                      have n1 := blk_lt hpc
                      have f0 := (blk_cell hpc 0).trans rfl
                      have f1 := (blk_cell hpc 1).trans rfl
                      have hbst := HLB.out (k + 1) he
                      have hlen : (L (k + 1)).length ≤ 256 := by
                        have h1 := hbst.1.len (show i + 1 ≤ (game la lb tol).n from hd)
                        have h2 : (game la lb tol).n = la.length := rfl
                        omega
                      have hdb := dist_bd (game la lb tol) 2199023255552 (by decide) (fun i k h1 h2 => gds_bd la lb hba hbb i k h1 h2) (L (k + 1)) _ _ hbst.1
                      have hdb2 : dist (game la lb tol) (L (k + 1)) ≤ 562949953421312 := by
                        refine Int.le_trans hdb.2 (Int.le_trans (Int.mul_le_mul_of_nonneg_right (show ((L (k + 1)).length : Int) ≤ 256 by omega) (by decide)) (by decide))
                      have hds := gds_bd la lb hba hbb i k (by omega) (by omega)
                      rw [HDS.out] at hds
                      have w1 : IntKind.i64.wrap (((L (k + 1)).length : Int) + 1) = ((L (k + 1)).length : Int) + 1 := IntWalk.i64_in _ (by omega)
                      have w2 : IntKind.i64.wrap (dist (game la lb tol) (L (k + 1)) + ds) = dist (game la lb tol) (L (k + 1)) + ds := IntWalk.i64_in _ (by omega)
                      have HDX : Aside0 (dist (game la lb tol) ((i, k) :: L (k + 1)) = dist (game la lb tol) (L (k + 1)) + ds) := ⟨by
                        show gds la lb i k + dist (game la lb tol) (L (k + 1)) = _
                        rw [HDS.out]; omega⟩
                      have HP := Aside0.mk hp
                      have HBST := Aside0.mk hbst
                      clear hpc hbst hdb hp
                      go_wp2
                      go_region_held3 (fun w' => Aside0 (St1 la lb tol w gb gw B L B2 L2 i (k + 1) b1 l1 w') ∧ w'.cell? ⟨B (k + 1), 0, none⟩ = some (.int .i64 ((L (k + 1)).length : Nat)) ∧ w'.cell? ⟨B (k + 1), 1, none⟩ = some (.int .i64 (dist (game la lb tol) (L (k + 1)))))
                        ((first
                          | (go_split_ands; exact ⟨St1.below (by assumption) (below_drew (Below.refl _ _)), by assumption, by assumption⟩)
                          | (go_split_ands; exact ⟨St1.below (by assumption) (below_alloc (Below.refl _ _) _), by first | assumption | (exact pw_cell_below (below_alloc (Below.refl _ _) _) (by assumption)), by first | assumption | (exact pw_cell_below (below_alloc (Below.refl _ _) _) (by assumption))⟩)))
                        (fail)
                      rename_i hH
                      obtain ⟨S6, _, _⟩ := hH
                      have Q6 := Aside0.mk S6.out.2
                      clear f0 f1 cb1 w1 w2
                      have ec : (((L (k + 1)).length + 1 : Nat) : Int) = ((L (k + 1)).length : Int) + 1 := by omega
                      have EC := Aside0.mk ec
                      clear ec
                      go_wp2_with fail
                      (with_reducible refine (compare_calls (dist (game la lb tol)) wc.heap.size b1 ((i, k) :: L (k + 1)) l1 _ ?z1 Q6.out).mono ?_)
                      case z1 => exact ⟨B (k + 1), by rw [HDX.out, EC.out]; exact heap_alloc_new _ _, MatV.IsPart.below HP.out (below_drew (below_alloc (Below.refl _ _) _))⟩
                      rintro e w8 ⟨rfl, hb8⟩
                      have S7 := St1.below S6 hb8
                      have HX : Aside0 (IsPart (dist (game la lb tol)) w8 ((i, k) :: L (k + 1)) wc.heap.size) := ⟨MatV.IsPart.below (show IsPart (dist (game la lb tol)) _ ((i, k) :: L (k + 1)) wc.heap.size from ⟨B (k + 1), by rw [HDX.out, EC.out]; exact heap_alloc_new _ _, MatV.IsPart.below HP.out (below_drew (below_alloc (Below.refl _ _) _))⟩) hb8⟩
                      clear hb8 S6 Q6
                      by_cases hc : cmpP (dist (game la lb tol)) ((i, k) :: L (k + 1)) l1 < 0
                      · have HBT := Aside0.mk ((cmpP_neg _ _ _).1 hc)
                        go_wp2
                        go_meet
                        exact ⟨wc.heap.size, (i, k) :: L (k + 1), rfl, ⟨Best.step (G := game la lb tol) hd he (HLB.out k (by omega)) (S4.out.1.2.1 (k + 1) (Nat.le_refl _) he).2 HBST.out Q2.out (.inl ⟨HO1.out, HBT.out, rfl⟩)⟩, ⟨S7.out.1, HX.out⟩⟩
                      · have HBT := Aside0.mk (fun h => hc ((cmpP_neg _ _ _).2 h))
                        go_wp2
                        go_meet
                        exact ⟨b1, l1, rfl, ⟨Best.step (G := game la lb tol) hd he (HLB.out k (by omega)) (S4.out.1.2.1 (k + 1) (Nat.le_refl _) he).2 HBST.out Q2.out (.inr ⟨fun h => HBT.out h.2, rfl⟩)⟩, S7⟩
                    · have hok2 : (game la lb tol).ok i k = false := by simpa using hok
                      have HO2 := Aside0.mk hok2
                      rw [hok2]
                      clear hok hok2
                      go_wp2
                      go_meet
                      exact ⟨b1, l1, rfl, ⟨Best.step (G := game la lb tol) hd he (HLB.out k (by omega)) (S4.out.1.2.1 (k + 1) (Nat.le_refl _) he).2 (HLB.out (k + 1) he) Q2.out (.inr ⟨fun h => by rw [HO2.out] at h; exact Bool.noConfusion h.1, rfl⟩)⟩, S4⟩
                  case rest =>
                    clear S4
                    obtain ⟨b2, l2, rfl, HBB, S5⟩ := hcut
                    obtain ⟨⟨T1, T2, T3, T4, T5, T6⟩, T7⟩ := S5.out
                    have cw := T1.cell k (by omega)
                    rw [if_neg (by omega)] at cw
                    have fw := T1.frozen k
                    have U1 := Aside0.mk ((T1.set k (by omega) (.pointer (some ⟨b2, 0, none⟩))).congr (U := fun j => if k ≤ j then .pointer (some ⟨(fun j => if j = k then b2 else B2 j) j, 0, none⟩) else .pointer none) (fun j hj => by
                      by_cases h1 : j = k
                      · rw [if_pos h1, if_pos (by omega)]
                        show _ = Value.pointer (some ⟨if j = k then b2 else B2 j, 0, none⟩)
                        rw [if_pos h1]
                      · rw [if_neg h1]
                        by_cases h2 : k + 1 ≤ j
                        · rw [if_pos h2, if_pos (by omega)]
                          show _ = Value.pointer (some ⟨if j = k then b2 else B2 j, 0, none⟩)
                          rw [if_neg h1]
                        · rw [if_neg h2, if_neg (by omega)]))
                    have U2 : Aside0 (∀ j, k ≤ j → j ≤ lb.length → IsPart (dist (game la lb tol)) (wc.setCell ⟨gw, k, none⟩ (.pointer (some ⟨b2, 0, none⟩))) ((fun j => if j = k then l2 else L2 j) j) ((fun j => if j = k then b2 else B2 j) j) ∧ Best (game la lb tol) i j ((fun j => if j = k then l2 else L2 j) j)) := ⟨fun j h1 h2 => by
                      by_cases h3 : j = k
                      · subst h3
                        show IsPart _ _ (if j = j then l2 else L2 j) (if j = j then b2 else B2 j) ∧ Best _ i j (if j = j then l2 else L2 j)
                        rw [if_pos rfl, if_pos rfl]
                        exact ⟨isPart_setRow T7 T1 j _, HBB.out⟩
                      · show IsPart _ _ (if j = k then l2 else L2 j) (if j = k then b2 else B2 j) ∧ Best _ i j (if j = k then l2 else L2 j)
                        rw [if_neg h3, if_neg h3]
                        have h4 := T2 j (by omega) h2
                        exact ⟨isPart_setRow h4.1 T1 k _, h4.2⟩⟩
                    have U3 := Aside0.mk (T3.far (Nat.ne_of_lt hgb) k (.pointer (some ⟨b2, 0, none⟩)))
                    have U4 : Aside0 (∀ j, j ≤ lb.length → IsPart (dist (game la lb tol)) (wc.setCell ⟨gw, k, none⟩ (.pointer (some ⟨b2, 0, none⟩))) (L j) (B j)) := ⟨fun j hj => isPart_setRow (T4 j hj) T1 k _⟩
                    have U5 := Aside0.mk (isPart_setRow T5 T1 k (.pointer (some ⟨b2, 0, none⟩)))
                    have U6 : Aside0 (Below w.heap.size w (wc.setCell ⟨gw, k, none⟩ (.pointer (some ⟨b2, 0, none⟩)))) := ⟨T6.setCell hgw _⟩
                    clear T1 T2 T3 T4 T5 T6 T7 S5
                    go_wp2
                    go_roundw
                    case rel => exact ⟨k, fun j => if j = k then b2 else B2 j, fun j => if j = k then l2 else L2 j, by omega, rfl, U1, U2, U3, U4, U5, U6⟩
                    case measure => simp [intOf]
end Go.Proofs.Ytcjgmofgfblmnaa.MatX
namespace Go.Proofs.Ytcjgmofgfblmnaa.MatY
open Go.RowKit Go.Shelf Go.Proofs.YtcjgmofgfblmnaaW.PrintWords Go.Proofs.YtcjgmofgfblmnaaW.PrintLast Go.Proofs.YtcjgmofgfblmnaaW.PrintMore Go.Proofs.Ytcjgmofgfblmnaa.Q Go.Proofs.Ytcjgmofgfblmnaa.Mat Go.Proofs.Ytcjgmofgfblmnaa.MatV Go.Proofs.Ytcjgmofgfblmnaa.MatX
set_option linter.unusedVariables false
set_option linter.unusedSimpArgs false
set_option linter.unusedSimpArgs false
/-- The table, reckoned. -/
def tb (G : Game) : Nat → Nat → Nat → List Pr
  | 0, _, _ => []
  | f + 1, i, k =>
    if i < G.n ∧ k < G.m then
      (fun b1 => if G.ok i k = true ∧ cmpP (dist G) ((i, k) :: tb G f (i + 1) (k + 1)) b1 < 0 then (i, k) :: tb G f (i + 1) (k + 1) else b1)
        (if cmpP (dist G) (tb G f i (k + 1)) (tb G f (i + 1) k) < 0 then tb G f i (k + 1) else tb G f (i + 1) k)
    else []
theorem tb_best (G : Game) : ∀ f i k, G.n + G.m < f + i + k → Best G i k (tb G f i k) := by
  intro f
  induction f with
  | zero => intro i k h; exact Best.end_ G (by omega)
  | succ f ih =>
    intro i k h
    simp only [tb]
    by_cases hc : i < G.n ∧ k < G.m
    · rw [if_pos hc]
      have hb := ih (i + 1) k (by omega)
      have hn := ih i (k + 1) (by omega)
      have hp := ih (i + 1) (k + 1) (by omega)
      generalize hb1 : (if cmpP (dist G) (tb G f i (k + 1)) (tb G f (i + 1) k) < 0 then tb G f i (k + 1) else tb G f (i + 1) k) = b1
      refine Best.step (b1 := b1) hc.1 hc.2 hb hn hp ?_ ?_
      · rw [← hb1]
        by_cases h1 : cmpP (dist G) (tb G f i (k + 1)) (tb G f (i + 1) k) < 0
        · exact .inl ⟨(cmpP_neg G _ _).1 h1, if_pos h1⟩
        · exact .inr ⟨fun h2 => h1 ((cmpP_neg G _ _).2 h2), if_neg h1⟩
      · by_cases h1 : G.ok i k = true ∧ cmpP (dist G) ((i, k) :: tb G f (i + 1) (k + 1)) b1 < 0
        · exact .inl ⟨h1.1, (cmpP_neg G _ _).1 h1.2, if_pos h1⟩
        · exact .inr ⟨fun h2 => h1 ⟨h2.1, (cmpP_neg G _ _).2 h2.2⟩, if_neg h1⟩
    · rw [if_neg hc]
      exact Best.end_ G (by omega)
/-- The best matching. -/
def best (G : Game) : List Pr := tb G (G.n + G.m + 1) 0 0
theorem best_best (G : Game) : Best G 0 0 (best G) := tb_best G _ 0 0 (by omega)
set_option maxHeartbeats 1000000 in
set_option maxRecDepth 100000 in
theorem match_limit0 (A0 : Option Addr) (c0 n0 : Nat) (A1 : Option Addr) (c1 n1 : Nat) (tol : Int) (w : World) (h0 : 256 < n0) :
    Calls Try.prog 23 #[.slice A0 n0 c0, .slice A1 n1 c1, .int .i64 tol] w fun e w' => e = .returned (.tuple #[.slice none 0 0, .int .i64 6]) ∧ Below w.heap.size w w' := by
  have e1 : decide ((n0 : Int) > 256) = true := decide_eq_true (by omega)
  go_enter Try.func23, Try.ntmps23
  go_wp2
  go_ret2
  exact ⟨rfl, Below.refl _ _⟩
set_option maxHeartbeats 1000000 in
set_option maxRecDepth 100000 in
theorem match_limit1 (A0 : Option Addr) (c0 n0 : Nat) (A1 : Option Addr) (c1 n1 : Nat) (tol : Int) (w : World) (h0 : n0 ≤ 256) (h1 : 256 < n1) :
    Calls Try.prog 23 #[.slice A0 n0 c0, .slice A1 n1 c1, .int .i64 tol] w fun e w' => e = .returned (.tuple #[.slice none 0 0, .int .i64 6]) ∧ Below w.heap.size w w' := by
  have e1 : decide ((n0 : Int) > 256) = false := decide_eq_false (by omega)
  have e2 : decide ((n1 : Int) > 256) = true := decide_eq_true (by omega)
  go_enter Try.func23, Try.ntmps23
  go_wp2
  go_ret2
  exact ⟨rfl, Below.refl _ _⟩
set_option maxHeartbeats 1000000 in
set_option maxRecDepth 100000 in
theorem match_range (A0 : Option Addr) (c0 n0 : Nat) (A1 : Option Addr) (c1 n1 : Nat) (tol : Int) (w : World) (h0 : n0 ≤ 256) (h1 : n1 ≤ 256) (ht : tol < 0 ∨ 1048576 < tol) :
    Calls Try.prog 23 #[.slice A0 n0 c0, .slice A1 n1 c1, .int .i64 tol] w fun e w' => e = .returned (.tuple #[.slice none 0 0, .int .i64 2]) ∧ Below w.heap.size w w' := by
  have e1 : decide ((n0 : Int) > 256) = false := decide_eq_false (by omega)
  have e2 : decide ((n1 : Int) > 256) = false := decide_eq_false (by omega)
  by_cases h3 : tol < 0
  · have e3 : decide (tol < 0) = true := decide_eq_true h3
    clear h3 ht
    go_enter Try.func23, Try.ntmps23
    go_wp2
    go_ret2
    exact ⟨rfl, Below.refl _ _⟩
  · have e3 : decide (tol < 0) = false := decide_eq_false h3
    have e4 : decide (tol > 1048576) = true := decide_eq_true (by omega)
    clear h3 ht
    go_enter Try.func23, Try.ntmps23
    go_wp2
    go_ret2
    exact ⟨rfl, Below.refl _ _⟩
def bdB (l : List S41) : Bool := l.all fun x => decide (-1099511627776 ≤ x.f0 ∧ x.f0 ≤ 1099511627776)
def matchF (l0 l1 : List S41) (tol : Int) : Option (List S58 × Int) :=
  if 256 < l0.length ∨ 256 < l1.length then some ([], 6)
  else if tol < 0 ∨ 1048576 < tol then some ([], 2)
  else if bdB l0 = true ∧ bdB l1 = true then some ((best (game l0 l1 tol)).map tp, 0)
  else none
theorem matchF_calls (A0 : Option Addr) (c0 : Nat) (l0 : List S41) (A1 : Option Addr) (c1 : Nat) (l1 : List S41) (a2 : Int) (r1 : List S58) (r2 : Int) (w : World) (hr0 : Kd.C k41 w A0 l0.length l0) (hc0 : l0.length ≤ c0) (hr1 : Kd.C k41 w A1 l1.length l1) (hc1 : l1.length ≤ c1) (h : matchF l0 l1 a2 = some (r1, r2)) :
    Calls Try.prog 23 #[.slice A0 l0.length c0, .slice A1 l1.length c1, .int .i64 a2] w fun e w' => ∃ v0_ : Value, e = .returned (.tuple #[v0_, .int .i64 r2]) ∧ Kd.R k58 58 w' w.heap.size (fun _ => True) v0_ r1 ∧ Below w.heap.size w w' := by
  unfold matchF at h
  by_cases h1 : 256 < l0.length ∨ 256 < l1.length
  · rw [if_pos h1] at h
    cases h
    by_cases h2 : 256 < l0.length
    · exact (match_limit0 A0 c0 _ A1 c1 _ a2 w h2).mono fun e w' hh => ⟨_, hh.1, Kd.R_nil _ _ _ _ _, hh.2⟩
    · exact (match_limit1 A0 c0 _ A1 c1 _ a2 w (by omega) (by omega)).mono fun e w' hh => ⟨_, hh.1, Kd.R_nil _ _ _ _ _, hh.2⟩
  · rw [if_neg h1] at h
    by_cases h2 : a2 < 0 ∨ 1048576 < a2
    · rw [if_pos h2] at h
      cases h
      exact (match_range A0 c0 _ A1 c1 _ a2 w (by omega) (by omega) h2).mono fun e w' hh => ⟨_, hh.1, Kd.R_nil _ _ _ _ _, hh.2⟩
    · rw [if_neg h2] at h
      split at h
      · rename_i hb
        cases h
        refine (match_calls A0 c0 l0 A1 c1 l1 a2 w hr0 hc0 hr1 hc1 (by omega) (by omega) (by omega) (by omega) (fun x hx => of_decide_eq_true (List.all_eq_true.1 hb.1 x hx)) (fun x hx => of_decide_eq_true (List.all_eq_true.1 hb.2 x hx))).mono fun e w' hh => ?_
        obtain ⟨v0, l, he, hB, hR, hb2⟩ := hh
        rw [hB.unique (best_best _)] at hR
        exact ⟨v0, he, hR, hb2⟩
      · cases h
end Go.Proofs.Ytcjgmofgfblmnaa.MatY
