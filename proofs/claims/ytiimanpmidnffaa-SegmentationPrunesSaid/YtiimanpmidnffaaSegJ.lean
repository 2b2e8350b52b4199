/- What the references of segmentation compute, part J: the cuts of a number, and the best by trying every number. -/
import Derived.Test.YtiimanpmidnffaaKnown
import Derived.Test.YtiimanpmidnffaaQy2
namespace Go.Proofs.Ytiimanpmidnffaa.Seg
open Go.RowKit Go.Proofs.YtiimanpmidnffaaW.PrintWords Go.Proofs.YtiimanpmidnffaaW.PrintLast Go.Proofs.YtiimanpmidnffaaW.PrintMore Go.Proofs.Ytiimanpmidnffaa.Q
set_option linter.unusedVariables false
set_option linter.unusedSimpArgs false
/-- The cuts that the bits of x name. -/
def cutsN (x n : Nat) : List Int := ((List.range (n - 1)).filter fun i => x.testBit i).map fun (i : Nat) => ((i + 1 : Nat) : Int)
theorem cutErr_of (n : Nat) : ∀ (cs : List Int) (a : Int), (∀ c ∈ cs, a < c ∧ 1 ≤ c ∧ c < (n : Int)) → cs.Pairwise (· < ·) → cutErr n a cs = 0 := by
  intro cs
  induction cs with
  | nil => intro a _ _; rfl
  | cons c cs ih =>
    intro a h hp
    have h1 := h c (by simp)
    rw [List.pairwise_cons] at hp
    simp only [cutErr]
    rw [if_neg (by omega), if_neg (by omega)]
    exact ih c (fun d hd => ⟨hp.1 d hd, (h d (by simp [hd])).2⟩) hp.2
theorem cutsN_ok (x n : Nat) : cutErr n 0 (cutsN x n) = 0 := by
  refine cutErr_of n _ 0 ?_ ?_
  · intro c hc
    obtain ⟨i, hi, rfl⟩ := List.mem_map.1 hc
    have := List.mem_range.1 (List.mem_filter.1 hi).1
    omega
  · unfold cutsN
    rw [List.pairwise_map]
    refine List.Pairwise.imp ?_ ((List.pairwise_lt_range).filter _)
    intro a b h
    omega
theorem cutsN_len (x n : Nat) : (cutsN x n).length ≤ n - 1 := by
  unfold cutsN
  rw [List.length_map]
  have := List.length_filter_le (fun i => x.testBit i) (List.range (n - 1))
  rw [List.length_range] at this
  exact this
theorem range_split (s t : Nat) (h1 : 1 ≤ s) (h : s < t) : List.range (t - 1) = List.range (s - 1) ++ (s - 1) :: ((List.range (t - 1 - s)).map (s + ·)) := by
  have e : t - 1 = s + (t - 1 - s) := by omega
  rw [e, List.range_add]
  have e2 : s = s - 1 + 1 := by omega
  rw [show List.range s = List.range (s - 1) ++ [s - 1] by rw [← List.range_succ, Nat.succ_eq_add_one, ← e2]]
  rw [List.append_assoc]
  simp
theorem cutsN_more (x s t : Nat) (h1 : 1 ≤ s) (h : s < t) (hx : x < 2 ^ (s - 1)) : cutsN (x + 2 ^ (s - 1)) t = cutsN x s ++ [(s : Int)] := by
  unfold cutsN
  rw [range_split s t h1 h, List.filter_append, List.map_append]
  have ef : (List.range (s - 1)).filter (fun i => (x + 2 ^ (s - 1)).testBit i) = (List.range (s - 1)).filter (fun i => x.testBit i) := by
    apply List.filter_congr
    intro i hi
    have := List.mem_range.1 hi
    rw [Nat.add_comm, Nat.testBit_two_pow_add_gt this]
  rw [ef]
  congr 1
  have hb : (x + 2 ^ (s - 1)).testBit (s - 1) = true := by
    rw [Nat.add_comm, Nat.testBit_two_pow_add_eq, Nat.testBit_lt_two_pow hx]; rfl
  rw [List.filter_cons_of_pos (by simpa using hb)]
  have hn : ((List.range (t - 1 - s)).map (s + ·)).filter (fun i => (x + 2 ^ (s - 1)).testBit i) = [] := by
    rw [List.filter_eq_nil_iff]
    intro i hi
    obtain ⟨j, hj, rfl⟩ := List.mem_map.1 hi
    have hlt : x + 2 ^ (s - 1) < 2 ^ (s + j) := by
      have : 2 ^ s ≤ 2 ^ (s + j) := Nat.pow_le_pow_right (by omega) (by omega)
      have e : 2 ^ s = 2 ^ (s - 1) + 2 ^ (s - 1) := by
        have : s = s - 1 + 1 := by omega
        rw [this, Nat.pow_succ]; simp; omega
      omega
    rw [Nat.testBit_lt_two_pow hlt]
    decide
  rw [hn]
  simp only [List.map_cons, List.map_nil]
  congr 2
  omega
theorem cutsN_zero (n : Nat) : cutsN 0 n = [] := by
  unfold cutsN
  rw [List.map_eq_nil_iff, List.filter_eq_nil_iff]
  intro i _
  simp
theorem Cut.bits {pts : List Int} {p : Int} {t : Nat} {c : List Int} {n : Int} (h : Cut pts p t c n) : ∃ x, x < 2 ^ (t - 1) ∧ cutsN x t = c := by
  induction h with
  | whole t h1 => exact ⟨0, Nat.pos_of_ne_zero (by simp), cutsN_zero t⟩
  | more s t c n h1 h2 ih =>
    obtain ⟨x, hx, e⟩ := ih
    have hs := h2.pos
    refine ⟨x + 2 ^ (s - 1), ?_, by rw [cutsN_more x s t hs h1 hx, e]⟩
    have e2 : 2 ^ s = 2 ^ (s - 1) + 2 ^ (s - 1) := by
      have : s = s - 1 + 1 := by omega
      rw [this, Nat.pow_succ]; simp; omega
    have : 2 ^ s ≤ 2 ^ (t - 1) := Nat.pow_le_pow_right (by omega) (by omega)
    omega
theorem bit_eq (x i : Nat) (hi : i ≤ 62) : (Int.tmod (shr .i64 (x : Int) (i : Int)) 2 = 1) = (x.testBit i = true) := by
  have e : shr .i64 (x : Int) (i : Int) = ((x / 2 ^ i : Nat) : Int) := by
    unfold shr
    rw [Int.toNat_natCast, Nat.min_eq_left (by simp [IntKind.bits]; omega)]
    rw [Int.natCast_ediv, Int.natCast_pow]
    rfl
  rw [e, Nat.testBit_eq_decide_div_mod_eq, Int.tmod_eq_emod_of_nonneg (Int.natCast_nonneg _), decide_eq_true_eq]
  apply propext
  omega
theorem cutsOf_loop (x n : Nat) (hn : n ≤ 60) : ∀ (d i : Nat) (out : List Int), n - 1 - i = d → i ≤ n - 1 → out = ((List.range i).filter fun j => x.testBit j).map (fun (j : Nat) => ((j + 1 : Nat) : Int)) →
    Ev (fun k => sleuthlaw44_cutsOf.l0 k (x : Int) (n : Int) out ((i + 1 : Nat) : Int)) (cutsN x n) := by
  intro d
  induction d with
  | zero =>
    intro i out hd hi ho
    have e : i = n - 1 := by omega
    subst e
    refine Ev.step (f := fun _ => some (cutsN x n)) (fun k => ?_) (Ev.now _)
    simp only [sleuthlaw44_cutsOf.l0]
    rw [if_neg (by omega), ho]
    rfl
  | succ d ih =>
    intro i out hd hi ho
    have hlen : out.length ≤ i := by
      rw [ho, List.length_map]
      have := List.length_filter_le (fun j => x.testBit j) (List.range i)
      rw [List.length_range] at this
      exact this
    have ew : wrap64 (((i + 1 : Nat) : Int) - 1) = (i : Int) := by rw [w64 (by omega) (by omega)]; omega
    have ew2 : wrap64 (((i + 1 : Nat) : Int) + 1) = ((i + 1 + 1 : Nat) : Int) := by rw [w64 (by omega) (by omega)]; omega
    by_cases hb : x.testBit i = true
    · have n1 := ih (i + 1) (out ++ [((i + 1 : Nat) : Int)]) (by omega) (by omega) (by rw [ho, List.range_succ, List.filter_append, List.map_append]; simp [hb])
      refine Ev.step (fun k => ?_) n1
      simp only [sleuthlaw44_cutsOf.l0]
      rw [if_pos (by omega), ew, if_pos (by omega), if_pos ((bit_eq x i (by omega)).mpr hb), if_pos (by omega), ew2]
    · have n1 := ih (i + 1) out (by omega) (by omega) (by rw [ho, List.range_succ, List.filter_append, List.map_append]; simp [hb])
      refine Ev.step (fun k => ?_) n1
      simp only [sleuthlaw44_cutsOf.l0]
      rw [if_pos (by omega), ew, if_pos (by omega), if_neg (fun h => hb ((bit_eq x i (by omega)).mp h)), ew2]
theorem cutsOf_ev (x n : Nat) (hn : n ≤ 60) : Ev (fun k => sleuthlaw44_cutsOf.f k (x : Int) (n : Int)) (cutsN x n) := cutsOf_loop x n hn _ 0 [] rfl (Nat.zero_le _) rfl
/-- The asked number of cuts, if one is asked. -/
def Pass (q : Int) (c : List Int) : Prop := 0 ≤ q → (c.length : Int) = q
instance (q : Int) (c : List Int) : Decidable (Pass q c) := by unfold Pass; infer_instance
def Least2 (l : List Int) (p q : Int) (x : Nat) (found : Bool) (c : List Int) (m : Int) : Prop :=
  (found = false ∧ c = [] ∧ m = 0 ∧ ∀ y, y < x → ¬ Pass q (cutsN y l.length)) ∨
  (found = true ∧ Pass q c ∧ Cut l p l.length c m ∧ ∀ y, y < x → Pass q (cutsN y l.length) → ¬ kl (tot l p (cutsN y l.length)) (cutsN y l.length) m c)
def Answer (l : List Int) (p q : Int) (r : List Int × Int) : Prop :=
  (r.1 = [] ∧ r.2 = 0 ∧ ∀ c n, Cut l p l.length c n → ¬ Pass q c) ∨
  (Pass q r.1 ∧ Cut l p l.length r.1 r.2 ∧ ∀ c n, Cut l p l.length c n → Pass q c → ¬ kl n c r.2 r.1)
theorem shl_one (e : Nat) (h : e ≤ 59) : shl .i64 1 (e : Int) = ((2 ^ e : Nat) : Int) := by
  have h2 : 2 ^ e ≤ 2 ^ 59 := Nat.pow_le_pow_right (by omega) h
  have e3 : (2 : Int) ^ e = ((2 ^ e : Nat) : Int) := by rw [Int.natCast_pow]; rfl
  unfold shl
  rw [Int.toNat_natCast, Nat.min_eq_left (by simp [IntKind.bits]; omega), Int.one_mul, e3]
  generalize 2 ^ e = y at h2 ⊢
  rw [i64_w, w64 (by omega) (by omega)]
theorem rbest_loop (l : List Int) (p q : Int) (h : chk l p = 0) (hn : l.length ≤ 60) (M : Nat) (hM : M = 2 ^ (l.length - 1)) (h2 : M ≤ 576460752303423488) (ew : wrap64 ((l.length : Int) - 1) = ((l.length - 1 : Nat) : Int)) (es : shl .i64 1 ((l.length - 1 : Nat) : Int) = (M : Int)) : ∀ (d x : Nat) (found : Bool) (c : List Int) (m : Int), M - x = d → x ≤ M → Least2 l p q x found c m →
    ∃ r, Answer l p q r ∧ Ev (fun k => sleuthlaw44_best.l0 k l p q found (x : Int) c m) r := by
  obtain ⟨hP, hl, h0, h1⟩ := chk_ok h
  have hpos := List.length_pos_iff.2 hl
  have hlp : (0 : Int) ≤ ((l.length - 1 : Nat) : Int) := Int.natCast_nonneg _
  intro d
  induction d with
  | zero =>
    intro x found c m hd hx hI
    have ex : x = M := by omega
    have hnx : ¬ ((x : Int) < (M : Int)) := by omega
    have hlt : ∀ y, y < 2 ^ (l.length - 1) → y < x := fun y hy => by rw [ex, hM]; exact hy
    refine ⟨(c, m), ?_, Ev.step (f := fun _ => some (c, m)) (fun k => ?_) (Ev.now _)⟩
    · rcases hI with ⟨_, e1, e2, h3⟩ | ⟨_, e1, e2, h3⟩
      · refine .inl ⟨e1, e2, fun c' n' hc => ?_⟩
        obtain ⟨y, hy, rfl⟩ := hc.bits
        exact h3 y (hlt y hy)
      · refine .inr ⟨e1, e2, fun c' n' hc hp => ?_⟩
        obtain ⟨y, hy, rfl⟩ := hc.bits
        rw [hc.total]
        exact h3 y (hlt y hy) hp
    · simp only [sleuthlaw44_best.l0]
      rw [ew, es, if_pos hlp, if_neg hnx]
  | succ d ih =>
    intro x found c m hd hx hI
    have hxl : x < M := by omega
    have hd1 : M - (x + 1) = d := by omega
    have hx1 : x + 1 ≤ M := by omega
    have ex : wrap64 ((x : Int) + 1) = ((x + 1 : Nat) : Int) := by rw [w64 (by omega) (by omega)]; omega
    have eC := cutsOf_ev x l.length hn
    have hxi : (x : Int) < (M : Int) := Int.ofNat_lt.2 hxl
    have hyx : ∀ y, y < x + 1 → x ≤ y → y = x := fun y a b => Nat.le_antisymm (Nat.le_of_lt_succ a) b
    have hok := cutsN_ok x l.length
    have hlen := cutsN_len x l.length
    have hcut := Cut.mk (p := p) hl hok
    generalize hcc : cutsN x l.length = cc at *
    have hcl : cc.length ≤ 1099511627776 := Nat.le_trans hlen (Nat.le_trans (Nat.sub_le _ _) (Nat.le_trans hn (by decide)))
    have eT := rtotal_ev l p cc h hcl
    rw [if_pos hok] at eT
    -- one round
    have key : ∀ (b : Bool) r, Ev (fun k => sleuthlaw44_best.j1 k l p q found (x : Int) cc b c m) r → (Pass q cc → b = false) → (¬ Pass q cc → b = true) → Ev (fun k => sleuthlaw44_best.l0 k l p q found (x : Int) c m) r := by
      intro b r hr hb1 hb2
      have hbind := Ev.bind (f := fun (k : Nat) (t354 : List Int) => if q ≥ 0 then (sleuthlaw44_best.j1 k l p q found (x : Int) t354 ((t354.length : Int) != q) c m) else (sleuthlaw44_best.j1 k l p q found (x : Int) t354 false c m)) eC (Ev.congr (fun k => ?_) hr)
      · refine Ev.step (fun k => ?_) hbind
        simp only [sleuthlaw44_best.l0]
        rw [ew, es, if_pos hlp, if_pos hxi]
      · by_cases hq : 0 ≤ q
        · have : ((cc.length : Int) != q) = b := by
            by_cases e : (cc.length : Int) = q
            · rw [hb1 (fun _ => e), e]; simp
            · rw [hb2 (fun hh => e (hh hq))]; simp [e]
          rw [if_pos hq, this]
        · rw [if_neg hq, hb1 (fun h => absurd h hq)]
    by_cases hp : Pass q cc
    · have hbt : ¬ Pass q cc → (false : Bool) = true := fun hh => absurd hp hh
      -- the new is taken
      have take : (∀ r, Ev (fun k => sleuthlaw44_best.l0 k l p q true (((x + 1 : Nat) : Int)) cc (tot l p cc)) r → Ev (fun k => sleuthlaw44_best.j1 k l p q found (x : Int) cc false c m) r) → (∀ y, y < x → Pass q (cutsN y l.length) → ¬ kl (tot l p (cutsN y l.length)) (cutsN y l.length) (tot l p cc) cc) →
          ∃ r, Answer l p q r ∧ Ev (fun k => sleuthlaw44_best.l0 k l p q found (x : Int) c m) r := by
        intro go hmin
        obtain ⟨r, hA, hr⟩ := ih (x + 1) true cc (tot l p cc) hd1 hx1 (.inr ⟨rfl, hp, hcut, fun y hy hpy => by
          rcases Nat.lt_or_ge y x with hlt | hge
          · exact hmin y hlt hpy
          · obtain rfl : y = x := hyx y hy hge
            rw [hcc]; exact kl_irr _ _⟩)
        exact ⟨r, hA, key false r (go r hr) (fun _ => rfl) hbt⟩
      rcases hI with ⟨rfl, rfl, rfl, h3⟩ | ⟨rfl, e1, e2, h3⟩
      · refine take (fun r hr => ?_) (fun y hy hpy => absurd hpy (h3 y hy))
        refine Ev.step (fun k => ?_) (Ev.bind (f := fun (k : Nat) (bt357 : Int × Int) => sleuthlaw44_best.l0 k l p q true (((x + 1 : Nat) : Int)) cc bt357.1) eT hr)
        simp only [sleuthlaw44_best.j1]
        rw [if_neg (by decide), ex]
        rfl
      · -- what the round does
        have round : ∀ r (R : Bool), (R = true ↔ kl (tot l p cc) cc m c) → (Ev (fun k => if R = true then sleuthlaw44_best.l0 k l p q true (((x + 1 : Nat) : Int)) cc (tot l p cc) else sleuthlaw44_best.l0 k l p q true (((x + 1 : Nat) : Int)) c m) r) → Ev (fun k => sleuthlaw44_best.j1 k l p q true (x : Int) cc false c m) r := by
          intro r R hR hr
          have goal1 : Ev (fun (k : Nat) => if (tot l p cc) < m then (sleuthlaw44_best.l0 k l p q true (wrap64 ((x : Int) + 1)) cc (tot l p cc)) else (if (tot l p cc) = m then (if (cc.length : Int) < (c.length : Int) then (sleuthlaw44_best.l0 k l p q true (wrap64 ((x : Int) + 1)) cc (tot l p cc)) else (if (cc.length : Int) = (c.length : Int) then ((sleuthlaw44_less.f k cc c).bind fun t359 => (if t359 = true then (sleuthlaw44_best.l0 k l p q true (wrap64 ((x : Int) + 1)) cc (tot l p cc)) else (sleuthlaw44_best.l0 k l p q true (wrap64 ((x : Int) + 1)) c m))) else (sleuthlaw44_best.l0 k l p q true (wrap64 ((x : Int) + 1)) c m))) else (sleuthlaw44_best.l0 k l p q true (wrap64 ((x : Int) + 1)) c m))) r := by
            rw [ex]
            have hyes : kl (tot l p cc) cc m c → R = true := hR.2
            have hno : ¬ kl (tot l p cc) cc m c → R = false := fun hh => by cases R with
              | false => rfl
              | true => exact absurd (hR.1 rfl) hh
            by_cases c1 : tot l p cc < m
            · refine Ev.congr (fun k => ?_) hr
              rw [if_pos c1, hyes (.inl c1), if_pos rfl]
            · by_cases c2 : tot l p cc = m
              · by_cases c3 : (cc.length : Int) < (c.length : Int)
                · refine Ev.congr (fun k => ?_) hr
                  rw [if_neg c1, if_pos c2, if_pos c3, hyes (.inr ⟨c2, .inl (Int.ofNat_lt.1 c3)⟩), if_pos rfl]
                · by_cases c4 : (cc.length : Int) = (c.length : Int)
                  · refine Ev.congr (fun k => ?_) (Ev.bind (f := fun (k : Nat) (t359 : Bool) => (if t359 = true then (sleuthlaw44_best.l0 k l p q true (((x + 1 : Nat) : Int)) cc (tot l p cc)) else (sleuthlaw44_best.l0 k l p q true (((x + 1 : Nat) : Int)) c m))) (less_ev cc c hcl) (Ev.congr (fun k => ?_) hr))
                    · rw [if_neg c1, if_pos c2, if_neg c3, if_pos c4]
                    · by_cases c5 : lex cc c = true
                      · rw [hyes (.inr ⟨c2, .inr ⟨Int.ofNat_inj.1 c4, c5⟩⟩), c5]
                      · have : ¬ kl (tot l p cc) cc m c := by
                          rintro (a | ⟨_, a | ⟨_, a⟩⟩)
                          · exact c1 a
                          · exact c3 (Int.ofNat_lt.2 a)
                          · exact c5 a
                        rw [hno this, if_neg c5]; rfl
                  · have : ¬ kl (tot l p cc) cc m c := by
                      rintro (a | ⟨_, a | ⟨a, _⟩⟩)
                      · exact c1 a
                      · exact c3 (Int.ofNat_lt.2 a)
                      · exact c4 (by rw [a])
                    refine Ev.congr (fun k => ?_) hr
                    rw [if_neg c1, if_pos c2, if_neg c3, if_neg c4, hno this]; rfl
              · have : ¬ kl (tot l p cc) cc m c := by
                  rintro (a | ⟨a, _⟩)
                  · exact c1 a
                  · exact c2 a
                refine Ev.congr (fun k => ?_) hr
                rw [if_neg c1, if_neg c2, hno this]; rfl
          refine Ev.step (fun k => ?_) (Ev.bind (f := fun (k : Nat) (bt357 : Int × Int) => if bt357.1 < m then (sleuthlaw44_best.l0 k l p q true (wrap64 ((x : Int) + 1)) cc bt357.1) else (if bt357.1 = m then (if (cc.length : Int) < (c.length : Int) then (sleuthlaw44_best.l0 k l p q true (wrap64 ((x : Int) + 1)) cc bt357.1) else (if (cc.length : Int) = (c.length : Int) then ((sleuthlaw44_less.f k cc c).bind fun t359 => (if t359 = true then (sleuthlaw44_best.l0 k l p q true (wrap64 ((x : Int) + 1)) cc bt357.1) else (sleuthlaw44_best.l0 k l p q true (wrap64 ((x : Int) + 1)) c m))) else (sleuthlaw44_best.l0 k l p q true (wrap64 ((x : Int) + 1)) c m))) else (sleuthlaw44_best.l0 k l p q true (wrap64 ((x : Int) + 1)) c m))) eT goal1)
          simp only [sleuthlaw44_best.j1]
          rw [if_neg (by decide)]
          rfl
        by_cases hk : kl (tot l p cc) cc m c
        · refine take (fun r hr => round r true ⟨fun _ => hk, fun _ => rfl⟩ (Ev.congr (fun k => if_pos rfl) hr)) (fun y hy hpy hh => ?_)
          exact h3 y hy hpy (kl_trans hh hk)
        · obtain ⟨r, hA, hr⟩ := ih (x + 1) true c m hd1 hx1 (.inr ⟨rfl, e1, e2, fun y hy hpy => by
            rcases Nat.lt_or_ge y x with hlt | hge
            · exact h3 y hlt hpy
            · obtain rfl : y = x := hyx y hy hge
              rw [hcc]; exact hk⟩)
          exact ⟨r, hA, key false r (round r false ⟨fun hh => absurd hh (by decide), fun hh => absurd hh hk⟩ (Ev.congr (fun k => if_neg (by decide)) hr)) (fun _ => rfl) hbt⟩
    · obtain ⟨r, hA, hr⟩ := ih (x + 1) found c m hd1 hx1 (by
        have hlast : ∀ y, y < x + 1 → Pass q (cutsN y l.length) → y < x := by
          intro y hy hpy
          rcases Nat.lt_or_ge y x with hlt | hge
          · exact hlt
          · obtain rfl : y = x := hyx y hy hge
            rw [hcc] at hpy; exact absurd hpy hp
        rcases hI with ⟨e0, e1, e2, h3⟩ | ⟨e0, e1, e2, h3⟩
        · exact .inl ⟨e0, e1, e2, fun y hy hpy => h3 y (hlast y hy hpy) hpy⟩
        · exact .inr ⟨e0, e1, e2, fun y hy hpy => h3 y (hlast y hy hpy) hpy⟩)
      refine ⟨r, hA, key true r (Ev.step (fun k => ?_) hr) (fun hh => absurd hh hp) (fun _ => rfl)⟩
      simp only [sleuthlaw44_best.j1]
      rw [if_pos trivial, ex]
theorem rbest_ev (l : List Int) (p q : Int) (h : chk l p = 0) (hn : l.length ≤ 60) : ∃ r, Answer l p q r ∧ Ev (fun k => sleuthlaw44_best.f k l p q) r := by
  have hpos := List.length_pos_iff.2 (chk_ok h).2.1
  have h2 : 2 ^ (l.length - 1) ≤ 2 ^ 59 := Nat.pow_le_pow_right (by omega) (by omega)
  have ew : wrap64 ((l.length : Int) - 1) = ((l.length - 1 : Nat) : Int) := by rw [w64 (by omega) (by omega)]; omega
  exact rbest_loop l p q h hn _ rfl h2 ew (shl_one _ (by omega)) _ 0 false [] 0 rfl (Nat.zero_le _) (.inl ⟨rfl, rfl, rfl, fun y hy => absurd hy (Nat.not_lt_zero y)⟩)
theorem rbest_all (l : List Int) (p : Int) (h : chk l p = 0) (hn : l.length ≤ 60) {n : Int} {c : List Int} (hb : Best l p l.length n c) : Ev (fun k => sleuthlaw44_best.f k l p (-1)) (c, n) := by
  obtain ⟨⟨c', n'⟩, hA, hr⟩ := rbest_ev l p (-1) h hn
  have hp : ∀ d : List Int, Pass (-1) d := fun d h => by omega
  rcases hA with ⟨_, _, h3⟩ | ⟨_, h2, h3⟩
  · exact absurd (hp _) (h3 _ _ hb.cut)
  · obtain ⟨rfl, rfl⟩ := hb.uniq ⟨h2, fun c1 n1 hc => h3 c1 n1 hc (hp _)⟩
    exact hr
theorem u8_bd {x : Int} (h : (Lit.int .u8 x).wf = true) : 0 ≤ x ∧ x ≤ 255 := by
  simp only [Lit.wf, IntKind.min, IntKind.max, IntKind.signed, IntKind.bits, Bool.and_eq_true, decide_eq_true_eq] at h
  simpa using h
theorem pen_eq {a : Int} (h : 0 ≤ a ∧ a ≤ 255) : wrap64 (Int.tmod a 64) = a % 64 := by
  rw [Int.tmod_eq_emod_of_nonneg h.1, w64 (by omega) (by omega)]
theorem chk_pnts (l : List Int) {p : Int} (h0 : 0 ≤ p) (h1 : p ≤ 1099511627776) : chk (pnts l) p = 0 := chk_mk (pnts_Pts l) (pnts_ok l).1 h0 h1
theorem same_true (a : List Int) (h : a.length ≤ 1099511627776) : Ev (fun k => sleuthlaw44_same.f k a a) true := by
  have := same_ev a a h
  rw [decide_eq_true rfl] at this
  exact this
end Go.Proofs.Ytiimanpmidnffaa.Seg
