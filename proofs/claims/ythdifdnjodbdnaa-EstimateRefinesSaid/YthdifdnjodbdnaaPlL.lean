/- The plain law of EstimateRefines: the totals of a service are those of its versions, and of its operations. -/
import Derived.Test.YthdifdnjodbdnaaPlK
import Derived.Test.YthdifdnjodbdnaaQgSleuthlaw25EstimateRefines
namespace Go.Proofs.Ythdifdnjodbdnaa.Pl
open Go.RowKit Go.Proofs.YthdifdnjodbdnaaW.PrintWords Go.Proofs.YthdifdnjodbdnaaW.PrintLast Go.Proofs.YthdifdnjodbdnaaW.PrintMore Go.Proofs.Ythdifdnjodbdnaa.Q Go.Proofs.Ythdifdnjodbdnaa.RowS
open Srt (Asc cL cG)
set_option linter.unusedVariables false
set_option linter.unusedSimpArgs false
set_option linter.unusedSimpArgs false
/-- The sum of a number over the lines of a service. -/
def sv (g : S41 → Int) (svc : ByteArray) (Y : List S41) : Int := (Y.map fun y => if y.f0.f0 = svc then g y else 0).sum
theorem sv_cons (g : S41 → Int) (svc : ByteArray) (y : S41) (Y : List S41) : sv g svc (y :: Y) = (if y.f0.f0 = svc then g y else 0) + sv g svc Y := by
  unfold sv
  rw [List.map_cons, List.sum_cons]
theorem sv_snoc (g : S41 → Int) (svc : ByteArray) (y : S41) (Y : List S41) : sv g svc (Y ++ [y]) = sv g svc Y + (if y.f0.f0 = svc then g y else 0) := by
  unfold sv
  rw [List.map_append, List.sum_append]
  simp
theorem sv_le (g h : S41 → Int) (svc : ByteArray) (Y : List S41) (hl : ∀ y ∈ Y, y.f0.f0 = svc → g y ≤ h y) : sv g svc Y ≤ sv h svc Y := by
  induction Y with
  | nil => exact Int.le_refl _
  | cons y Y ih =>
    rw [sv_cons, sv_cons]
    have h1 := ih (fun z hz => hl z (List.mem_cons_of_mem _ hz))
    split
    · have := hl y List.mem_cons_self (by assumption); omega
    · omega
theorem sv_congr (g h : S41 → Int) (svc : ByteArray) (Y : List S41) (hl : ∀ y ∈ Y, y.f0.f0 = svc → g y = h y) : sv g svc Y = sv h svc Y := by
  induction Y with
  | nil => rfl
  | cons y Y ih =>
    rw [sv_cons, sv_cons, ih (fun z hz => hl z (List.mem_cons_of_mem _ hz))]
    split
    · rw [hl y List.mem_cons_self (by assumption)]
    · rfl
theorem sv_add (g h : S41 → Int) (svc : ByteArray) (Y : List S41) : sv (fun y => g y + h y) svc Y = sv g svc Y + sv h svc Y := by
  induction Y with
  | nil => rfl
  | cons y Y ih =>
    rw [sv_cons, sv_cons, sv_cons, ih]
    split <;> omega
theorem sv_zero (svc : ByteArray) (Y : List S41) : sv (fun _ => 0) svc Y = 0 := by
  induction Y with
  | nil => rfl
  | cons y Y ih => rw [sv_cons, ih]; split <;> rfl
theorem sv_b (g : S41 → Int) (m : Int) (svc : ByteArray) (Y : List S41) (hm : 0 ≤ m) (h : ∀ y ∈ Y, 0 ≤ g y ∧ g y ≤ m) : 0 ≤ sv g svc Y ∧ sv g svc Y ≤ m * Y.length := by
  induction Y with
  | nil => exact ⟨Int.le_refl _, by show (0 : Int) ≤ m * 0; omega⟩
  | cons y Y ih =>
    have h1 := ih (fun z hz => h z (List.mem_cons_of_mem _ hz))
    have h2 := h y List.mem_cons_self
    rw [sv_cons, List.length_cons, show m * ((Y.length + 1 : Nat) : Int) = m * (Y.length : Int) + m by rw [Int.natCast_add, Int.mul_add]; simp]
    split <;> omega
/-- One line alone has the key. -/
theorem sv_pick (k : S39) (c : Int) (svc : ByteArray) (Y : List S41) (hn : (Y.map (·.f0)).Nodup) (hm : ∃ y ∈ Y, y.f0 = k) : sv (fun y => if k = y.f0 then c else 0) svc Y = if k.f0 = svc then c else 0 := by
  induction Y with
  | nil => obtain ⟨y, hy, _⟩ := hm; cases hy
  | cons y Y ih =>
    rw [List.map_cons, List.nodup_cons] at hn
    rw [sv_cons]
    by_cases e : k = y.f0
    · have hz : sv (fun y => if k = y.f0 then c else 0) svc Y = sv (fun _ => 0) svc Y := sv_congr _ _ _ _ (fun z hz _ => if_neg (fun e2 => hn.1 (List.mem_map.2 ⟨z, hz, by rw [← e2, e]⟩)))
      rw [hz, sv_zero, if_pos e, e]
      split <;> omega
    · rw [if_neg e, ih hn.2]
      · split <;> split <;> omega
      · obtain ⟨z, hz, rfl⟩ := hm
        rcases List.mem_cons.1 hz with rfl | hz
        · exact absurd rfl e
        · exact ⟨z, hz, rfl⟩
def k1 (svc : ByteArray) : S39 := ⟨svc, ⟨#[]⟩, ⟨#[]⟩⟩
theorem key_one (s : S58) : key 1 s = k1 s.f6 := by
  unfold key k1
  rw [if_neg (by decide), if_neg (by decide)]
theorem key_svc (lv : Int) (s : S58) : (key lv s).f0 = s.f6 := rfl
theorem k1_iff (svc : ByteArray) (s : S58) : key 1 s = k1 svc ↔ s.f6 = svc := by
  rw [key_one]
  exact ⟨fun h => congrArg S39.f0 h, fun h => by rw [h]⟩
/-- The sums over the lines of a service are those of the service. -/
theorem sum_svc (lv : Int) (f : Int × S58 → Int) (svc : ByteArray) (Y : List S41) (hn : (Y.map (·.f0)).Nodup) (L : List (Int × S58)) (hm : ∀ x ∈ L, ∃ y ∈ Y, y.f0 = key lv x.2) : sv (fun y => sumOf lv f y.f0 L) svc Y = sumOf 1 f (k1 svc) L := by
  induction L with
  | nil => exact sv_zero svc Y
  | cons x L ih =>
    rw [sv_congr (fun y => sumOf lv f y.f0 (x :: L)) (fun y => (if key lv x.2 = y.f0 then f x else 0) + sumOf lv f y.f0 L) svc Y (fun y _ _ => sum_cons' lv f y.f0 L x), sv_add, ih (fun z hz => hm z (List.mem_cons_of_mem _ hz)), sv_pick _ _ _ _ hn (hm x List.mem_cons_self), sum_cons' 1]
    congr 1
    by_cases e : x.2.f6 = svc
    · rw [if_pos (by rw [key_svc]; exact e), if_pos ((k1_iff svc _).2 e)]
    · rw [if_neg (by rw [key_svc]; exact e), if_neg (fun h => e ((k1_iff svc _).1 h))]
theorem anyK_iff (lv : Int) (k : S39) (p : List S58) : anyK lv k p = true ↔ ∃ s ∈ p, key lv s = k := by
  unfold anyK
  rw [List.any_eq_true]
  exact ⟨fun ⟨s, h1, h2⟩ => ⟨s, h1, of_decide_eq_true h2⟩, fun ⟨s, h1, h2⟩ => ⟨s, h1, decide_eq_true h2⟩⟩
theorem trS_cons (lv : Int) (k : S39) (t : S53) (ts : List S53) : trS lv k (t :: ts) = (if anyK lv k t.f2 = true then t.f1 else 0) + trS lv k ts := by
  unfold trS
  rw [List.map_cons, List.sum_cons]
/-- A line of a service has no more traces than the service. -/
theorem tr_le (lv : Int) (k : S39) (ts : List S53) (hw : ∀ t ∈ ts, 0 ≤ t.f1) : trS lv k ts ≤ trS 1 (k1 k.f0) ts := by
  induction ts with
  | nil => exact Int.le_refl _
  | cons t ts ih =>
    have h1 := ih (fun z hz => hw z (List.mem_cons_of_mem _ hz))
    have h2 := hw t List.mem_cons_self
    rw [trS_cons, trS_cons]
    by_cases c : anyK lv k t.f2 = true
    · obtain ⟨s, hs, rfl⟩ := (anyK_iff _ _ _).1 c
      rw [if_pos c, if_pos ((anyK_iff 1 (k1 (key lv s).f0) t.f2).2 ⟨s, hs, (k1_iff _ s).2 rfl⟩)]
      omega
    · rw [if_neg c]
      split <;> omega
theorem sv_one_le (g : S41 → Int) (svc : ByteArray) (Y : List S41) (hg : ∀ y ∈ Y, 0 ≤ g y) {y : S41} (hy : y ∈ Y) (e : y.f0.f0 = svc) : g y ≤ sv g svc Y := by
  induction Y with
  | nil => cases hy
  | cons z Y ih =>
    have hb : 0 ≤ sv g svc Y := by
      have := sv_le (fun _ => 0) g svc Y (fun y hy _ => hg y (List.mem_cons_of_mem _ hy))
      rw [sv_zero] at this
      exact this
    rw [sv_cons]
    rcases List.mem_cons.1 hy with rfl | hy
    · rw [if_pos e]; omega
    · have h1 := ih (fun z hz => hg z (List.mem_cons_of_mem _ hz)) hy
      have h2 := hg z List.mem_cons_self
      split <;> omega
theorem tr_ge (lv : Int) (svc : ByteArray) (Y : List S41) (ts : List S53) (hw : ∀ t ∈ ts, 0 ≤ t.f1) (hm : ∀ t ∈ ts, ∀ s ∈ t.f2, ∃ y ∈ Y, y.f0 = key lv s) : trS 1 (k1 svc) ts ≤ sv (fun y => trS lv y.f0 ts) svc Y := by
  induction ts with
  | nil => exact Int.le_of_eq (sv_zero svc Y).symm
  | cons t ts ih =>
    have h1 := ih (fun z hz => hw z (List.mem_cons_of_mem _ hz)) (fun z hz => hm z (List.mem_cons_of_mem _ hz))
    have h2 := hw t List.mem_cons_self
    rw [sv_congr (fun y => trS lv y.f0 (t :: ts)) (fun y => (if anyK lv y.f0 t.f2 = true then t.f1 else 0) + trS lv y.f0 ts) svc Y (fun y _ _ => trS_cons lv y.f0 t ts), sv_add, trS_cons]
    have h3 : (if anyK 1 (k1 svc) t.f2 = true then t.f1 else 0) ≤ sv (fun y => if anyK lv y.f0 t.f2 = true then t.f1 else 0) svc Y := by
      have hg : ∀ y ∈ Y, 0 ≤ (fun y : S41 => if anyK lv y.f0 t.f2 = true then t.f1 else 0) y := fun y _ => by
        show 0 ≤ (if anyK lv y.f0 t.f2 = true then t.f1 else 0)
        split <;> omega
      by_cases c : anyK 1 (k1 svc) t.f2 = true
      · obtain ⟨s, hs, e⟩ := (anyK_iff _ _ _).1 c
        obtain ⟨y, hy, e2⟩ := hm t List.mem_cons_self s hs
        have := sv_one_le _ svc Y hg hy (by rw [e2, key_svc]; exact (k1_iff _ _).1 e)
        have e3 : (if anyK lv y.f0 t.f2 = true then t.f1 else 0) = t.f1 := if_pos ((anyK_iff _ _ _).2 ⟨s, hs, e2.symm⟩)
        simp only [e3] at this
        rw [if_pos c]
        exact this
      · rw [if_neg c]
        have := sv_le (fun _ => 0) _ svc Y (fun y hy _ => hg y hy)
        rw [sv_zero] at this
        exact this
    omega
theorem toList_inj {a b : ByteArray} (h : a.toList = b.toList) : a = b := by
  rw [ByteArray.toList_eq, ByteArray.toList_eq] at h
  cases a; cases b
  congr 1
  exact Array.ext' h
theorem w4 {s x : Int} (a : 0 ≤ s ∧ s ≤ 4800000000) (b : 0 ≤ x ∧ x ≤ 400000000) : wrap64 (s + x) = s + x := w64d (by omega) (by omega)
section
variable (lv : Int) (ts : List S53) (hW : Wtd ts) (X Y : List S41) (hX : Lines 1 ts X) (hY : Lines lv ts Y)
theorem Lines.nodup {lv : Int} {ts : List S53} {Y : List S41} (hY : Lines lv ts Y) : (Y.map (·.f0)).Nodup := List.pairwise_map.2 (hY.asc.imp (fun {a b} hab e => by rw [show cL a b = 0 from Srt.cG_zero.2 e] at hab; omega))
theorem Lines.has {lv : Int} {ts : List S53} {Y : List S41} (hY : Lines lv ts Y) : ∀ t ∈ ts, ∀ s ∈ t.f2, ∃ y ∈ Y, y.f0 = key lv s := fun t ht s hs =>
  (hY.mem (key lv s)).2 ⟨(t.f1, s), List.mem_flatMap.2 ⟨t, ht, List.mem_map.2 ⟨s, hs, rfl⟩⟩, rfl⟩
theorem Lines.hasW {lv : Int} {ts : List S53} {Y : List S41} (hY : Lines lv ts Y) : ∀ x ∈ wS ts, ∃ y ∈ Y, y.f0 = key lv x.2 := fun x hx => (hY.mem (key lv x.2)).2 ⟨x, hx, rfl⟩
theorem tot_b {lv : Int} {ts : List S53} (hG : Good ts) (h3 : ts.length ≤ 1000) (k : S39) : (0 ≤ (tot lv ts k).f0 ∧ (tot lv ts k).f0 ≤ 400000000) ∧ (0 ≤ (tot lv ts k).f1 ∧ (tot lv ts k).f1 ≤ 400000000) ∧ (0 ≤ (tot lv ts k).f2 ∧ (tot lv ts k).f2 ≤ 400000000) ∧ 0 ≤ (tot lv ts k).f3 ∧ (tot lv ts k).f3 ≤ 400000000 := by
  have hl := wS_len ts hG.len
  have a := sum_b lv fA (fun x => fA_b) k (wS ts) hG.ok
  have b := sum_b lv fE (fun x => fE_b) k (wS ts) hG.ok
  have c := sum_b lv fD (fun x => fD_b) k (wS ts) hG.ok
  have d := trS_b lv k ts hG.w
  exact ⟨⟨a.1, Int.le_trans a.2 (by omega)⟩, ⟨b.1, Int.le_trans b.2 (by omega)⟩, ⟨c.1, Int.le_trans c.2 (by omega)⟩, d.1, Int.le_trans d.2 (by omega)⟩
theorem lineAt (l : List S41) {i : Nat} (hi : i < l.length) : rd_T41 l (i : Int) = l[i] := getD_at l z41 hi
theorem add_f (a b c d e f g h : Int) : sleuthlaw25_add.f a b c d e f g h = some (wrap64 (a + e), wrap64 (b + f), wrap64 (c + g), wrap64 (d + h)) := rfl
include hW hY
theorem sv_all (svc : ByteArray) : sv (fun y => y.f1.f0) svc Y = sumOf 1 fA (k1 svc) (wS ts) ∧ sv (fun y => y.f1.f1) svc Y = sumOf 1 fE (k1 svc) (wS ts) ∧ sv (fun y => y.f1.f2) svc Y = sumOf 1 fD (k1 svc) (wS ts) ∧ trS 1 (k1 svc) ts ≤ sv (fun y => y.f1.f3) svc Y := by
  have e0 := sv_congr (fun y => y.f1.f0) (fun y => sumOf lv fA y.f0 (wS ts)) svc Y (fun y hy _ => by rw [hY.val y hy]; rfl)
  have e1 := sv_congr (fun y => y.f1.f1) (fun y => sumOf lv fE y.f0 (wS ts)) svc Y (fun y hy _ => by rw [hY.val y hy]; rfl)
  have e2 := sv_congr (fun y => y.f1.f2) (fun y => sumOf lv fD y.f0 (wS ts)) svc Y (fun y hy _ => by rw [hY.val y hy]; rfl)
  have e3 := sv_congr (fun y => y.f1.f3) (fun y => trS lv y.f0 ts) svc Y (fun y hy _ => by rw [hY.val y hy]; rfl)
  rw [e0, e1, e2, e3]
  exact ⟨sum_svc lv fA svc Y hY.nodup _ hY.hasW, sum_svc lv fE svc Y hY.nodup _ hY.hasW, sum_svc lv fD svc Y hY.nodup _ hY.hasW, tr_ge lv svc Y ts (fun t ht => (hW.good.w t ht).1) hY.has⟩
include hX
theorem r_l2 (x8 : Int) {i : Nat} (hi : i < X.length) (R : Bool) (h : Ev (fun k => sleuthlaw25_EstimateRefines.l1 k ts X x8 Y ((i + 1 : Nat) : Int)) R) : ∀ (d j : Nat), Y.length - j = d → j ≤ Y.length → ∀ s0 s1 s2 s3 : Int, s0 = sv (fun y => y.f1.f0) X[i].f0.f0 (Y.take j) → s1 = sv (fun y => y.f1.f1) X[i].f0.f0 (Y.take j) → s2 = sv (fun y => y.f1.f2) X[i].f0.f0 (Y.take j) → s3 = sv (fun y => y.f1.f3) X[i].f0.f0 (Y.take j) →
    Ev (fun k => sleuthlaw25_EstimateRefines.l2 k ts X x8 Y (i : Int) (j : Int) s0 s1 s2 s3) R := by
  have hXl := hX.len
  have hYl := hY.len
  have hn := hW.good.n
  have hx := hX.val X[i] (List.getElem_mem hi)
  obtain ⟨x0, _, hk0⟩ := (hX.mem X[i].f0).1 ⟨_, List.getElem_mem hi, rfl⟩
  rw [key_one] at hk0
  have hk : X[i].f0 = k1 X[i].f0.f0 := by rw [← hk0]; rfl
  have hX6 : X.length ≤ 1000000 := by omega
  have hY6 : Y.length ≤ 1000000 := by omega
  intro d
  induction d with
  | zero =>
    intro j hd hj s0 s1 s2 s3 e0 e1 e2 e3
    obtain rfl : j = Y.length := by omega
    rw [List.take_length] at e0 e1 e2 e3
    obtain ⟨a0, a1, a2, a3⟩ := sv_all lv ts hW Y hY X[i].f0.f0
    refine Ev.step (fun k => ?_) h
    simp only [sleuthlaw25_EstimateRefines.l2, lineAt X hi]
    rw [if_neg (by omega), if_pos (by omega), if_pos (by omega), if_pos (by rw [e0, a0, hx, ← hk]; rfl), if_pos (by rw [e1, a1, hx, ← hk]; rfl), if_pos (by rw [e2, a2, hx, ← hk]; rfl), if_neg (by rw [e3, hx]; rw [← hk] at a3; exact Int.not_lt.2 a3), wsucc hi hX6]
  | succ d ih =>
    intro j hd hj s0 s1 s2 s3 e0 e1 e2 e3
    have hlt : j < Y.length := by omega
    have ht : Y.take (j + 1) = Y.take j ++ [Y[j]] := by rw [List.take_add_one, List.getElem?_eq_getElem hlt]; rfl
    have hmem : ∀ y ∈ Y.take j, y ∈ Y := fun y hy => List.mem_of_mem_take hy
    have tb : ∀ y ∈ Y, (0 ≤ y.f1.f0 ∧ y.f1.f0 ≤ 400000000) ∧ (0 ≤ y.f1.f1 ∧ y.f1.f1 ≤ 400000000) ∧ (0 ≤ y.f1.f2 ∧ y.f1.f2 ≤ 400000000) ∧ 0 ≤ y.f1.f3 ∧ y.f1.f3 ≤ 400000000 := fun y hy => by rw [hY.val y hy]; exact tot_b hW.good hn y.f0
    have lt : (Y.take j).length ≤ 12 := by rw [List.length_take]; omega
    have b0 := sv_b (fun y => y.f1.f0) 400000000 X[i].f0.f0 (Y.take j) (by decide) (fun y hy => (tb y (hmem y hy)).1)
    have b1 := sv_b (fun y => y.f1.f1) 400000000 X[i].f0.f0 (Y.take j) (by decide) (fun y hy => (tb y (hmem y hy)).2.1)
    have b2 := sv_b (fun y => y.f1.f2) 400000000 X[i].f0.f0 (Y.take j) (by decide) (fun y hy => (tb y (hmem y hy)).2.2.1)
    have b3 := sv_b (fun y => y.f1.f3) 400000000 X[i].f0.f0 (Y.take j) (by decide) (fun y hy => (tb y (hmem y hy)).2.2.2)
    have c := tb Y[j] (List.getElem_mem hlt)
    have IH := ih (j + 1) (by omega) (by omega)
    rw [ht] at IH
    simp only [sv_snoc] at IH
    rw [← e0] at b0
    replace b0 : 0 ≤ s0 ∧ s0 ≤ 4800000000 := ⟨b0.1, Int.le_trans b0.2 (by omega)⟩
    rw [← e1] at b1
    replace b1 : 0 ≤ s1 ∧ s1 ≤ 4800000000 := ⟨b1.1, Int.le_trans b1.2 (by omega)⟩
    rw [← e2] at b2
    replace b2 : 0 ≤ s2 ∧ s2 ≤ 4800000000 := ⟨b2.1, Int.le_trans b2.2 (by omega)⟩
    rw [← e3] at b3
    replace b3 : 0 ≤ s3 ∧ s3 ≤ 4800000000 := ⟨b3.1, Int.le_trans b3.2 (by omega)⟩
    by_cases cs : Y[j].f0.f0 = X[i].f0.f0
    · have hle : ¬ Y[j].f1.f3 > X[i].f1.f3 := by
        have := tr_le lv Y[j].f0 ts (fun t ht => (hW.good.w t ht).1)
        rw [cs, ← hk] at this
        rw [hx, hY.val _ (List.getElem_mem hlt)]
        exact Int.not_lt.2 this
      refine Ev.step (fun k => ?_) (IH (s0 + Y[j].f1.f0) (s1 + Y[j].f1.f1) (s2 + Y[j].f1.f2) (s3 + Y[j].f1.f3) (by rw [if_pos cs, e0]) (by rw [if_pos cs, e1]) (by rw [if_pos cs, e2]) (by rw [if_pos cs, e3]))
      simp only [sleuthlaw25_EstimateRefines.l2, lineAt X hi, lineAt Y hlt, add_f, Option.bind_some]
      rw [if_pos (by omega), if_pos (by omega), if_pos (by omega), if_pos (by omega), if_pos (by rw [cs]), if_neg hle, wsucc hlt hY6, w4 b0 c.1, w4 b1 c.2.1, w4 b2 c.2.2.1, w4 b3 c.2.2.2]
    · refine Ev.step (fun k => ?_) (IH s0 s1 s2 s3 (by rw [if_neg cs, e0, Int.add_zero]) (by rw [if_neg cs, e1, Int.add_zero]) (by rw [if_neg cs, e2, Int.add_zero]) (by rw [if_neg cs, e3, Int.add_zero]))
      simp only [sleuthlaw25_EstimateRefines.l2, lineAt X hi, lineAt Y hlt]
      rw [if_pos (by omega), if_pos (by omega), if_pos (by omega), if_pos (by omega), if_neg (fun h => cs (toList_inj h)), wsucc hlt hY6]
theorem r_l1 (x8 : Int) (R : Bool) (h : Ev (fun k => sleuthlaw25_EstimateRefines.l0 k ts X (wrap64 (x8 + 1))) R) : ∀ (d i : Nat), X.length - i = d → i ≤ X.length → Ev (fun k => sleuthlaw25_EstimateRefines.l1 k ts X x8 Y (i : Int)) R := by
  intro d
  induction d with
  | zero =>
    intro i hd hi
    refine Ev.step (fun k => ?_) h
    simp only [sleuthlaw25_EstimateRefines.l1]
    rw [if_neg (by omega)]
  | succ d ih =>
    intro i hd hi
    have hlt : i < X.length := by omega
    refine Ev.step (fun k => ?_) (r_l2 lv ts hW X Y hX hY x8 hlt R (ih (i + 1) (by omega) (by omega)) Y.length 0 rfl (Nat.zero_le _) 0 0 0 0 rfl rfl rfl rfl)
    simp only [sleuthlaw25_EstimateRefines.l1]
    rw [if_pos (by omega)]
    rfl
end
theorem refines (l0 : List S104) (o1 o2 o3 o4 : Int) (l5 : List S193) (wr a b c : Int) (ht : ∀ t ∈ l0, TreeOk t) (ho : I8 o1 ∧ I8 o2 ∧ I8 o3 ∧ I8 o4) (hn : l0.length ≤ 9223372036854775807) (habc : U8 a ∧ U8 b ∧ U8 c) : ∃ k, sleuthlaw25_EstimateRefines.f k l0 o1 o2 o3 o4 l5 wr a b c = some true := by
  obtain ⟨ts, h3, hW, hts⟩ := weighted_ev l0 o1 o2 o3 o4 l5 wr a b c ht ho hn habc
  obtain ⟨X, hX, hXe⟩ := by_ev 1 (Or.inl rfl) ts hW.good hW.names
  obtain ⟨Y, hY, hYe⟩ := by_ev 2 (Or.inr (Or.inl rfl)) ts hW.good hW.names
  obtain ⟨Z, hZ, hZe⟩ := by_ev 3 (Or.inr (Or.inr rfl)) ts hW.good hW.names
  have h4 : Ev (fun k => sleuthlaw25_EstimateRefines.l0 k ts X 4) true := Ev.step (f := fun _ => some true) (fun k => by simp only [sleuthlaw25_EstimateRefines.l0]; rw [if_neg (by decide)]) (Ev.now _)
  have h2 : Ev (fun k => sleuthlaw25_EstimateRefines.l0 k ts X 3) true := by
    refine Ev.step (fun k => ?_) (Ev.bind (f := fun k bt => if bt.2 = 0 then sleuthlaw25_EstimateRefines.l1 k ts X 3 bt.1 0 else none) hZe (Ev.congr (fun k => if_pos rfl) (r_l1 3 ts hW X Z hX hZ 3 true (show Ev (fun k => sleuthlaw25_EstimateRefines.l0 k ts X (wrap64 (3 + 1))) true by rw [show wrap64 (3 + 1) = 4 from w64d (x := 3 + 1) (by decide) (by decide)]; exact h4) X.length 0 rfl (Nat.zero_le _))))
    simp only [sleuthlaw25_EstimateRefines.l0]
    rw [if_pos (by decide)]
  have h1 : Ev (fun k => sleuthlaw25_EstimateRefines.l0 k ts X 2) true := by
    refine Ev.step (fun k => ?_) (Ev.bind (f := fun k bt => if bt.2 = 0 then sleuthlaw25_EstimateRefines.l1 k ts X 2 bt.1 0 else none) hYe (Ev.congr (fun k => if_pos rfl) (r_l1 2 ts hW X Y hX hY 2 true (show Ev (fun k => sleuthlaw25_EstimateRefines.l0 k ts X (wrap64 (2 + 1))) true by rw [show wrap64 (2 + 1) = 3 from w64d (x := 2 + 1) (by decide) (by decide)]; exact h2) X.length 0 rfl (Nat.zero_le _))))
    simp only [sleuthlaw25_EstimateRefines.l0]
    rw [if_pos (by decide)]
  refine Ev.rounds (Ev.bind known_ev (Ev.congr (fun k => if_pos rfl) (Ev.bind hts (Ev.bind (f := fun k bt => if bt.2 = 0 then sleuthlaw25_EstimateRefines.l0 k ts bt.1 2 else none) hXe (Ev.congr (fun k => if_pos rfl) h1)))))
end Go.Proofs.Ythdifdnjodbdnaa.Pl
