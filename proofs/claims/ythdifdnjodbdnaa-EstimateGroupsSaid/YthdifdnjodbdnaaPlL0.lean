/- Plain laws of layer 25: sums over lines. -/
import Derived.Test.YthdifdnjodbdnaaPlK
namespace Go.Proofs.Ythdifdnjodbdnaa.Pl
open Go.RowKit Go.Proofs.YthdifdnjodbdnaaW.PrintWords Go.Proofs.YthdifdnjodbdnaaW.PrintLast Go.Proofs.YthdifdnjodbdnaaW.PrintMore Go.Proofs.Ythdifdnjodbdnaa.Q Go.Proofs.Ythdifdnjodbdnaa.RowS
open Srt (Asc cL cG)
set_option linter.unusedVariables false
set_option linter.unusedSimpArgs false
set_option linter.unusedSimpArgs false
/-- The sum of a number over the lines of a service. -/
def sv (g : S41 → Int) (svc : ByteArray) (Y : List S41) : Int := (Y.map fun y => if y.f0.f0 = svc then g y else 0).sum
theorem sv_cons (g : S41 → Int) (svc : ByteArray) (y : S41) (Y : List S41) : sv g svc (y :: Y) = (if y.f0.f0 = svc then g y else 0) + sv g svc Y := by
  unfold sv
  rw [List.map_cons, List.sum_cons]
theorem sv_snoc (g : S41 → Int) (svc : ByteArray) (y : S41) (Y : List S41) : sv g svc (Y ++ [y]) = sv g svc Y + (if y.f0.f0 = svc then g y else 0) := by
  unfold sv
  rw [List.map_append, List.sum_append]
  simp
theorem sv_le (g h : S41 → Int) (svc : ByteArray) (Y : List S41) (hl : ∀ y ∈ Y, y.f0.f0 = svc → g y ≤ h y) : sv g svc Y ≤ sv h svc Y := by
  induction Y with
  | nil => exact Int.le_refl _
  | cons y Y ih =>
    rw [sv_cons, sv_cons]
    have h1 := ih (fun z hz => hl z (List.mem_cons_of_mem _ hz))
    split
    · have := hl y List.mem_cons_self (by assumption); omega
    · omega
theorem sv_congr (g h : S41 → Int) (svc : ByteArray) (Y : List S41) (hl : ∀ y ∈ Y, y.f0.f0 = svc → g y = h y) : sv g svc Y = sv h svc Y := by
  induction Y with
  | nil => rfl
  | cons y Y ih =>
    rw [sv_cons, sv_cons, ih (fun z hz => hl z (List.mem_cons_of_mem _ hz))]
    split
    · rw [hl y List.mem_cons_self (by assumption)]
    · rfl
theorem sv_add (g h : S41 → Int) (svc : ByteArray) (Y : List S41) : sv (fun y => g y + h y) svc Y = sv g svc Y + sv h svc Y := by
  induction Y with
  | nil => rfl
  | cons y Y ih =>
    rw [sv_cons, sv_cons, sv_cons, ih]
    split <;> omega
theorem sv_zero (svc : ByteArray) (Y : List S41) : sv (fun _ => 0) svc Y = 0 := by
  induction Y with
  | nil => rfl
  | cons y Y ih => rw [sv_cons, ih]; split <;> rfl
theorem sv_b (g : S41 → Int) (m : Int) (svc : ByteArray) (Y : List S41) (hm : 0 ≤ m) (h : ∀ y ∈ Y, 0 ≤ g y ∧ g y ≤ m) : 0 ≤ sv g svc Y ∧ sv g svc Y ≤ m * Y.length := by
  induction Y with
  | nil => exact ⟨Int.le_refl _, by show (0 : Int) ≤ m * 0; omega⟩
  | cons y Y ih =>
    have h1 := ih (fun z hz => h z (List.mem_cons_of_mem _ hz))
    have h2 := h y List.mem_cons_self
    rw [sv_cons, List.length_cons, show m * ((Y.length + 1 : Nat) : Int) = m * (Y.length : Int) + m by rw [Int.natCast_add, Int.mul_add]; simp]
    split <;> omega
/-- One line alone has the key. -/
theorem sv_pick (k : S39) (c : Int) (svc : ByteArray) (Y : List S41) (hn : (Y.map (·.f0)).Nodup) (hm : ∃ y ∈ Y, y.f0 = k) : sv (fun y => if k = y.f0 then c else 0) svc Y = if k.f0 = svc then c else 0 := by
  induction Y with
  | nil => obtain ⟨y, hy, _⟩ := hm; cases hy
  | cons y Y ih =>
    rw [List.map_cons, List.nodup_cons] at hn
    rw [sv_cons]
    by_cases e : k = y.f0
    · have hz : sv (fun y => if k = y.f0 then c else 0) svc Y = sv (fun _ => 0) svc Y := sv_congr _ _ _ _ (fun z hz _ => if_neg (fun e2 => hn.1 (List.mem_map.2 ⟨z, hz, by rw [← e2, e]⟩)))
      rw [hz, sv_zero, if_pos e, e]
      split <;> omega
    · rw [if_neg e, ih hn.2]
      · split <;> split <;> omega
      · obtain ⟨z, hz, rfl⟩ := hm
        rcases List.mem_cons.1 hz with rfl | hz
        · exact absurd rfl e
        · exact ⟨z, hz, rfl⟩
def k1 (svc : ByteArray) : S39 := ⟨svc, ⟨#[]⟩, ⟨#[]⟩⟩
theorem key_one (s : S58) : key 1 s = k1 s.f6 := by
  unfold key k1
  rw [if_neg (by decide), if_neg (by decide)]
theorem key_svc (lv : Int) (s : S58) : (key lv s).f0 = s.f6 := rfl
theorem k1_iff (svc : ByteArray) (s : S58) : key 1 s = k1 svc ↔ s.f6 = svc := by
  rw [key_one]
  exact ⟨fun h => congrArg S39.f0 h, fun h => by rw [h]⟩
/-- The sums over the lines of a service are those of the service. -/
theorem sum_svc (lv : Int) (f : Int × S58 → Int) (svc : ByteArray) (Y : List S41) (hn : (Y.map (·.f0)).Nodup) (L : List (Int × S58)) (hm : ∀ x ∈ L, ∃ y ∈ Y, y.f0 = key lv x.2) : sv (fun y => sumOf lv f y.f0 L) svc Y = sumOf 1 f (k1 svc) L := by
  induction L with
  | nil => exact sv_zero svc Y
  | cons x L ih =>
    rw [sv_congr (fun y => sumOf lv f y.f0 (x :: L)) (fun y => (if key lv x.2 = y.f0 then f x else 0) + sumOf lv f y.f0 L) svc Y (fun y _ _ => sum_cons' lv f y.f0 L x), sv_add, ih (fun z hz => hm z (List.mem_cons_of_mem _ hz)), sv_pick _ _ _ _ hn (hm x List.mem_cons_self), sum_cons' 1]
    congr 1
    by_cases e : x.2.f6 = svc
    · rw [if_pos (by rw [key_svc]; exact e), if_pos ((k1_iff svc _).2 e)]
    · rw [if_neg (by rw [key_svc]; exact e), if_neg (fun h => e ((k1_iff svc _).1 h))]
theorem anyK_iff (lv : Int) (k : S39) (p : List S58) : anyK lv k p = true ↔ ∃ s ∈ p, key lv s = k := by
  unfold anyK
  rw [List.any_eq_true]
  exact ⟨fun ⟨s, h1, h2⟩ => ⟨s, h1, of_decide_eq_true h2⟩, fun ⟨s, h1, h2⟩ => ⟨s, h1, decide_eq_true h2⟩⟩
theorem trS_cons (lv : Int) (k : S39) (t : S53) (ts : List S53) : trS lv k (t :: ts) = (if anyK lv k t.f2 = true then t.f1 else 0) + trS lv k ts := by
  unfold trS
  rw [List.map_cons, List.sum_cons]
/-- A line of a service has no more traces than the service. -/
theorem tr_le (lv : Int) (k : S39) (ts : List S53) (hw : ∀ t ∈ ts, 0 ≤ t.f1) : trS lv k ts ≤ trS 1 (k1 k.f0) ts := by
  induction ts with
  | nil => exact Int.le_refl _
  | cons t ts ih =>
    have h1 := ih (fun z hz => hw z (List.mem_cons_of_mem _ hz))
    have h2 := hw t List.mem_cons_self
    rw [trS_cons, trS_cons]
    by_cases c : anyK lv k t.f2 = true
    · obtain ⟨s, hs, rfl⟩ := (anyK_iff _ _ _).1 c
      rw [if_pos c, if_pos ((anyK_iff 1 (k1 (key lv s).f0) t.f2).2 ⟨s, hs, (k1_iff _ s).2 rfl⟩)]
      omega
    · rw [if_neg c]
      split <;> omega
theorem sv_one_le (g : S41 → Int) (svc : ByteArray) (Y : List S41) (hg : ∀ y ∈ Y, 0 ≤ g y) {y : S41} (hy : y ∈ Y) (e : y.f0.f0 = svc) : g y ≤ sv g svc Y := by
  induction Y with
  | nil => cases hy
  | cons z Y ih =>
    have hb : 0 ≤ sv g svc Y := by
      have := sv_le (fun _ => 0) g svc Y (fun y hy _ => hg y (List.mem_cons_of_mem _ hy))
      rw [sv_zero] at this
      exact this
    rw [sv_cons]
    rcases List.mem_cons.1 hy with rfl | hy
    · rw [if_pos e]; omega
    · have h1 := ih (fun z hz => hg z (List.mem_cons_of_mem _ hz)) hy
      have h2 := hg z List.mem_cons_self
      split <;> omega
theorem tr_ge (lv : Int) (svc : ByteArray) (Y : List S41) (ts : List S53) (hw : ∀ t ∈ ts, 0 ≤ t.f1) (hm : ∀ t ∈ ts, ∀ s ∈ t.f2, ∃ y ∈ Y, y.f0 = key lv s) : trS 1 (k1 svc) ts ≤ sv (fun y => trS lv y.f0 ts) svc Y := by
  induction ts with
  | nil => exact Int.le_of_eq (sv_zero svc Y).symm
  | cons t ts ih =>
    have h1 := ih (fun z hz => hw z (List.mem_cons_of_mem _ hz)) (fun z hz => hm z (List.mem_cons_of_mem _ hz))
    have h2 := hw t List.mem_cons_self
    rw [sv_congr (fun y => trS lv y.f0 (t :: ts)) (fun y => (if anyK lv y.f0 t.f2 = true then t.f1 else 0) + trS lv y.f0 ts) svc Y (fun y _ _ => trS_cons lv y.f0 t ts), sv_add, trS_cons]
    have h3 : (if anyK 1 (k1 svc) t.f2 = true then t.f1 else 0) ≤ sv (fun y => if anyK lv y.f0 t.f2 = true then t.f1 else 0) svc Y := by
      have hg : ∀ y ∈ Y, 0 ≤ (fun y : S41 => if anyK lv y.f0 t.f2 = true then t.f1 else 0) y := fun y _ => by
        show 0 ≤ (if anyK lv y.f0 t.f2 = true then t.f1 else 0)
        split <;> omega
      by_cases c : anyK 1 (k1 svc) t.f2 = true
      · obtain ⟨s, hs, e⟩ := (anyK_iff _ _ _).1 c
        obtain ⟨y, hy, e2⟩ := hm t List.mem_cons_self s hs
        have := sv_one_le _ svc Y hg hy (by rw [e2, key_svc]; exact (k1_iff _ _).1 e)
        have e3 : (if anyK lv y.f0 t.f2 = true then t.f1 else 0) = t.f1 := if_pos ((anyK_iff _ _ _).2 ⟨s, hs, e2.symm⟩)
        simp only [e3] at this
        rw [if_pos c]
        exact this
      · rw [if_neg c]
        have := sv_le (fun _ => 0) _ svc Y (fun y hy _ => hg y hy)
        rw [sv_zero] at this
        exact this
    omega
theorem toList_inj {a b : ByteArray} (h : a.toList = b.toList) : a = b := by
  rw [ByteArray.toList_eq, ByteArray.toList_eq] at h
  cases a; cases b
  congr 1
  exact Array.ext' h
theorem w4 {s x : Int} (a : 0 ≤ s ∧ s ≤ 4800000000) (b : 0 ≤ x ∧ x ≤ 400000000) : wrap64 (s + x) = s + x := w64d (by omega) (by omega)
theorem Lines.nodup {lv : Int} {ts : List S53} {Y : List S41} (hY : Lines lv ts Y) : (Y.map (·.f0)).Nodup := List.pairwise_map.2 (hY.asc.imp (fun {a b} hab e => by rw [show cL a b = 0 from Srt.cG_zero.2 e] at hab; omega))
theorem Lines.has {lv : Int} {ts : List S53} {Y : List S41} (hY : Lines lv ts Y) : ∀ t ∈ ts, ∀ s ∈ t.f2, ∃ y ∈ Y, y.f0 = key lv s := fun t ht s hs =>
  (hY.mem (key lv s)).2 ⟨(t.f1, s), List.mem_flatMap.2 ⟨t, ht, List.mem_map.2 ⟨s, hs, rfl⟩⟩, rfl⟩
theorem Lines.hasW {lv : Int} {ts : List S53} {Y : List S41} (hY : Lines lv ts Y) : ∀ x ∈ wS ts, ∃ y ∈ Y, y.f0 = key lv x.2 := fun x hx => (hY.mem (key lv x.2)).2 ⟨x, hx, rfl⟩
theorem tot_b {lv : Int} {ts : List S53} (hG : Good ts) (h3 : ts.length ≤ 1000) (k : S39) : (0 ≤ (tot lv ts k).f0 ∧ (tot lv ts k).f0 ≤ 400000000) ∧ (0 ≤ (tot lv ts k).f1 ∧ (tot lv ts k).f1 ≤ 400000000) ∧ (0 ≤ (tot lv ts k).f2 ∧ (tot lv ts k).f2 ≤ 400000000) ∧ 0 ≤ (tot lv ts k).f3 ∧ (tot lv ts k).f3 ≤ 400000000 := by
  have hl := wS_len ts hG.len
  have a := sum_b lv fA (fun x => fA_b) k (wS ts) hG.ok
  have b := sum_b lv fE (fun x => fE_b) k (wS ts) hG.ok
  have c := sum_b lv fD (fun x => fD_b) k (wS ts) hG.ok
  have d := trS_b lv k ts hG.w
  exact ⟨⟨a.1, Int.le_trans a.2 (by omega)⟩, ⟨b.1, Int.le_trans b.2 (by omega)⟩, ⟨c.1, Int.le_trans c.2 (by omega)⟩, d.1, Int.le_trans d.2 (by omega)⟩
theorem lineAt (l : List S41) {i : Nat} (hi : i < l.length) : rd_T41 l (i : Int) = l[i] := getD_at l z41 hi
end Go.Proofs.Ythdifdnjodbdnaa.Pl
