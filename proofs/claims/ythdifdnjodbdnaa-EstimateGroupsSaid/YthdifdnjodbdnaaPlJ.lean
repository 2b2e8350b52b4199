/- Plain laws of layer 25: By answers the lines of the definition, for traces with the names of stories. -/
import Derived.Test.YthdifdnjodbdnaaPlI
import Derived.Test.YthdifdnjodbdnaaMd
namespace Go.Proofs.Ythdifdnjodbdnaa.Pl
open Go.RowKit Go.Proofs.YthdifdnjodbdnaaW.PrintWords Go.Proofs.YthdifdnjodbdnaaW.PrintLast Go.Proofs.YthdifdnjodbdnaaW.PrintMore Go.Proofs.Ythdifdnjodbdnaa.Q
open Mr (getL putL good pr)
open Srt (srt srt_perm srt_asc Asc Keys cL cG)
set_option linter.unusedVariables false
set_option linter.unusedSimpArgs false
set_option linter.unusedSimpArgs false
theorem nodup_le {α : Type} [DecidableEq α] : ∀ (l L : List α), l.Nodup → (∀ x ∈ l, x ∈ L) → l.length ≤ L.length
  | [], _, _, _ => Nat.zero_le _
  | x :: l, L, hn, hs => by
    have hx := hs x List.mem_cons_self
    rw [List.nodup_cons] at hn
    have := nodup_le l (L.erase x) hn.2 (fun y hy => (List.mem_erase_of_ne (fun e => hn.1 (by rw [← e]; exact hy))).2 (hs y (List.mem_cons_of_mem _ hy)))
    rw [List.length_erase_of_mem hx] at this
    have := List.length_pos_of_mem hx
    rw [List.length_cons]
    omega
/-- A span with the names of stories. -/
def Named (s : S58) : Prop := s.f6 ∈ sSvc ∧ s.f7 ∈ sVer ∧ s.f8 ∈ sOp
def allK (lv : Int) : List S39 := sSvc.flatMap fun a => if lv = 3 then sOp.map fun b => ⟨a, ⟨#[]⟩, b⟩ else sVer.map fun b => ⟨a, b, ⟨#[]⟩⟩
theorem allK_len (lv : Int) : (allK lv).length = 12 := by
  unfold allK
  split <;> rfl
theorem key_all (lv : Int) {s : S58} (h : Named s) : key lv s ∈ allK lv := by
  unfold allK key
  refine List.mem_flatMap.2 ⟨s.f6, h.1, ?_⟩
  by_cases c3 : lv = 3
  · rw [if_pos c3, if_pos c3, if_neg (by omega)]
    exact List.mem_map.2 ⟨s.f8, h.2.2, rfl⟩
  · rw [if_neg c3, if_neg c3]
    by_cases c2 : lv = 2
    · rw [if_pos c2]
      exact List.mem_map.2 ⟨s.f7, h.2.1, rfl⟩
    · rw [if_neg c2]
      exact List.mem_map.2 ⟨⟨#[]⟩, by simp, rfl⟩
theorem small_size {b : ByteArray} {l : List ByteArray} (hl : ∀ x ∈ l, x.size ≤ 100) (h : b ∈ l) : b.size ≤ maxLen := Nat.le_trans (hl b h) (by decide)
theorem sSvc_size : ∀ x ∈ sSvc, x.size ≤ 100 := by intro x h; simp at h; rcases h with rfl | rfl | rfl | rfl <;> decide
theorem sVer_size : ∀ x ∈ sVer, x.size ≤ 100 := by intro x h; simp at h; rcases h with rfl | rfl | rfl <;> decide
theorem sOp_size : ∀ x ∈ sOp, x.size ≤ 100 := by intro x h; simp at h; rcases h with rfl | rfl | rfl <;> decide
theorem key_good (lv : Int) {s : S58} (h : Named s) : good (key lv s) := by
  refine ⟨small_size sSvc_size h.1, ?_, ?_⟩
  · show (if lv = 2 then s.f7 else ⟨#[]⟩ : ByteArray).size ≤ maxLen
    split
    · exact small_size sVer_size h.2.1
    · exact Nat.zero_le _
  · show (if lv = 3 then s.f8 else ⟨#[]⟩ : ByteArray).size ≤ maxLen
    split
    · exact small_size sOp_size h.2.2
    · exact Nat.zero_le _
/-- The lines of some traces at a level. -/
structure Lines (lv : Int) (ts : List S53) (L : List S41) : Prop where
  asc : Asc L
  len : L.length ≤ 12
  val : ∀ x ∈ L, x.f1 = tot lv ts x.f0
  mem : ∀ k, (∃ x ∈ L, x.f0 = k) ↔ ∃ x ∈ wS ts, key lv x.2 = k
theorem lines_of {lv : Int} {ts : List S53} {M : List S41} (h : InvM lv M (wS ts) (fun k => trS lv k ts)) (hM : M.length ≤ 12) : Lines lv ts (srt M) := by
  have hK : Keys M := List.pairwise_map.1 h.nd
  have hp := srt_perm M
  refine ⟨srt_asc hK, by rw [hp.length_eq]; exact hM, fun x hx => ?_, fun k => ?_⟩
  · have hm := hp.mem_iff.1 hx
    obtain ⟨j, hj, rfl⟩ := List.getElem_of_mem hm
    have hv := h.val M[j].f0
    have : getL M M[j].f0 = M[j].f1 := by
      unfold getL
      refine Mp.get_at (j := j) ?_ ?_ _
      · rw [keysL_pr]; exact h.nd
      · rw [List.getElem?_map, List.getElem?_eq_getElem hj]; rfl
    rw [← this, hv]
    rfl
  · rw [← h.mem]
    unfold keysL
    rw [List.mem_map]
    constructor
    · rintro ⟨x, hx, rfl⟩
      exact ⟨x, hp.mem_iff.1 hx, rfl⟩
    · rintro ⟨x, hx, rfl⟩
      exact ⟨x, hp.mem_iff.2 hx, rfl⟩
theorem inv_len {lv : Int} {ts : List S53} {M : List S41} (h : InvM lv M (wS ts) (fun k => trS lv k ts)) (hN : ∀ t ∈ ts, ∀ s ∈ t.f2, Named s) : M.length ≤ 12 := by
  have e : M.length = (keysL M).length := by unfold keysL; rw [List.length_map]
  rw [e, ← allK_len lv]
  refine nodup_le _ _ h.nd (fun k hk => ?_)
  obtain ⟨x, hx, rfl⟩ := (h.mem k).1 hk
  obtain ⟨t, ht, hx⟩ := List.mem_flatMap.1 hx
  obtain ⟨s, hs, rfl⟩ := List.mem_map.1 hx
  exact key_all lv (hN t ht s hs)
theorem by_ev (lv : Int) (hlv : lv = 1 ∨ lv = 2 ∨ lv = 3) (ts : List S53) (hG : Good ts) (hN : ∀ t ∈ ts, ∀ s ∈ t.f2, Named s) : ∃ L, Lines lv ts L ∧ Ev (fun k => estimate_By.f k ts lv) (L, 0) := by
  have hI := byM_all lv ts hG
  have hn := hG.n
  exact ⟨_, lines_of hI (inv_len hI hN), by_fold lv hlv ts (by omega) (fun t ht => by have := hG.len t ht; omega) (fun t ht s hs => key_good lv (hN t ht s hs)) (inv_len hI hN)⟩
/-- The lines of a level are these ones alone. -/
theorem Lines.uniq {lv : Int} {ts : List S53} {L L' : List S41} (h : Lines lv ts L) (h' : Lines lv ts L') : L = L' := by
  have keys : ∀ {X : List S41}, Asc X → (X.map (·.f0)).Nodup := fun hX => List.pairwise_map.2 (hX.imp (fun {a b} hab e => by rw [show cL a b = 0 from Srt.cG_zero.2 e] at hab; omega))
  have sub : ∀ {X Y : List S41}, Lines lv ts X → Lines lv ts Y → ∀ x ∈ X, x ∈ Y := by
    intro X Y hX hY x hx
    obtain ⟨y, hy, e⟩ := (hY.mem x.f0).2 ((hX.mem x.f0).1 ⟨x, hx, rfl⟩)
    have e2 : y.f1 = x.f1 := by rw [hY.val y hy, hX.val x hx, e]
    have : y = x := by cases x; cases y; simp_all
    exact this ▸ hy
  have nd : ∀ {X : List S41}, Asc X → X.Nodup := fun hX => hX.imp (fun {a b} hab e => by rw [e, show cL b b = 0 from Srt.cG_zero.2 rfl] at hab; omega)
  refine Srt.asc_uniq h.asc h'.asc ?_
  exact (List.perm_ext_iff_of_nodup (nd h.asc) (nd h'.asc)).2 (fun x => ⟨sub h h' x, sub h' h x⟩)
end Go.Proofs.Ythdifdnjodbdnaa.Pl
