/- Plain laws of layer 25: total, less and by answer as defined. -/
import Derived.Test.YthdifdnjodbdnaaPlL0
import Derived.Test.YthdifdnjodbdnaaTot
import Derived.Test.YthdifdnjodbdnaaQgSam
namespace Go.Proofs.Ythdifdnjodbdnaa.Pl
open Go.RowKit Go.Proofs.YthdifdnjodbdnaaW.PrintWords Go.Proofs.YthdifdnjodbdnaaW.PrintLast Go.Proofs.YthdifdnjodbdnaaW.PrintMore Go.Proofs.Ythdifdnjodbdnaa.Q Go.Proofs.Ythdifdnjodbdnaa.RowS
open Srt (Asc cL cG)
set_option linter.unusedVariables false
set_option linter.unusedSimpArgs false
set_option linter.unusedSimpArgs false
theorem toL_iff {a b : ByteArray} : a.toList = b.toList ↔ a = b := ⟨toList_inj, fun h => by rw [h]⟩
theorem less_f (a b : S39) : sleuthlaw25_less.f a.f0 a.f1 a.f2 b.f0 b.f1 b.f2 = some (decide (cG a b < 0)) := by
  unfold sleuthlaw25_less.f
  have h := @Srt.cG_lt a b
  by_cases e0 : a.f0 = b.f0
  · rw [if_pos (toL_iff.2 e0)]
    by_cases e1 : a.f1 = b.f1
    · rw [if_pos (toL_iff.2 e1)]
      congr 1
      rw [Bool.eq_iff_iff, decide_eq_true_iff, h, e0, e1, Srt.cS_self, Srt.cS_self]
      simp only [true_and, Int.lt_irrefl, false_or]
      exact Srt.cS_lt.symm
    · rw [if_neg (fun e => e1 (toL_iff.1 e))]
      congr 1
      rw [Bool.eq_iff_iff, decide_eq_true_iff, h, e0, Srt.cS_self]
      simp only [true_and, Int.lt_irrefl, false_or, e1, false_and, or_false]
      exact Srt.cS_lt.symm
  · rw [if_neg (fun e => e0 (toL_iff.1 e))]
    congr 1
    rw [Bool.eq_iff_iff, decide_eq_true_iff, h]
    simp only [e0, false_and, or_false]
    exact Srt.cS_lt.symm
theorem hit_key (lv : Int) (s : S58) (k : S39) : tHit s lv k.f0 k.f1 k.f2 = decide (key lv s = k) := by
  obtain ⟨k0, k1, k2⟩ := k
  rw [Bool.eq_iff_iff, decide_eq_true_iff]
  unfold tHit key
  simp only [Bool.and_eq_true, beq_iff_eq, toL_iff, S39.mk.injEq]
section
variable (lv : Int) (k : S39)
/-- The sums of a group over some spans with their weights. -/
def sumsK (L : List (Int × S58)) (T : Int) : S37 := ⟨sumOf lv fA k L, sumOf lv fE k L, sumOf lv fD k L, T⟩
theorem add_sums (L : List (Int × S58)) (hL : ∀ x ∈ L, Okx x) (hn : L.length ≤ 1000) (T w : Int) (s : S58) (hs : Okx (w, s)) (hk : key lv s = k) : tAdd (sumsK lv k L T) w s = sumsK lv k (L ++ [(w, s)]) T := by
  have bA := sum_b lv fA (fun x => fA_b) k L hL
  have bE := sum_b lv fE (fun x => fE_b) k L hL
  have bD := sum_b lv fD (fun x => fD_b) k L hL
  have cA := fA_b hs
  have cD := fD_b hs
  have hd := hs.2.2
  simp only at hd
  have e1 : wrap64 (s.f10 - s.f9) = s.f10 - s.f9 := w64 (by omega) (by omega)
  have e2 : fD (w, s) = w * (s.f10 - s.f9) := rfl
  have e3 : fA (w, s) = w := rfl
  rw [e2] at cD
  rw [e3] at cA
  unfold tAdd sumsK
  simp only [sum_snoc, hk, if_true]
  rw [e1, w64 (x := w * (s.f10 - s.f9)) (by omega) (by omega), e2, e3]
  rw [w64 (x := sumOf lv fA k L + w) (by omega) (by omega), w64 (x := sumOf lv fD k L + w * (s.f10 - s.f9)) (by omega) (by omega)]
  congr 1
  show (if s.f11 = true then wrap64 (sumOf lv fE k L + w) else sumOf lv fE k L) = sumOf lv fE k L + (if s.f11 = true then w else 0)
  split
  · exact w64 (by omega) (by omega)
  · omega
theorem skip_sums (L : List (Int × S58)) (T w : Int) (s : S58) (hk : ¬ key lv s = k) : sumsK lv k L T = sumsK lv k (L ++ [(w, s)]) T := by
  unfold sumsK
  simp only [sum_snoc, if_neg hk, Int.add_zero]
variable (ts : List S53) (hG : Good ts)
include hG
theorem tot_in {i : Nat} (hi : i < ts.length) (T : Int) : ∀ (d j : Nat), ts[i].f2.length - j = d → j ≤ ts[i].f2.length → ∀ (has : Bool) (L : List (Int × S58)), (∀ x ∈ L, Okx x) → L.length + d ≤ 1000 → ∀ K, totIn ts (i : Int) lv k.f0 k.f1 k.f2 (K + d + 1) (j : Int) has (sumsK lv k L T) = some (has || anyK lv k (ts[i].f2.drop j), sumsK lv k (L ++ (ts[i].f2.drop j).map fun s => (ts[i].f1, s)) T) := by
  have h8 := hG.len ts[i] (List.getElem_mem hi)
  have hw := hG.w ts[i] (List.getElem_mem hi)
  have hr : rd_T53 ts (i : Int) = ts[i] := getD_at ts z53 hi
  intro d
  induction d with
  | zero =>
    intro j hd hj has L hL hn K
    rw [totIn, hr, if_neg (by omega), List.drop_eq_nil_of_le (by omega)]
    simp [anyK]
  | succ d ih =>
    intro j hd hj has L hL hn K
    have hlt : j < ts[i].f2.length := by omega
    have hs : Okx (ts[i].f1, ts[i].f2[j]) := ⟨hw.1, hw.2, hG.dur ts[i] (List.getElem_mem hi) _ (List.getElem_mem hlt)⟩
    have hrs : rd_T58 ts[i].f2 (j : Int) = ts[i].f2[j] := getD_at _ z58 hlt
    have hL2 : ∀ x ∈ L ++ [(ts[i].f1, ts[i].f2[j])], Okx x := by
      intro x hx
      rcases List.mem_append.1 hx with hx | hx
      · exact hL x hx
      · rw [List.mem_singleton.1 hx]; exact hs
    have hdr : ts[i].f2.drop j = ts[i].f2[j] :: ts[i].f2.drop (j + 1) := drop_at _ hlt
    have hany : anyK lv k (ts[i].f2.drop j) = (decide (key lv ts[i].f2[j] = k) || anyK lv k (ts[i].f2.drop (j + 1))) := by rw [hdr]; rfl
    have hmap : L ++ (ts[i].f2.drop j).map (fun s => (ts[i].f1, s)) = (L ++ [(ts[i].f1, ts[i].f2[j])]) ++ (ts[i].f2.drop (j + 1)).map (fun s => (ts[i].f1, s)) := by rw [hdr, List.map_cons, List.append_assoc]; rfl
    have IH := fun has => ih (j + 1) (by omega) (by omega) has (L ++ [(ts[i].f1, ts[i].f2[j])]) hL2 (by rw [List.length_append, List.length_singleton]; omega) K
    rw [show K + (d + 1) + 1 = (K + d + 1) + 1 by omega, totIn, hr, hrs, if_pos (by omega), if_pos (by omega), hit_key, wsucc hlt (by omega), hany, hmap]
    by_cases c : key lv ts[i].f2[j] = k
    · rw [if_pos (by rw [decide_eq_true c]), add_sums lv k L hL (by omega) T _ _ hs c, IH true, decide_eq_true c]
      simp
    · rw [if_neg (by rw [decide_eq_false c]; decide), skip_sums lv k L T ts[i].f1 _ c, IH has, decide_eq_false c]
      simp
omit hG in
theorem wS_take {i : Nat} (hi : i < ts.length) : wS (ts.take (i + 1)) = wS (ts.take i) ++ ts[i].f2.map fun s => (ts[i].f1, s) := by
  rw [show ts.take (i + 1) = ts.take i ++ [ts[i]] by rw [List.take_add_one, List.getElem?_eq_getElem hi]; rfl, wS_snoc]
theorem tot_go (h3 : ts.length ≤ 10) : ∀ (d i : Nat), ts.length - i = d → i ≤ ts.length → ∀ K, totGo ts lv k.f0 k.f1 k.f2 (K + d + 1) (i : Int) (sumsK lv k (wS (ts.take i)) (trS lv k (ts.take i))) = some (tot lv ts k) := by
  intro d
  induction d with
  | zero =>
    intro i hd hi K
    obtain rfl : i = ts.length := by omega
    rw [totGo, if_neg (by omega), List.take_length]
    rfl
  | succ d ih =>
    intro i hd hi K
    have hlt : i < ts.length := by omega
    have hr : rd_T53 ts (i : Int) = ts[i] := getD_at ts z53 hlt
    have h8 := hG.len ts[i] (List.getElem_mem hlt)
    have hw := hG.w ts[i] (List.getElem_mem hlt)
    have hGt : Good (ts.take i) := ⟨fun t ht => hG.w t (List.mem_of_mem_take ht), fun t ht => hG.len t (List.mem_of_mem_take ht), fun t ht => hG.dur t (List.mem_of_mem_take ht), by rw [List.length_take]; omega⟩
    have hlen := wS_len (ts.take i) hGt.len
    have hl2 : (ts.take i).length ≤ 10 := by rw [List.length_take]; omega
    have htr := trS_b lv k (ts.take i) hGt.w
    have e := tot_in lv k ts hG hlt (trS lv k (ts.take i)) ts[i].f2.length 0 rfl (Nat.zero_le _) false (wS (ts.take i)) hGt.ok (by omega) (20 - ts[i].f2.length - 1)
    rw [show 20 - ts[i].f2.length - 1 + ts[i].f2.length + 1 = 20 by omega, List.drop_zero, Bool.false_or, ← wS_take ts hlt, show ((0 : Nat) : Int) = 0 from rfl] at e
    have hts : trS lv k (ts.take (i + 1)) = trS lv k (ts.take i) + if anyK lv k ts[i].f2 = true then ts[i].f1 else 0 := by
      rw [show ts.take (i + 1) = ts.take i ++ [ts[i]] by rw [List.take_add_one, List.getElem?_eq_getElem hlt]; rfl, trS_snoc]
    have IH := ih (i + 1) (by omega) (by omega) K
    rw [show K + (d + 1) + 1 = (K + d + 1) + 1 by omega, totGo, if_pos (by omega), if_pos (by omega), e, Option.bind_some, wsucc hlt (by omega), hr]
    simp only
    rw [← IH, hts]
    congr 1
    by_cases c : anyK lv k ts[i].f2 = true
    · rw [if_pos c, if_pos c]
      unfold sumsK
      simp only
      rw [w64 (x := trS lv k (ts.take i) + ts[i].f1) (by omega) (by omega)]
    · rw [if_neg c, if_neg c, Int.add_zero]
theorem total_f (h3 : ts.length ≤ 10) : sleuthlaw25_total.f ts k.f0 k.f1 k.f2 lv = some ((tot lv ts k).f0, (tot lv ts k).f1, (tot lv ts k).f2, (tot lv ts k).f3) := by
  have h := tot_go lv k ts hG h3 ts.length 0 rfl (Nat.zero_le _) (20 - ts.length - 1)
  rw [show 20 - ts.length - 1 + ts.length + 1 = 20 by omega] at h
  unfold sleuthlaw25_total.f
  rw [show (⟨0, 0, 0, 0⟩ : S37) = sumsK lv k (wS (ts.take 0)) (trS lv k (ts.take 0)) from rfl, show (0 : Int) = ((0 : Nat) : Int) from rfl, h]
  rfl
end
end Go.Proofs.Ythdifdnjodbdnaa.Pl
