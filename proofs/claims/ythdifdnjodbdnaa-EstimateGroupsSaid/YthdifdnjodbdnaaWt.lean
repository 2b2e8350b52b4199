/- sleuthlaw25.weighted, by hand: the traces of a story with weights. -/
import Derived.Test.YthdifdnjodbdnaaMd
import Derived.Test.YthdifdnjodbdnaaQgSh
import Derived.Test.YthdifdnjodbdnaaQgTrs
namespace Go.Proofs.Ythdifdnjodbdnaa.Q
open Go.RowKit Go.Proofs.YthdifdnjodbdnaaW.PrintWords Go.Proofs.YthdifdnjodbdnaaW.PrintLast Go.Proofs.YthdifdnjodbdnaaW.PrintMore
set_option linter.unusedVariables false
set_option linter.unusedSimpArgs false
set_option linter.unusedSimpArgs false
/-- The weight of the trace with an index. -/
def wtAt (a b c : Int) (i : Int) : Int := wrap64 (1 + wrap64 (Int.tmod (if Int.tmod i 3 = 0 then a else if Int.tmod i 3 = 1 then b else c) 16))
def setW (l : List S53) (i : Int) (x : Int) : List S53 := l.set i.toNat ⟨(rd_T53 l i).f0, x, (rd_T53 l i).f2⟩
def wtGo (a b c : Int) : Nat → Int → List S53 → Option (List S53)
  | 0, _, _ => none
  | k + 1, i, l => if i < (l.length : Int) then (if 0 ≤ i ∧ (Int.tmod i 3 = 0 ∨ Int.tmod i 3 = 1 ∨ Int.tmod i 3 = 2) then wtGo a b c k (wrap64 (i + 1)) (setW l i (wtAt a b c i)) else none) else some l
def sleuthlaw25_weighted.f (k : Nat) (l0 : List S104) (o1 o2 o3 o4 : Int) (l5 : List S193) (wr a b c : Int) : Option (List S53) :=
  (sleuthlaw13_Short.f k l0 o1 o2 o3 o4 l5 wr).bind fun s => if s = true then (sleuthlaw13_Traces.f k l0 o1 o2 o3 o4 l5 wr).bind fun l => wtGo a b c k 0 l else some []
theorem wtGo_mono (a b c : Int) : ∀ (k : Nat) (i : Int) (l : List S53), LeO (wtGo a b c k i l) (wtGo a b c (k + 1) i l)
  | 0, i, l => LeO.none _
  | k + 1, i, l => by
    rw [wtGo, wtGo]
    exact LeO.ite (LeO.ite (wtGo_mono a b c k _ _) (LeO.refl _)) (LeO.refl _)
theorem sleuthlaw25_weighted.mono : ∀ a0 a1 a2 a3 a4 a5 a6 a7 a8 a9 k, LeO (sleuthlaw25_weighted.f k a0 a1 a2 a3 a4 a5 a6 a7 a8 a9) (sleuthlaw25_weighted.f (k + 1) a0 a1 a2 a3 a4 a5 a6 a7 a8 a9) := by
  intro a0 a1 a2 a3 a4 a5 a6 a7 a8 a9 k
  unfold sleuthlaw25_weighted.f
  exact LeO.bind (sleuthlaw13_Short.mono _ _ _ _ _ _ _ _) (fun _ => LeO.ite (LeO.bind (sleuthlaw13_Traces.mono _ _ _ _ _ _ _ _) (fun _ => wtGo_mono _ _ _ _ _ _)) (LeO.refl _))
theorem setW_len (l : List S53) (i x : Int) : (setW l i x).length = l.length := List.length_set
/-- A world of weighted's. -/
structure WtW (w : World) (st ar : Array Value) (W : World) : Prop where
  b : Below w.heap.size w W
  s : W.heap[w.heap.size]? = some (.cells st 27 (0, 0))
  a : W.heap[w.heap.size + 1]? = some (.cells ar 28 (0, 0))
theorem WtW.move {w : World} {st ar : Array Value} {W W' : World} (h : WtW w st ar W) (hb : Below W.heap.size W W') : WtW w st ar W' := ⟨below_step h.b hb, blk_below h.s hb, blk_below h.a hb⟩
theorem ar_cells {W : World} {g : Nat} {a b c : Int} (h : W.heap[g]? = some (.cells #[.int .u8 a, .int .u8 b, .int .u8 c] 28 (0, 0))) : W.cell? ⟨g, 0, none⟩ = some (.int .u8 a) ∧ W.cell? ⟨g, 1, none⟩ = some (.int .u8 b) ∧ W.cell? ⟨g, 2, none⟩ = some (.int .u8 c) := ⟨(blk_cell h 0).trans rfl, (blk_cell h 1).trans rfl, (blk_cell h 2).trans rfl⟩
theorem grown_ww {w : World} {st ar : Array Value} {W W' : World} {g : Nat} (h : WtW w st ar W) (hg : W.grownBy W' (some g)) (hge : w.heap.size + 2 ≤ g) (hb : Below w.heap.size w W') : WtW w st ar W' :=
  ⟨hb, (hg.block _ (blk_lt h.s) (by simp; omega)).trans h.s, (hg.block _ (blk_lt h.a) (by simp; omega)).trans h.a⟩
set_option maxHeartbeats 8000000 in
set_option maxRecDepth 100000 in
theorem sleuthlaw25_weighted.calls (k : Nat) (A0 : Option Addr) (c0 : Nat) (l0 : List S104) (o1 o2 o3 o4 : Int) (A5 : Option Addr) (c5 : Nat) (l5 : List S193) (wg a b c : Int) (r : List S53) (w : World)
    (hr0 : Kd.C k104 w A0 l0.length l0) (hc0 : l0.length ≤ c0) (hr5 : Kd.C k193 w A5 l5.length l5) (hc5 : l5.length ≤ c5) (h : sleuthlaw25_weighted.f k l0 o1 o2 o3 o4 l5 wg a b c = some r) :
    Calls Try.prog 13 #[.agg #[.slice A0 l0.length c0, .int .i8 o1, .int .i8 o2, .int .i8 o3, .int .i8 o4, .slice A5 l5.length c5, .int .u8 wg], .agg #[.int .u8 a, .int .u8 b, .int .u8 c]] w fun e w' =>
      ∃ v0_ : Value, e = .returned v0_ ∧ Kd.N k53 53 w' w.heap.size (fun k => w.heap.size ≤ k) v0_ r ∧ Below w.heap.size w w' := by
  obtain ⟨s, hs, h⟩ := Option.bind_eq_some_iff.1 h
  have HS := Aside0.mk hs
  have HR0 := Aside0.mk hr0
  have HR5 := Aside0.mk hr5
  have HC0 := Aside0.mk hc0
  have HC5 := Aside0.mk hc5
  have H0 := Aside0.mk h
  clear h hs hr0 hr5 hc0 hc5
  have hu27 := Try.underlying27
  have hu53 := Try.underlying53
  have hu28 := Try.underlying28
  have hinf : (Try.prog.info? 3).map (·.size) = some 1 := by kernel_rfl
  go_enter Try.func13, Try.ntmps13
  go_upto_region 0 with (fail)
  go_cut [2, 3, 4] (fun v2 v3 v4 we => v2 = .pointer (some ⟨w.heap.size, 0, none⟩) ∧ v3 = .pointer (some ⟨w.heap.size + 1, 0, none⟩) ∧ v4 = .slice none 0 0 ∧ Aside0 (WtW w (stCells A0 c0 l0 o1 o2 o3 o4 A5 c5 l5 wg) #[.int .u8 a, .int .u8 b, .int .u8 c] we))
  case first =>
    go_wp2
    go_meet
    case rel =>
      refine ⟨rfl, rfl, rfl, ⟨below_alloc (below_alloc (Below.refl _ _) _) _, blk_alloc (blk_new _ _) _, ?_⟩⟩
      have := blk_new (w.alloc (.cells (stCells A0 c0 l0 o1 o2 o3 o4 A5 c5 l5 wg) 27 (0, 0))) (.cells #[.int .u8 a, .int .u8 b, .int .u8 c] 28 (0, 0))
      rw [show (w.alloc (.cells (stCells A0 c0 l0 o1 o2 o3 o4 A5 c5 l5 wg) 27 (0, 0))).heap.size = w.heap.size + 1 by show (w.heap.push _).size = _; rw [Array.size_push]] at this
      exact this
  case rest =>
    obtain ⟨rfl, rfl, rfl, HW0⟩ := hcut
    obtain ⟨b0, b1, b2, b3, b4, b5, b6⟩ := st_cells HW0.out.s
    cases s with
    | false =>
      obtain rfl : r = [] := by have := H0.out; simpa using this.symm
      go_wp2_with (go_at_call 16; (with_reducible refine (sleuthlaw13_Short.calls k _ _ l0 o1 o2 o3 o4 _ _ l5 wg false _ ?x1 ?x2 ?x3 ?x4 HS.out).mono ?_); (case x1 => exact Kd.C_below HR0.out HW0.out.b); (case x2 => exact HC0.out); (case x3 => exact Kd.C_below HR5.out HW0.out.b); (case x4 => exact HC5.out); rintro e w' ⟨rfl, hb⟩; have HW1 := Aside0.mk (HW0.out.move hb); clear hb)
      go_ret
      exact ⟨_, rfl, Kd.N_nil _ _ _ _ _, HW1.out.b⟩
    | true =>
      obtain ⟨l, hl, h⟩ := Option.bind_eq_some_iff.1 (show (sleuthlaw13_Traces.f k l0 o1 o2 o3 o4 l5 wg).bind (fun l => wtGo a b c k 0 l) = some r from H0.out)
      have HL := Aside0.mk hl
      have HG := Aside0.mk h
      clear hl h H0
      go_upto_region 3 with (go_at_call 16; (with_reducible refine (sleuthlaw13_Short.calls k _ _ l0 o1 o2 o3 o4 _ _ l5 wg true _ ?x1 ?x2 ?x3 ?x4 HS.out).mono ?_); (case x1 => exact Kd.C_below HR0.out HW0.out.b); (case x2 => exact HC0.out); (case x3 => exact Kd.C_below HR5.out HW0.out.b); (case x4 => exact HC5.out); rintro e w' ⟨rfl, hb⟩; have HW1 := Aside0.mk (HW0.out.move hb); clear hb)
      go_cut [5] (fun v5 we => Aside0 (WtW w (stCells A0 c0 l0 o1 o2 o3 o4 A5 c5 l5 wg) #[.int .u8 a, .int .u8 b, .int .u8 c] we) ∧ Aside0 (Kd.N k53 53 we w.heap.size (fun k => w.heap.size + 2 ≤ k) v5 l))
      case first =>
        clear b0 b1 b2 b3 b4 b5 b6
        obtain ⟨b0, b1, b2, b3, b4, b5, b6⟩ := st_cells HW1.out.s
        go_wp2_with (go_at_call 17; (with_reducible refine (sleuthlaw13_Traces.calls k _ _ l0 o1 o2 o3 o4 _ _ l5 wg l _ ?x1 ?x2 ?x3 ?x4 HL.out).mono ?_); (case x1 => exact Kd.C_below HR0.out HW1.out.b); (case x2 => exact HC0.out); (case x3 => exact Kd.C_below HR5.out HW1.out.b); (case x4 => exact HC5.out); rintro e w' ⟨v5, rfl, hn, hb⟩; have HN := Aside0.mk hn; have HW2 := Aside0.mk (HW1.out.move hb); clear hn hb)
        go_meet
        case rel =>
          have hs2 : w.heap.size + 2 ≤ _ := blk_lt HW1.out.a
          exact ⟨HW2, ⟨Kd.N_lower (Kd.N_mono HN.out (fun k hk => Nat.le_trans hs2 hk)) (by omega)⟩⟩
      case rest =>
        obtain ⟨HW2, HN⟩ := hcut
        clear HW1 HW0 b0 b1 b2 b3 b4 b5 b6
        obtain ⟨A, cap, rfl⟩ := Kd.N_slice HN.out
        obtain ⟨n, hn⟩ : ∃ n, n = l.length := ⟨_, rfl⟩
        rw [← hn] at HN ⊢
        clear hn
        go_wp2
        go_loopg [6] k (fun kq v6 wr => ∃ (l : List S53) (i : Int), v6 = .int .i64 i ∧ Aside0 (Kd.N k53 53 wr w.heap.size (fun k => w.heap.size + 2 ≤ k) (.slice A n cap) l) ∧ Aside0 (WtW w (stCells A0 c0 l0 o1 o2 o3 o4 A5 c5 l5 wg) #[.int .u8 a, .int .u8 b, .int .u8 c] wr) ∧ Aside0 (wtGo a b c kq i l = some r))
        case atStart => exact ⟨l, 0, rfl, HN, HW2, HG⟩
        case round =>
          clear HG HN HL
          obtain ⟨l, i, rfl, HN, HW, HH⟩ := hrel
          cases gk with
          | zero => exact absurd HH.out (by simp [wtGo])
          | succ gk =>
          have H := HH.out
          clear HH
          simp only [wtGo] at H
          obtain rfl := (Kd.N_reads' HN.out).1
          by_cases hi : i < (l.length : Int)
          · rw [if_pos hi] at H
            have hib := decide_eq_true hi
            split at H
            case isFalse => cases H
            rename_i hc
            obtain ⟨h0, hm⟩ := hc
            obtain ⟨g, cap', he, hg1, hg2, _⟩ := Kd.N_form HN.out (by omega)
            injection he with e1 _ e3
            subst e1 e3
            have HNX := Aside0.mk H
            clear H
            obtain ⟨ar0, ar1, ar2⟩ := ar_cells HW.out.a
            obtain ⟨cc, hcl, hFK, hcc, hfr⟩ := Kd.N_elem HN.out z53 i h0 hi
            obtain ⟨A2, c2, rfl, hl2, hF2⟩ := k53_openF hFK
            have HCC := Aside0.mk hcc
            have HL2 := Aside0.mk hl2
            have HF2 := Aside0.mk hF2
            have H0I := Aside0.mk h0
            have HIN := Aside0.mk hi
            have HGE := Aside0.mk (HN.out.1 g (by simp [Value.ownBlock]))
            have d0 := eq_true h0
            have d1 := eq_true hi
            clear hcc hl2 hF2 hFK hcl hfr
            obtain ⟨HNX⟩ := HNX
            rcases hm with hm | hm | hm
            · have hE : wtAt a b c i = wrap64 (1 + wrap64 (Int.tmod a 16)) := by unfold wtAt; rw [if_pos hm]
              rw [hE] at HNX
              have HNX := Aside0.mk HNX
              clear hE
              go_wp2_with ((with_reducible refine gate_store (t := 3) (p := 28) rfl ?_); refine Kd.N_store k53 (w0 := w) (o' := i.toNat * 3 + 1) w.heap.size rfl rfl 3 (.tmp 28) (.tmp 26) rfl 53 i 1 l ⟨(rd_T53 l i).f0, wrap64 (1 + wrap64 (Int.tmod a 16)), (rd_T53 l i).f2⟩ (.int .i64 (wrap64 (1 + wrap64 (Int.tmod a 16)))) [.int .i64 (wrap64 (1 + wrap64 (Int.tmod a 16)))] [.int .i64 (rd_T53 l i).f0, .int .i64 (rd_T53 l i).f1, .slice A2 (rd_T53 l i).f2.length c2] (fun k => w.heap.size + 2 ≤ k) (fun k => w.heap.size + 2 ≤ k ∧ k ≠ g) ?aA rfl ?aX rfl hinf (fun q hq => by rw [List.mem_singleton.1 hq]; rfl) HN.out H0I.out HIN.out rfl HCC.out (show (2 : Nat) ≤ 3 by decide) (k53_mkF _ _ (⟨(rd_T53 l i).f0, wrap64 (1 + wrap64 (Int.tmod a 16)), (rd_T53 l i).f2⟩ : S53) HL2.out HF2.out) (fun k hk => hk) HW.out.b ?_; (case aA => first | rfl | (go_simp; done) | (go_simp; rfl)); (case aX => first | rfl | (go_simp; done) | (go_simp; rfl)); intro w1 hn hb hg; have HN2 := Aside0.mk hn; have HW2 := Aside0.mk (grown_ww HW.out hg HGE.out hb); clear hn hb hg)
              go_roundg gk
              case measure => omega
              case rel => exact ⟨setW l i (wrap64 (1 + wrap64 (Int.tmod a 16))), wrap64 (i + 1), rfl, HN2, HW2, HNX⟩
            · have hE : wtAt a b c i = wrap64 (1 + wrap64 (Int.tmod b 16)) := by unfold wtAt; rw [if_neg (by omega), if_pos hm]
              rw [hE] at HNX
              have HNX := Aside0.mk HNX
              clear hE
              go_wp2_with ((with_reducible refine gate_store (t := 3) (p := 28) rfl ?_); refine Kd.N_store k53 (w0 := w) (o' := i.toNat * 3 + 1) w.heap.size rfl rfl 3 (.tmp 28) (.tmp 26) rfl 53 i 1 l ⟨(rd_T53 l i).f0, wrap64 (1 + wrap64 (Int.tmod b 16)), (rd_T53 l i).f2⟩ (.int .i64 (wrap64 (1 + wrap64 (Int.tmod b 16)))) [.int .i64 (wrap64 (1 + wrap64 (Int.tmod b 16)))] [.int .i64 (rd_T53 l i).f0, .int .i64 (rd_T53 l i).f1, .slice A2 (rd_T53 l i).f2.length c2] (fun k => w.heap.size + 2 ≤ k) (fun k => w.heap.size + 2 ≤ k ∧ k ≠ g) ?aA rfl ?aX rfl hinf (fun q hq => by rw [List.mem_singleton.1 hq]; rfl) HN.out H0I.out HIN.out rfl HCC.out (show (2 : Nat) ≤ 3 by decide) (k53_mkF _ _ (⟨(rd_T53 l i).f0, wrap64 (1 + wrap64 (Int.tmod b 16)), (rd_T53 l i).f2⟩ : S53) HL2.out HF2.out) (fun k hk => hk) HW.out.b ?_; (case aA => first | rfl | (go_simp; done) | (go_simp; rfl)); (case aX => first | rfl | (go_simp; done) | (go_simp; rfl)); intro w1 hn hb hg; have HN2 := Aside0.mk hn; have HW2 := Aside0.mk (grown_ww HW.out hg HGE.out hb); clear hn hb hg)
              go_roundg gk
              case measure => omega
              case rel => exact ⟨setW l i (wrap64 (1 + wrap64 (Int.tmod b 16))), wrap64 (i + 1), rfl, HN2, HW2, HNX⟩
            · have hE : wtAt a b c i = wrap64 (1 + wrap64 (Int.tmod c 16)) := by unfold wtAt; rw [if_neg (by omega), if_neg (by omega)]
              rw [hE] at HNX
              have HNX := Aside0.mk HNX
              clear hE
              go_wp2_with ((with_reducible refine gate_store (t := 3) (p := 28) rfl ?_); refine Kd.N_store k53 (w0 := w) (o' := i.toNat * 3 + 1) w.heap.size rfl rfl 3 (.tmp 28) (.tmp 26) rfl 53 i 1 l ⟨(rd_T53 l i).f0, wrap64 (1 + wrap64 (Int.tmod c 16)), (rd_T53 l i).f2⟩ (.int .i64 (wrap64 (1 + wrap64 (Int.tmod c 16)))) [.int .i64 (wrap64 (1 + wrap64 (Int.tmod c 16)))] [.int .i64 (rd_T53 l i).f0, .int .i64 (rd_T53 l i).f1, .slice A2 (rd_T53 l i).f2.length c2] (fun k => w.heap.size + 2 ≤ k) (fun k => w.heap.size + 2 ≤ k ∧ k ≠ g) ?aA rfl ?aX rfl hinf (fun q hq => by rw [List.mem_singleton.1 hq]; rfl) HN.out H0I.out HIN.out rfl HCC.out (show (2 : Nat) ≤ 3 by decide) (k53_mkF _ _ (⟨(rd_T53 l i).f0, wrap64 (1 + wrap64 (Int.tmod c 16)), (rd_T53 l i).f2⟩ : S53) HL2.out HF2.out) (fun k hk => hk) HW.out.b ?_; (case aA => first | rfl | (go_simp; done) | (go_simp; rfl)); (case aX => first | rfl | (go_simp; done) | (go_simp; rfl)); intro w1 hn hb hg; have HN2 := Aside0.mk hn; have HW2 := Aside0.mk (grown_ww HW.out hg HGE.out hb); clear hn hb hg)
              go_roundg gk
              case measure => omega
              case rel => exact ⟨setW l i (wrap64 (1 + wrap64 (Int.tmod c 16))), wrap64 (i + 1), rfl, HN2, HW2, HNX⟩
          · rw [if_neg hi] at H
            have hib := decide_eq_false hi
            obtain rfl := Option.some.inj H
            clear hi
            go_wp2
            go_ret
            exact ⟨_, rfl, Kd.N_mono HN.out (fun k hk => by omega), HW.out.b⟩
end Go.Proofs.Ythdifdnjodbdnaa.Q
