/- sleuthlaw13.made, by hand. -/
import Derived.Test.YthdifdnjodbdnaaQgL13
namespace Go.Proofs.Ythdifdnjodbdnaa.Q
open Go.RowKit Go.Proofs.YthdifdnjodbdnaaW.PrintWords Go.Proofs.YthdifdnjodbdnaaW.PrintLast Go.Proofs.YthdifdnjodbdnaaW.PrintMore
set_option linter.unusedVariables false
set_option linter.unusedSimpArgs false
set_option linter.unusedSimpArgs false
abbrev sSvc : List ByteArray := [⟨#[97, 112, 105]⟩, ⟨#[100, 98]⟩, ⟨#[119, 101, 98]⟩, ⟨#[99, 97, 99, 104, 101]⟩]
abbrev sVer : List ByteArray := [⟨#[118, 49]⟩, ⟨#[118, 50]⟩, ⟨#[]⟩]
abbrev sOp : List ByteArray := [⟨#[103, 101, 116]⟩, ⟨#[112, 117, 116]⟩, ⟨#[108, 105, 115, 116]⟩]
/-- The parent of a call: its index, perhaps the call's own. -/
def parOf (c : S153) (a2 : Int) : Int := Int.tmod (wrap64 c.f0) (wrap64 (a2 + 1))
def parIdOf (c : S153) (a2 : Int) : Int := if parOf c a2 < a2 then wrap64 (parOf c a2 + 1) else if a2 > 0 then 100 else 0
def linkOf (c : S153) : Int := wrap64 (Int.tmod c.f8 16)
/-- Whether a call has a link. -/
def lnkB (c : S153) (a2 : Int) (l3 : List Int) : Bool := decide (linkOf c < a2) && decide (rd l3 (linkOf c) ≤ rd l3 a2)
def lnkL (tid : Int) (c : S153) (a2 : Int) (l3 : List Int) : List S146 := if lnkB c a2 l3 = true then [⟨tid, wrap64 (linkOf c + 1)⟩] else []
/-- The story's cells, as its functions are handed them. -/
def stCells (A0 : Option Addr) (c0 : Nat) (l0 : List S104) (o1 o2 o3 o4 : Int) (A5 : Option Addr) (c5 : Nat) (l5 : List S193) (wr : Int) : Array Value := #[.slice A0 l0.length c0, .int .i8 o1, .int .i8 o2, .int .i8 o3, .int .i8 o4, .slice A5 l5.length c5, .int .u8 wr]
def clCells (c : S153) : Array Value := #[.int .u8 c.f0, .int .u8 c.f1, .int .u8 c.f2, .int .u8 c.f3, .int .u8 c.f4, .int .u8 c.f5, .int .u8 c.f6, .int .u8 c.f7, .int .u8 c.f8, .int .u8 c.f9, .bool c.f10]
abbrev z58c : Array Value := #[.int .i64 0, .int .i64 0, .int .i64 0, .int .i64 0, .int .i64 0, .int .i64 0, .string ⟨#[]⟩, .string ⟨#[]⟩, .string ⟨#[]⟩, .int .i64 0, .int .i64 0, .bool false, .slice none 0 0, .slice none 0 0]
theorem sz2M (w : World) (o1 o2 : Obj) : ((w.alloc o1).alloc o2).heap.size = w.heap.size + 2 := by
  show ((w.heap.push o1).push o2).size = _
  rw [Array.size_push, Array.size_push]
abbrev sp14 (t id par rev clk kd : Int) (s v o : ByteArray) (st en : Int) (er : Bool) (va vl : Value) : Array Value := #[.int .i64 t, .int .i64 id, .int .i64 par, .int .i64 rev, .int .i64 clk, .int .i64 kd, .string s, .string v, .string o, .int .i64 st, .int .i64 en, .bool er, va, vl]
section
variable {W : World} {g : Nat}
theorem st_cells {A0 : Option Addr} {c0 : Nat} {l0 : List S104} {o1 o2 o3 o4 : Int} {A5 : Option Addr} {c5 : Nat} {l5 : List S193} {wr : Int} (h : W.heap[g]? = some (.cells (stCells A0 c0 l0 o1 o2 o3 o4 A5 c5 l5 wr) 27 (0, 0))) :
    W.cell? ⟨g, 0, none⟩ = some (.slice A0 l0.length c0) ∧ W.cell? ⟨g, 1, none⟩ = some (.int .i8 o1) ∧ W.cell? ⟨g, 2, none⟩ = some (.int .i8 o2) ∧ W.cell? ⟨g, 3, none⟩ = some (.int .i8 o3) ∧ W.cell? ⟨g, 4, none⟩ = some (.int .i8 o4) ∧ W.cell? ⟨g, 5, none⟩ = some (.slice A5 l5.length c5) ∧ W.cell? ⟨g, 6, none⟩ = some (.int .u8 wr) :=
  ⟨(blk_cell h 0).trans rfl, (blk_cell h 1).trans rfl, (blk_cell h 2).trans rfl, (blk_cell h 3).trans rfl, (blk_cell h 4).trans rfl, (blk_cell h 5).trans rfl, (blk_cell h 6).trans rfl⟩
theorem z_cells (h : W.heap[g]? = some (.cells z58c 58 (0, 0))) : (W.cell? ⟨g, 0, none⟩ = some (.int .i64 0) ∧ W.frozen? ⟨g, 0, none⟩ = false) ∧ (W.cell? ⟨g, 1, none⟩ = some (.int .i64 0) ∧ W.frozen? ⟨g, 1, none⟩ = false) ∧ (W.cell? ⟨g, 2, none⟩ = some (.int .i64 0) ∧ W.frozen? ⟨g, 2, none⟩ = false) ∧ (W.cell? ⟨g, 3, none⟩ = some (.int .i64 0) ∧ W.frozen? ⟨g, 3, none⟩ = false) ∧ (W.cell? ⟨g, 4, none⟩ = some (.int .i64 0) ∧ W.frozen? ⟨g, 4, none⟩ = false) ∧ (W.cell? ⟨g, 5, none⟩ = some (.int .i64 0) ∧ W.frozen? ⟨g, 5, none⟩ = false) ∧ (W.cell? ⟨g, 6, none⟩ = some (.string ⟨#[]⟩) ∧ W.frozen? ⟨g, 6, none⟩ = false) ∧ (W.cell? ⟨g, 7, none⟩ = some (.string ⟨#[]⟩) ∧ W.frozen? ⟨g, 7, none⟩ = false) ∧ (W.cell? ⟨g, 8, none⟩ = some (.string ⟨#[]⟩) ∧ W.frozen? ⟨g, 8, none⟩ = false) ∧ (W.cell? ⟨g, 9, none⟩ = some (.int .i64 0) ∧ W.frozen? ⟨g, 9, none⟩ = false) ∧ (W.cell? ⟨g, 10, none⟩ = some (.int .i64 0) ∧ W.frozen? ⟨g, 10, none⟩ = false) ∧ (W.cell? ⟨g, 11, none⟩ = some (.bool false) ∧ W.frozen? ⟨g, 11, none⟩ = false) ∧ (W.cell? ⟨g, 12, none⟩ = some (.slice none 0 0) ∧ W.frozen? ⟨g, 12, none⟩ = false) ∧ (W.cell? ⟨g, 13, none⟩ = some (.slice none 0 0) ∧ W.frozen? ⟨g, 13, none⟩ = false) :=
  ⟨⟨(blk_cell h 0).trans rfl, blk_frozen h 0⟩, ⟨(blk_cell h 1).trans rfl, blk_frozen h 1⟩, ⟨(blk_cell h 2).trans rfl, blk_frozen h 2⟩, ⟨(blk_cell h 3).trans rfl, blk_frozen h 3⟩, ⟨(blk_cell h 4).trans rfl, blk_frozen h 4⟩, ⟨(blk_cell h 5).trans rfl, blk_frozen h 5⟩, ⟨(blk_cell h 6).trans rfl, blk_frozen h 6⟩, ⟨(blk_cell h 7).trans rfl, blk_frozen h 7⟩, ⟨(blk_cell h 8).trans rfl, blk_frozen h 8⟩, ⟨(blk_cell h 9).trans rfl, blk_frozen h 9⟩, ⟨(blk_cell h 10).trans rfl, blk_frozen h 10⟩, ⟨(blk_cell h 11).trans rfl, blk_frozen h 11⟩, ⟨(blk_cell h 12).trans rfl, blk_frozen h 12⟩, ⟨(blk_cell h 13).trans rfl, blk_frozen h 13⟩⟩
theorem put14 (h : W.heap[g]? = some (.cells z58c 58 (0, 0))) (v0 v1 v2 v3 v4 v5 v6 v7 v8 v9 v10 v11 v12 v13 : Value) : ((((((((((((((W.setCell ⟨g, 0, none⟩ v0).setCell ⟨g, 1, none⟩ v1).setCell ⟨g, 2, none⟩ v2).setCell ⟨g, 3, none⟩ v3).setCell ⟨g, 4, none⟩ v4).setCell ⟨g, 5, none⟩ v5).setCell ⟨g, 6, none⟩ v6).setCell ⟨g, 7, none⟩ v7).setCell ⟨g, 8, none⟩ v8).setCell ⟨g, 9, none⟩ v9).setCell ⟨g, 10, none⟩ v10).setCell ⟨g, 11, none⟩ v11).setCell ⟨g, 12, none⟩ v12).setCell ⟨g, 13, none⟩ v13).heap[g]? = some (.cells #[v0, v1, v2, v3, v4, v5, v6, v7, v8, v9, v10, v11, v12, v13] 58 (0, 0)) := by
  have h0 := blk_put (cs' := #[v0, .int .i64 0, .int .i64 0, .int .i64 0, .int .i64 0, .int .i64 0, .string ⟨#[]⟩, .string ⟨#[]⟩, .string ⟨#[]⟩, .int .i64 0, .int .i64 0, .bool false, .slice none 0 0, .slice none 0 0]) h 0 v0 rfl
  have h1 := blk_put (cs' := #[v0, v1, .int .i64 0, .int .i64 0, .int .i64 0, .int .i64 0, .string ⟨#[]⟩, .string ⟨#[]⟩, .string ⟨#[]⟩, .int .i64 0, .int .i64 0, .bool false, .slice none 0 0, .slice none 0 0]) h0 1 v1 rfl
  have h2 := blk_put (cs' := #[v0, v1, v2, .int .i64 0, .int .i64 0, .int .i64 0, .string ⟨#[]⟩, .string ⟨#[]⟩, .string ⟨#[]⟩, .int .i64 0, .int .i64 0, .bool false, .slice none 0 0, .slice none 0 0]) h1 2 v2 rfl
  have h3 := blk_put (cs' := #[v0, v1, v2, v3, .int .i64 0, .int .i64 0, .string ⟨#[]⟩, .string ⟨#[]⟩, .string ⟨#[]⟩, .int .i64 0, .int .i64 0, .bool false, .slice none 0 0, .slice none 0 0]) h2 3 v3 rfl
  have h4 := blk_put (cs' := #[v0, v1, v2, v3, v4, .int .i64 0, .string ⟨#[]⟩, .string ⟨#[]⟩, .string ⟨#[]⟩, .int .i64 0, .int .i64 0, .bool false, .slice none 0 0, .slice none 0 0]) h3 4 v4 rfl
  have h5 := blk_put (cs' := #[v0, v1, v2, v3, v4, v5, .string ⟨#[]⟩, .string ⟨#[]⟩, .string ⟨#[]⟩, .int .i64 0, .int .i64 0, .bool false, .slice none 0 0, .slice none 0 0]) h4 5 v5 rfl
  have h6 := blk_put (cs' := #[v0, v1, v2, v3, v4, v5, v6, .string ⟨#[]⟩, .string ⟨#[]⟩, .int .i64 0, .int .i64 0, .bool false, .slice none 0 0, .slice none 0 0]) h5 6 v6 rfl
  have h7 := blk_put (cs' := #[v0, v1, v2, v3, v4, v5, v6, v7, .string ⟨#[]⟩, .int .i64 0, .int .i64 0, .bool false, .slice none 0 0, .slice none 0 0]) h6 7 v7 rfl
  have h8 := blk_put (cs' := #[v0, v1, v2, v3, v4, v5, v6, v7, v8, .int .i64 0, .int .i64 0, .bool false, .slice none 0 0, .slice none 0 0]) h7 8 v8 rfl
  have h9 := blk_put (cs' := #[v0, v1, v2, v3, v4, v5, v6, v7, v8, v9, .int .i64 0, .bool false, .slice none 0 0, .slice none 0 0]) h8 9 v9 rfl
  have h10 := blk_put (cs' := #[v0, v1, v2, v3, v4, v5, v6, v7, v8, v9, v10, .bool false, .slice none 0 0, .slice none 0 0]) h9 10 v10 rfl
  have h11 := blk_put (cs' := #[v0, v1, v2, v3, v4, v5, v6, v7, v8, v9, v10, v11, .slice none 0 0, .slice none 0 0]) h10 11 v11 rfl
  have h12 := blk_put (cs' := #[v0, v1, v2, v3, v4, v5, v6, v7, v8, v9, v10, v11, v12, .slice none 0 0]) h11 12 v12 rfl
  have h13 := blk_put (cs' := #[v0, v1, v2, v3, v4, v5, v6, v7, v8, v9, v10, v11, v12, v13]) h12 13 v13 rfl
  exact h13
theorem sp_cells {t id par rev clk kd : Int} {s v o : ByteArray} {st en : Int} {er : Bool} {va vl : Value} (h : W.heap[g]? = some (.cells (sp14 t id par rev clk kd s v o st en er va vl) 58 (0, 0))) : W.cell? ⟨g, 0, none⟩ = some (.int .i64 t) ∧ W.cell? ⟨g, 1, none⟩ = some (.int .i64 id) ∧ W.cell? ⟨g, 2, none⟩ = some (.int .i64 par) ∧ W.cell? ⟨g, 3, none⟩ = some (.int .i64 rev) ∧ W.cell? ⟨g, 4, none⟩ = some (.int .i64 clk) ∧ W.cell? ⟨g, 5, none⟩ = some (.int .i64 kd) ∧ W.cell? ⟨g, 6, none⟩ = some (.string s) ∧ W.cell? ⟨g, 7, none⟩ = some (.string v) ∧ W.cell? ⟨g, 8, none⟩ = some (.string o) ∧ W.cell? ⟨g, 9, none⟩ = some (.int .i64 st) ∧ W.cell? ⟨g, 10, none⟩ = some (.int .i64 en) ∧ W.cell? ⟨g, 11, none⟩ = some (.bool er) ∧ W.cell? ⟨g, 12, none⟩ = some (va) ∧ W.cell? ⟨g, 13, none⟩ = some (vl) :=
  ⟨(blk_cell h 0).trans rfl, (blk_cell h 1).trans rfl, (blk_cell h 2).trans rfl, (blk_cell h 3).trans rfl, (blk_cell h 4).trans rfl, (blk_cell h 5).trans rfl, (blk_cell h 6).trans rfl, (blk_cell h 7).trans rfl, (blk_cell h 8).trans rfl, (blk_cell h 9).trans rfl, (blk_cell h 10).trans rfl, (blk_cell h 11).trans rfl, (blk_cell h 12).trans rfl, (blk_cell h 13).trans rfl⟩
theorem Rput14 {α : Type} {d : Kd α} {e base : Nat} {ok ok' : Nat → Prop} {v : Value} {xs : List α} {v0 v1 v2 v3 v4 v5 v6 v7 v8 v9 v10 v11 v12 v13 : Value} (hok : ∀ k, ok k → k ≠ g) (h : d.R e W base ok v xs) (h' : ∀ k, ok k → ok' k) : d.R e ((((((((((((((W.setCell ⟨g, 0, none⟩ v0).setCell ⟨g, 1, none⟩ v1).setCell ⟨g, 2, none⟩ v2).setCell ⟨g, 3, none⟩ v3).setCell ⟨g, 4, none⟩ v4).setCell ⟨g, 5, none⟩ v5).setCell ⟨g, 6, none⟩ v6).setCell ⟨g, 7, none⟩ v7).setCell ⟨g, 8, none⟩ v8).setCell ⟨g, 9, none⟩ v9).setCell ⟨g, 10, none⟩ v10).setCell ⟨g, 11, none⟩ v11).setCell ⟨g, 12, none⟩ v12).setCell ⟨g, 13, none⟩ v13) base ok' v xs :=
  Kd.R_mono (Kd.R_far (p := ⟨g, 13, none⟩) (Kd.R_far (p := ⟨g, 12, none⟩) (Kd.R_far (p := ⟨g, 11, none⟩) (Kd.R_far (p := ⟨g, 10, none⟩) (Kd.R_far (p := ⟨g, 9, none⟩) (Kd.R_far (p := ⟨g, 8, none⟩) (Kd.R_far (p := ⟨g, 7, none⟩) (Kd.R_far (p := ⟨g, 6, none⟩) (Kd.R_far (p := ⟨g, 5, none⟩) (Kd.R_far (p := ⟨g, 4, none⟩) (Kd.R_far (p := ⟨g, 3, none⟩) (Kd.R_far (p := ⟨g, 2, none⟩) (Kd.R_far (p := ⟨g, 1, none⟩) (Kd.R_far (p := ⟨g, 0, none⟩) h hok v0) hok v1) hok v2) hok v3) hok v4) hok v5) hok v6) hok v7) hok v8) hok v9) hok v10) hok v11) hok v12) hok v13) h'
theorem below14 {w : World} (h : Below w.heap.size w W) (hg : w.heap.size ≤ g) (v0 v1 v2 v3 v4 v5 v6 v7 v8 v9 v10 v11 v12 v13 : Value) : Below w.heap.size w ((((((((((((((W.setCell ⟨g, 0, none⟩ v0).setCell ⟨g, 1, none⟩ v1).setCell ⟨g, 2, none⟩ v2).setCell ⟨g, 3, none⟩ v3).setCell ⟨g, 4, none⟩ v4).setCell ⟨g, 5, none⟩ v5).setCell ⟨g, 6, none⟩ v6).setCell ⟨g, 7, none⟩ v7).setCell ⟨g, 8, none⟩ v8).setCell ⟨g, 9, none⟩ v9).setCell ⟨g, 10, none⟩ v10).setCell ⟨g, 11, none⟩ v11).setCell ⟨g, 12, none⟩ v12).setCell ⟨g, 13, none⟩ v13) := (below_set (below_set (below_set (below_set (below_set (below_set (below_set (below_set (below_set (below_set (below_set (below_set (below_set (below_set h hg) hg) hg) hg) hg) hg) hg) hg) hg) hg) hg) hg) hg) hg)
theorem cl_cells {c : S153} (h : W.heap[g]? = some (.cells (clCells c) 153 (0, 0))) :
    W.cell? ⟨g, 0, none⟩ = some (.int .u8 c.f0) ∧ W.cell? ⟨g, 1, none⟩ = some (.int .u8 c.f1) ∧ W.cell? ⟨g, 2, none⟩ = some (.int .u8 c.f2) ∧ W.cell? ⟨g, 3, none⟩ = some (.int .u8 c.f3) ∧ W.cell? ⟨g, 4, none⟩ = some (.int .u8 c.f4) ∧ W.cell? ⟨g, 5, none⟩ = some (.int .u8 c.f5) ∧ W.cell? ⟨g, 6, none⟩ = some (.int .u8 c.f6) ∧ W.cell? ⟨g, 7, none⟩ = some (.int .u8 c.f7) ∧ W.cell? ⟨g, 8, none⟩ = some (.int .u8 c.f8) ∧ W.cell? ⟨g, 9, none⟩ = some (.int .u8 c.f9) ∧ W.cell? ⟨g, 10, none⟩ = some (.bool c.f10) :=
  ⟨(blk_cell h 0).trans rfl, (blk_cell h 1).trans rfl, (blk_cell h 2).trans rfl, (blk_cell h 3).trans rfl, (blk_cell h 4).trans rfl, (blk_cell h 5).trans rfl, (blk_cell h 6).trans rfl, (blk_cell h 7).trans rfl, (blk_cell h 8).trans rfl, (blk_cell h 9).trans rfl, (blk_cell h 10).trans rfl⟩
end
theorem lit146 {W : World} {base : Nat} {ok : Nat → Prop} {t j : Int} (hb : base ≤ W.heap.size) (hok : ok W.heap.size) : Kd.R k146 146 (W.alloc (.cells #[.int .i64 t, .int .i64 j] 146)) base ok (.slice (some ⟨W.heap.size, 0, none⟩) 1 1) [⟨t, j⟩] := by
  refine ⟨fun k hk => ?_, OwnRow.lit W base (inner := [.int .i64 t, .int .i64 j]) (ps := [(⟨t, j⟩ : S146)]) ⟨rfl, fun i p hi => ?_⟩ hb (by show (1 : Nat) ≤ _; omega)⟩
  · have : W.heap.size = k := by simpa [Value.ownBlock] using hk
    exact this ▸ hok
  · match i, hi with
    | 0, hi =>
      obtain rfl : (⟨t, j⟩ : S146) = p := by simpa using hi
      exact k146_mkM _ _ _ _
    | i + 1, hi => simp at hi
/-- A world of made's: its boxes. -/
structure MW (w : World) (st cl : Array Value) (W : World) : Prop where
  b : Below w.heap.size w W
  s : W.heap[w.heap.size]? = some (.cells st 27 (0, 0))
  z : W.heap[w.heap.size + 1]? = some (.cells z58c 58 (0, 0))
  c : W.heap[w.heap.size + 2]? = some (.cells cl 153 (0, 0))
theorem MW.move {w : World} {st cl : Array Value} {W W' : World} (h : MW w st cl W) (hb : Below W.heap.size W W') : MW w st cl W' := ⟨below_step h.b hb, blk_below h.s hb, blk_below h.z hb, blk_below h.c hb⟩
theorem MW.put {w : World} {st cl : Array Value} {W : World} (h : MW w st cl W) {g : Nat} (hg : w.heap.size + 3 ≤ g) (i : Nat) (v : Value) : MW w st cl (W.setCell ⟨g, i, none⟩ v) :=
  ⟨h.b.setCell (Nat.le_trans (Nat.le_add_right _ 3) hg) _, blk_far h.s (by show w.heap.size ≠ g; omega) _, blk_far h.z (by show w.heap.size + 1 ≠ g; omega) _, blk_far h.c (by show w.heap.size + 2 ≠ g; omega) _⟩
set_option maxHeartbeats 4000000 in
set_option maxRecDepth 100000 in
theorem made_calls (A0 : Option Addr) (c0 : Nat) (l0 : List S104) (o1 o2 o3 o4 : Int) (A5 : Option Addr) (c5 : Nat) (l5 : List S193) (wr : Int) (a1 a2 : Int) (A3 : Option Addr) (c3 : Nat) (l3 : List Int) (A4 : Option Addr) (c4 : Nat) (l4 : List Int) (w : World)
    (hr0 : Kd.C k104 w A0 l0.length l0) (hc0 : l0.length ≤ c0) (hr5 : Kd.C k193 w A5 l5.length l5) (hc5 : l5.length ≤ c5) (hr3 : Kd.C (Kd.int .i64) w A3 l3.length l3) (hc3 : l3.length ≤ c3) (hr4 : Kd.C (Kd.int .i64) w A4 l4.length l4) (hc4 : l4.length ≤ c4)
    (h1 : 0 ≤ a1) (h2 : a1 < l0.length) (h3 : 0 ≤ a2) (h4 : a2 < (rd_T104 l0 a1).f2.length) (h5 : a2 < l3.length) (h6 : a2 < l4.length) (c : S153) (hcq : rd_T153 (rd_T104 l0 a1).f2 a2 = c) (tid kd : Int) (ht : sleuthlaw13_TraceId.f l0 o1 o2 o3 o4 l5 wr a1 = some tid) (hk : sleuthlaw13_kind.f c.f0 c.f1 c.f2 c.f3 c.f4 c.f5 c.f6 c.f7 c.f8 c.f9 c.f10 = some kd) (ats : List S141) (ha : sleuthlaw13_attrs.f c.f0 c.f1 c.f2 c.f3 c.f4 c.f5 c.f6 c.f7 c.f8 c.f9 c.f10 = some ats) (hdz : wrap64 (a2 + 1) ≠ 0) (hv3 : 0 ≤ c.f3) (hv4 : 0 ≤ c.f4) (hv5 : 0 ≤ c.f5) (hv8 : 0 ≤ c.f8) :
    Calls Try.prog 69 #[.agg #[.slice A0 l0.length c0, .int .i8 o1, .int .i8 o2, .int .i8 o3, .int .i8 o4, .slice A5 l5.length c5, .int .u8 wr], .int .i64 a1, .int .i64 a2, .slice A3 l3.length c3, .slice A4 l4.length c4] w fun e w' => ∃ v12 v13 : Value, e = .returned (.agg (sp14 tid (wrap64 (a2 + 1)) (parIdOf c a2) 0 (wrap64 (1 + wrap64 (Int.tmod c.f1 4))) kd (rdOf ByteArray.empty sSvc (Int.tmod c.f3 4)) (rdOf ByteArray.empty sVer (Int.tmod c.f4 3)) (rdOf ByteArray.empty sOp (Int.tmod c.f5 3)) (rd l3 a2) (rd l4 a2) c.f10 v12 v13)) ∧ Kd.R k141 141 w' w.heap.size (fun _ => True) v12 ats ∧ Kd.R k146 146 w' w.heap.size (fun _ => True) v13 (lnkL tid c a2 l3) ∧ Below w.heap.size w w' := by
  have hu27 := Try.underlying27
  have hu104 := Try.underlying104
  have hu153 := Try.underlying153
  have hu58 := Try.underlying58
  have hu146 := Try.underlying146
  have HR0 := Aside0.mk hr0
  have HR3 := Aside0.mk hr3
  have HR4 := Aside0.mk hr4
  have HR5 := Aside0.mk hr5
  have D1 := Aside0.mk h1
  have D2 := Aside0.mk h2
  have D3 := Aside0.mk h3
  have D4 := Aside0.mk h4
  have D5 := Aside0.mk h5
  have D6 := Aside0.mk h6
  have HV3 : Aside0 (Int.tmod c.f3 4 = 0 ∨ Int.tmod c.f3 4 = 1 ∨ Int.tmod c.f3 4 = 2 ∨ Int.tmod c.f3 4 = 3) := ⟨by rw [Int.tmod_eq_emod_of_nonneg hv3]; omega⟩
  have HV4 : Aside0 (Int.tmod c.f4 3 = 0 ∨ Int.tmod c.f4 3 = 1 ∨ Int.tmod c.f4 3 = 2) := ⟨by rw [Int.tmod_eq_emod_of_nonneg hv4]; omega⟩
  have HV5 : Aside0 (Int.tmod c.f5 3 = 0 ∨ Int.tmod c.f5 3 = 1 ∨ Int.tmod c.f5 3 = 2) := ⟨by rw [Int.tmod_eq_emod_of_nonneg hv5]; omega⟩
  have HV8 : Aside0 (0 ≤ Int.tmod c.f8 16 ∧ Int.tmod c.f8 16 < 16) := ⟨by rw [Int.tmod_eq_emod_of_nonneg hv8]; omega⟩
  have HDZ := Aside0.mk hdz
  clear hv3 hv4 hv5 hv8 hdz
  have HT := Aside0.mk ht
  have HA := Aside0.mk ha
  have HK := Aside0.mk hk
  have HCQ := Aside0.mk hcq
  have HC0 := Aside0.mk hc0
  have HC5 := Aside0.mk hc5
  clear h1 h2 h3 h4 h5 h6 hr0 hr5 hr3 hr4 hc0 hc5 hc3 hc4 hcq ht hk ha
  go_enter Try.func69, Try.ntmps69
  go_upto_region 0 with (fail)
  go_cut [5, 10] (fun v5 v10 wc => v5 = .pointer (some ⟨w.heap.size, 0, none⟩) ∧ v10 = .pointer (some ⟨w.heap.size + 1, 0, none⟩) ∧ Aside0 (Below w.heap.size w wc) ∧ Aside0 (wc.heap[w.heap.size]? = some (.cells (stCells A0 c0 l0 o1 o2 o3 o4 A5 c5 l5 wr) 27 (0, 0))) ∧ Aside0 (wc.heap[w.heap.size + 1]? = some (.cells z58c 58 (0, 0))) ∧ Aside0 (wc.heap.size = w.heap.size + 2))
  case first =>
    go_wp2
    go_meet
    case rel => exact ⟨rfl, rfl, ⟨below_alloc (below_alloc (Below.refl _ _) _) _⟩, ⟨blk_alloc (blk_new _ _) _⟩, ⟨by have := blk_new (w.alloc (.cells (stCells A0 c0 l0 o1 o2 o3 o4 A5 c5 l5 wr) 27 (0, 0))) (.cells z58c 58 (0, 0)); rw [show (w.alloc (.cells (stCells A0 c0 l0 o1 o2 o3 o4 A5 c5 l5 wr) 27 (0, 0))).heap.size = w.heap.size + 1 by show (w.heap.push _).size = _; rw [Array.size_push]] at this; exact this⟩, ⟨sz2M _ _ _⟩⟩
  case rest =>
    obtain ⟨rfl, rfl, HB, HS, HZ, HN⟩ := hcut
    obtain ⟨ad, A2, c2, rfl, t0, t1, t2, hc2, hr2⟩ := at_T104 (Kd.C_below HR0.out HB.out) a1 D1.out D2.out
    obtain ⟨ae, rfl, e0, e1, e2, e3, e4, e5, e6, e7, e8, e9, e10⟩ := at_T153 hr2 a2 D3.out D4.out
    rw [HCQ.out] at e0 e1 e2 e3 e4 e5 e6 e7 e8 e9 e10
    have d1 := eq_true D1.out
    have d2 := eq_true D2.out
    have d3 := eq_true D3.out
    have d4 := eq_true D4.out
    have b0 : wc.cell? ⟨w.heap.size, 0, none⟩ = some (.slice (some ad) l0.length c0) := (blk_cell HS.out 0).trans rfl
    clear hc2 hr2
    go_upto_region 1 with (fail)
    go_cut [11] (fun v11 wd => v11 = .pointer (some ⟨w.heap.size + 2, 0, none⟩) ∧ Aside0 (MW w (stCells (some ad) c0 l0 o1 o2 o3 o4 A5 c5 l5 wr) (clCells c) wd))
    case first =>
      go_wp2
      go_meet
      case rel =>
        refine ⟨by rw [HN.out], ⟨below_alloc HB.out _, blk_alloc HS.out _, blk_alloc HZ.out _, ?_⟩⟩
        have := blk_new wc (.cells (clCells c) 153 (0, 0))
        rw [HN.out] at this
        exact this
    case rest =>
      obtain ⟨rfl, HM⟩ := hcut
      clear HB HS HZ HN t0 t1 t2 e0 e1 e2 e3 e4 e5 e6 e7 e8 e9 e10 b0
      obtain ⟨ast, rfl, s0⟩ := Kd.at_int (Kd.C_below HR3.out HM.out.b) a2 D3.out D5.out
      obtain ⟨aen, rfl, n0⟩ := Kd.at_int (Kd.C_below HR4.out HM.out.b) a2 D3.out D6.out
      have d5 := eq_true D5.out
      have d6 := eq_true D6.out
      go_upto_region 2 with (fail)
      go_cut [12] (fun v12 we => ∃ g : Nat, v12 = .pointer (some ⟨g, 0, none⟩) ∧ Aside0 (w.heap.size + 3 ≤ g) ∧ Aside0 (MW w (stCells (some ad) c0 l0 o1 o2 o3 o4 A5 c5 l5 wr) (clCells c) we) ∧ Aside0 (we.heap[g]? = some (.cells (sp14 tid (wrap64 (a2 + 1)) 0 0 (wrap64 (1 + wrap64 (Int.tmod c.f1 4))) kd ⟨#[]⟩ ⟨#[]⟩ ⟨#[]⟩ (rd l3 a2) (rd l4 a2) c.f10 (.slice none 0 0) (.slice none 0 0)) 58 (0, 0))))
      case first =>
        obtain ⟨b0, b1, b2, b3, b4, b5, b6⟩ := st_cells HM.out.s
        obtain ⟨e0, e1, e2, e3, e4, e5, e6, e7, e8, e9, e10⟩ := cl_cells HM.out.c
        go_region_held3 (fun w' => (w'.cell? ⟨w.heap.size, 0, none⟩ = some (.slice (some ad) l0.length c0) ∧ w'.cell? ⟨w.heap.size, 1, none⟩ = some (.int .i8 o1) ∧ w'.cell? ⟨w.heap.size, 2, none⟩ = some (.int .i8 o2) ∧ w'.cell? ⟨w.heap.size, 3, none⟩ = some (.int .i8 o3) ∧ w'.cell? ⟨w.heap.size, 4, none⟩ = some (.int .i8 o4) ∧ w'.cell? ⟨w.heap.size, 5, none⟩ = some (.slice A5 l5.length c5) ∧ w'.cell? ⟨w.heap.size, 6, none⟩ = some (.int .u8 wr)) ∧
            (w'.cell? ⟨w.heap.size + 2, 0, none⟩ = some (.int .u8 c.f0) ∧ w'.cell? ⟨w.heap.size + 2, 1, none⟩ = some (.int .u8 c.f1) ∧ w'.cell? ⟨w.heap.size + 2, 2, none⟩ = some (.int .u8 c.f2) ∧ w'.cell? ⟨w.heap.size + 2, 3, none⟩ = some (.int .u8 c.f3) ∧ w'.cell? ⟨w.heap.size + 2, 4, none⟩ = some (.int .u8 c.f4) ∧ w'.cell? ⟨w.heap.size + 2, 5, none⟩ = some (.int .u8 c.f5) ∧ w'.cell? ⟨w.heap.size + 2, 6, none⟩ = some (.int .u8 c.f6) ∧ w'.cell? ⟨w.heap.size + 2, 7, none⟩ = some (.int .u8 c.f7) ∧ w'.cell? ⟨w.heap.size + 2, 8, none⟩ = some (.int .u8 c.f8) ∧ w'.cell? ⟨w.heap.size + 2, 9, none⟩ = some (.int .u8 c.f9) ∧ w'.cell? ⟨w.heap.size + 2, 10, none⟩ = some (.bool c.f10)) ∧
            w'.cell? (ast.add a2.toNat) = some (.int .i64 (rd l3 a2)) ∧ w'.cell? (aen.add a2.toNat) = some (.int .i64 (rd l4 a2)) ∧ Aside0 (MW w (stCells (some ad) c0 l0 o1 o2 o3 o4 A5 c5 l5 wr) (clCells c) w'))
          (first | (go_keep; done) | ((repeat' apply And.intro) <;> (first | exact pw_cell_below (w := wc) (by repeat' (with_reducible first | exact Below.refl _ _ | exact Nat.le_refl _ | apply below_alloc | apply below_drew1 | refine below_set ?_ ?_ | refine below_size ?_ | refine below_step ?_ (by assumption))) (by assumption) | exact ⟨MW.move HM.out (by repeat' (with_reducible first | exact Below.refl _ _ | exact Nat.le_refl _ | apply below_alloc | apply below_drew1 | refine below_set ?_ ?_ | refine below_size ?_ | refine below_step ?_ (by assumption)))⟩)))
          (first
            | (go_at_call 41; (with_reducible refine (sleuthlaw13_TraceId.calls _ _ l0 o1 o2 o3 o4 _ _ l5 wr a1 tid _ ?x1 ?x2 ?x3 ?x4 HT.out).mono ?_); (case x1 => go_split_ands; exact Kd.C_below HR0.out (MW.b (st := stCells (some ad) c0 l0 o1 o2 o3 o4 A5 c5 l5 wr) (cl := clCells c) (Aside0.out (by assumption)))); (case x2 => exact HC0.out); (case x3 => go_split_ands; exact Kd.C_below HR5.out (MW.b (st := stCells (some ad) c0 l0 o1 o2 o3 o4 A5 c5 l5 wr) (cl := clCells c) (Aside0.out (by assumption)))); (case x4 => exact HC5.out); rintro e w' ⟨rfl, hb⟩; (try have hx : w'.heap[wc.heap.size]? = some (.cells z58c 58 (0, 0)) := blk_below (w := (wc.alloc (.cells z58c 58 (0, 0))).drew) (blk_new wc _) hb))
            | (go_at_call 83; (with_reducible refine (sleuthlaw13_kind.calls _ _ _ _ _ _ _ _ _ _ _ kd _ HK.out).mono ?_); rintro e w' ⟨rfl, hb2⟩; (try (have hx := blk_below (blk_new _ _) hb2; obtain ⟨z0, z1, z2, z3, z4, z5, z6, z7, z8, z9, z10, z11, z12, z13⟩ := z_cells hx)); (try (have hx2 := blk_below hx hb2; obtain ⟨z0, z1, z2, z3, z4, z5, z6, z7, z8, z9, z10, z11, z12, z13⟩ := z_cells hx2))))
        all_goals
          (try go_wp2)
          (try simp only [i64_w])
          go_meet
          case rel =>
            refine ⟨_, rfl, ⟨Nat.le_trans (blk_lt HM.out.c) (below_size (by repeat' (with_reducible first | exact Below.refl _ _ | exact Nat.le_refl _ | apply below_alloc | apply below_drew1 | refine below_set ?_ ?_ | refine below_size ?_ | refine below_step ?_ (by assumption))))⟩, ⟨MW.move HM.out (by repeat' (with_reducible first | exact Below.refl _ _ | exact Nat.le_refl _ | apply below_alloc | apply below_drew1 | refine below_set ?_ ?_ | refine below_size ?_ | refine below_step ?_ (by assumption)))⟩, ?_⟩
            first
              | (with_reducible exact ⟨put14 hx2 _ _ _ _ _ _ _ _ _ _ _ _ _ _⟩)
              | (with_reducible exact ⟨put14 hx _ _ _ _ _ _ _ _ _ _ _ _ _ _⟩)
              | (with_reducible exact ⟨blk_new _ _⟩)
      case rest =>
        obtain ⟨g, rfl, HG, HM0, HX0⟩ := hcut
        clear HM s0 n0
        go_upto_region 3 with (fail)
        go_cut [] (fun we => Aside0 (MW w (stCells (some ad) c0 l0 o1 o2 o3 o4 A5 c5 l5 wr) (clCells c) we) ∧ Aside0 (we.heap[g]? = some (.cells (sp14 tid (wrap64 (a2 + 1)) 0 0 (wrap64 (1 + wrap64 (Int.tmod c.f1 4))) kd (rdOf ByteArray.empty sSvc (Int.tmod c.f3 4)) ⟨#[]⟩ ⟨#[]⟩ (rd l3 a2) (rd l4 a2) c.f10 (.slice none 0 0) (.slice none 0 0)) 58 (0, 0))))
        case first =>
          have e_ : ∀ o, (wc.alloc o).cell? ⟨w.heap.size + 2, 3, none⟩ = some (.int .u8 c.f3) := fun o => (blk_cell (blk_alloc HM0.out.c o) 3).trans rfl
          have f_ : ∀ o, (wc.alloc o).frozen? ⟨g, 6, none⟩ = false := fun o => blk_frozen (blk_alloc HX0.out o) 6
          have x_ : ∀ o, (wc.alloc o).cell? ⟨g, 6, none⟩ = some (.string ⟨#[]⟩) := fun o => (blk_cell (blk_alloc HX0.out o) 6).trans rfl
          rcases HV3.out with h | h | h | h
          all_goals
            go_wp2
            go_meet
            case rel => exact ⟨⟨MW.put (MW.move HM0.out (below_alloc (Below.refl _ _) _)) HG.out _ _⟩, ⟨by rw [h]; exact blk_put (blk_alloc HX0.out _) 6 _ rfl⟩⟩
        case rest =>
          obtain ⟨HM1, HX1⟩ := hcut
          clear HM0 HX0
          go_upto_region 4 with (fail)
          go_cut [] (fun we => Aside0 (MW w (stCells (some ad) c0 l0 o1 o2 o3 o4 A5 c5 l5 wr) (clCells c) we) ∧ Aside0 (we.heap[g]? = some (.cells (sp14 tid (wrap64 (a2 + 1)) 0 0 (wrap64 (1 + wrap64 (Int.tmod c.f1 4))) kd (rdOf ByteArray.empty sSvc (Int.tmod c.f3 4)) (rdOf ByteArray.empty sVer (Int.tmod c.f4 3)) ⟨#[]⟩ (rd l3 a2) (rd l4 a2) c.f10 (.slice none 0 0) (.slice none 0 0)) 58 (0, 0))))
          case first =>
            have e_ : ∀ o, (wc.alloc o).cell? ⟨w.heap.size + 2, 4, none⟩ = some (.int .u8 c.f4) := fun o => (blk_cell (blk_alloc HM1.out.c o) 4).trans rfl
            have f_ : ∀ o, (wc.alloc o).frozen? ⟨g, 7, none⟩ = false := fun o => blk_frozen (blk_alloc HX1.out o) 7
            have x_ : ∀ o, (wc.alloc o).cell? ⟨g, 7, none⟩ = some (.string ⟨#[]⟩) := fun o => (blk_cell (blk_alloc HX1.out o) 7).trans rfl
            rcases HV4.out with h | h | h
            all_goals
              go_wp2
              go_meet
              case rel => exact ⟨⟨MW.put (MW.move HM1.out (below_alloc (Below.refl _ _) _)) HG.out _ _⟩, ⟨by rw [h]; exact blk_put (blk_alloc HX1.out _) 7 _ rfl⟩⟩
          case rest =>
            obtain ⟨HM2, HX2⟩ := hcut
            clear HM1 HX1
            go_upto_region 5 with (fail)
            go_cut [] (fun we => Aside0 (MW w (stCells (some ad) c0 l0 o1 o2 o3 o4 A5 c5 l5 wr) (clCells c) we) ∧ Aside0 (we.heap[g]? = some (.cells (sp14 tid (wrap64 (a2 + 1)) 0 0 (wrap64 (1 + wrap64 (Int.tmod c.f1 4))) kd (rdOf ByteArray.empty sSvc (Int.tmod c.f3 4)) (rdOf ByteArray.empty sVer (Int.tmod c.f4 3)) (rdOf ByteArray.empty sOp (Int.tmod c.f5 3)) (rd l3 a2) (rd l4 a2) c.f10 (.slice none 0 0) (.slice none 0 0)) 58 (0, 0))))
            case first =>
              have e_ : ∀ o, (wc.alloc o).cell? ⟨w.heap.size + 2, 5, none⟩ = some (.int .u8 c.f5) := fun o => (blk_cell (blk_alloc HM2.out.c o) 5).trans rfl
              have f_ : ∀ o, (wc.alloc o).frozen? ⟨g, 8, none⟩ = false := fun o => blk_frozen (blk_alloc HX2.out o) 8
              have x_ : ∀ o, (wc.alloc o).cell? ⟨g, 8, none⟩ = some (.string ⟨#[]⟩) := fun o => (blk_cell (blk_alloc HX2.out o) 8).trans rfl
              rcases HV5.out with h | h | h
              all_goals
                go_wp2
                go_meet
                case rel => exact ⟨⟨MW.put (MW.move HM2.out (below_alloc (Below.refl _ _) _)) HG.out _ _⟩, ⟨by rw [h]; exact blk_put (blk_alloc HX2.out _) 8 _ rfl⟩⟩
            case rest =>
              obtain ⟨HM3, HX3⟩ := hcut
              clear HM2 HX2
              have e_ : wc.cell? ⟨w.heap.size + 2, 0, none⟩ = some (.int .u8 c.f0) := (blk_cell HM3.out.c 0).trans rfl
              have dz := HDZ.out
              go_upto_if 76 with (fail)
              go_cut [] (fun we => Aside0 (MW w (stCells (some ad) c0 l0 o1 o2 o3 o4 A5 c5 l5 wr) (clCells c) we) ∧ Aside0 (we.heap[g]? = some (.cells (sp14 tid (wrap64 (a2 + 1)) (parIdOf c a2) 0 (wrap64 (1 + wrap64 (Int.tmod c.f1 4))) kd (rdOf ByteArray.empty sSvc (Int.tmod c.f3 4)) (rdOf ByteArray.empty sVer (Int.tmod c.f4 3)) (rdOf ByteArray.empty sOp (Int.tmod c.f5 3)) (rd l3 a2) (rd l4 a2) c.f10 (.slice none 0 0) (.slice none 0 0)) 58 (0, 0))))
              case first =>
                have f_ := blk_frozen HX3.out 2
                have x_ : wc.cell? ⟨g, 2, none⟩ = some (.int .i64 0) := (blk_cell HX3.out 2).trans rfl
                by_cases h : Int.tmod (wrap64 c.f0) (wrap64 (a2 + 1)) < a2
                · have hb_ := decide_eq_true h
                  go_wp2
                  go_meet
                  case rel => exact ⟨⟨MW.put HM3.out HG.out _ _⟩, ⟨by rw [show parIdOf c a2 = wrap64 (Int.tmod (wrap64 c.f0) (wrap64 (a2 + 1)) + 1) from if_pos h]; exact blk_put HX3.out 2 _ rfl⟩⟩
                · have hb_ := decide_eq_false h
                  by_cases h2 : a2 > 0
                  · have hb2_ := decide_eq_true h2
                    go_wp2
                    go_meet
                    case rel => exact ⟨⟨MW.put HM3.out HG.out _ _⟩, ⟨by rw [show parIdOf c a2 = 100 from (if_neg (Int.not_lt.2 h)).trans (if_pos h2)]; exact blk_put HX3.out 2 _ rfl⟩⟩
                  · have hb2_ := decide_eq_false h2
                    go_wp2
                    go_meet
                    case rel => exact ⟨HM3, ⟨by rw [show parIdOf c a2 = 0 from (if_neg (Int.not_lt.2 h)).trans (if_neg (Int.not_lt.2 h2))]; exact HX3.out⟩⟩
              case rest =>
                obtain ⟨HM4, HX4⟩ := hcut
                clear HM3 HX3 e_
                have e_ : wc.cell? ⟨w.heap.size + 2, 8, none⟩ = some (.int .u8 c.f8) := (blk_cell HM4.out.c 8).trans rfl
                go_upto_region 12 with (fail)
                have HM5 := HM4
                have HX5 := HX4
                clear HM4 HX4 e_
                go_cut [100] (fun v100 we => v100 = .bool (lnkB c a2 l3) ∧ Aside0 (MW w (stCells (some ad) c0 l0 o1 o2 o3 o4 A5 c5 l5 wr) (clCells c) we) ∧ Aside0 (we.heap[g]? = some (.cells (sp14 tid (wrap64 (a2 + 1)) (parIdOf c a2) 0 (wrap64 (1 + wrap64 (Int.tmod c.f1 4))) kd (rdOf ByteArray.empty sSvc (Int.tmod c.f3 4)) (rdOf ByteArray.empty sVer (Int.tmod c.f4 3)) (rdOf ByteArray.empty sOp (Int.tmod c.f5 3)) (rd l3 a2) (rd l4 a2) c.f10 (.slice none 0 0) (.slice none 0 0)) 58 (0, 0))))
                case first =>
                  have hj0 : 0 ≤ wrap64 (Int.tmod c.f8 16) := by have := HV8.out; rw [show wrap64 (Int.tmod c.f8 16) = Int.tmod c.f8 16 by unfold wrap64; omega]; omega
                  by_cases h : wrap64 (Int.tmod c.f8 16) < a2
                  · have hj1 : wrap64 (Int.tmod c.f8 16) < l3.length := by have := D5.out; omega
                    obtain ⟨ast', he_, s1⟩ := Kd.at_int (Kd.C_below HR3.out HM5.out.b) _ hj0 hj1
                    cases he_
                    obtain ⟨ast', he_, s0⟩ := Kd.at_int (Kd.C_below HR3.out HM5.out.b) a2 D3.out D5.out
                    cases he_
                    have HL : Aside0 (lnkB c a2 l3 = decide (rd l3 (wrap64 (Int.tmod c.f8 16)) ≤ rd l3 a2)) := ⟨by unfold lnkB linkOf; rw [decide_eq_true h, Bool.true_and]⟩
                    have hb_ := decide_eq_true h
                    replace hj0 := eq_true hj0
                    replace hj1 := eq_true hj1
                    clear h
                    go_region_held3 (fun w' => w'.cell? (ast.add (wrap64 (Int.tmod c.f8 16)).toNat) = some (.int .i64 (rd l3 (wrap64 (Int.tmod c.f8 16)))) ∧ w'.cell? (ast.add a2.toNat) = some (.int .i64 (rd l3 a2))) (go_keep) (fail)
                    (try go_wp2)
                    go_meet
                    case rel => exact ⟨by rw [HL.out], ⟨MW.move HM5.out (below_drew1 (Below.refl _ _))⟩, HX5⟩
                  · have HL : Aside0 (lnkB c a2 l3 = false) := ⟨by unfold lnkB linkOf; rw [decide_eq_false h, Bool.false_and]⟩
                    have hb_ := decide_eq_false h
                    clear h
                    go_quiet (fail)
                    (try go_wp2)
                    go_meet
                    case rel => exact ⟨by rw [HL.out], ⟨MW.move HM5.out (pw_below_drewN (Below.refl _ _) _)⟩, HX5⟩
                case rest =>
                  obtain ⟨rfl, HM6, HX6⟩ := hcut
                  clear HM5 HX5
                  go_upto_if 100 with (fail)
                  go_cut [] (fun we => ∃ v13, Aside0 (MW w (stCells (some ad) c0 l0 o1 o2 o3 o4 A5 c5 l5 wr) (clCells c) we) ∧ Aside0 (we.heap[g]? = some (.cells (sp14 tid (wrap64 (a2 + 1)) (parIdOf c a2) 0 (wrap64 (1 + wrap64 (Int.tmod c.f1 4))) kd (rdOf ByteArray.empty sSvc (Int.tmod c.f3 4)) (rdOf ByteArray.empty sVer (Int.tmod c.f4 3)) (rdOf ByteArray.empty sOp (Int.tmod c.f5 3)) (rd l3 a2) (rd l4 a2) c.f10 (.slice none 0 0) v13) 58 (0, 0))) ∧ Aside0 (Kd.R k146 146 we w.heap.size (fun k => w.heap.size + 3 ≤ k ∧ k ≠ g) v13 (lnkL tid c a2 l3)))
                  case first =>
                    cases hB : lnkB c a2 l3 with
                    | true =>
                      have x0 : wc.cell? ⟨g, 0, none⟩ = some (.int .i64 tid) := (blk_cell HX6.out 0).trans rfl
                      have f_ : ∀ o, (wc.alloc o).frozen? ⟨g, 13, none⟩ = false := fun o => blk_frozen (blk_alloc HX6.out o) 13
                      have x_ : ∀ o, (wc.alloc o).cell? ⟨g, 13, none⟩ = some (.slice none 0 0) := fun o => (blk_cell (blk_alloc HX6.out o) 13).trans rfl
                      go_wp2
                      go_meet
                      case rel => exact ⟨_, ⟨MW.put (MW.move HM6.out (below_alloc (Below.refl _ _) _)) HG.out _ _⟩, ⟨blk_put (blk_alloc HX6.out _) 13 _ rfl⟩, ⟨by rw [lnkL, hB]; exact Kd.R_far (p := ⟨g, 13, none⟩) (lit146 (below_size HM6.out.b) ⟨blk_lt HM6.out.c, fun e => by have := blk_lt HX6.out; omega⟩) (fun _ hk => hk.2) _⟩⟩
                    | false =>
                      go_wp2
                      go_meet
                      case rel => exact ⟨_, HM6, HX6, ⟨by rw [lnkL, hB]; exact Kd.R_nil _ _ _ _ _⟩⟩
                  case rest =>
                    obtain ⟨v13, HM7, HX7, HR13⟩ := hcut
                    clear HM6 HX6
                    obtain ⟨e0, e1, e2, e3, e4, e5, e6, e7, e8, e9, e10⟩ := cl_cells HM7.out.c
                    obtain ⟨A13, c13, hv13⟩ := Kd.R_slice HR13.out
                    subst hv13
                    go_wp2_with (go_at_call 84; (with_reducible refine (sleuthlaw13_attrs.calls _ _ _ _ _ _ _ _ _ _ _ ats _ HA.out).mono ?_); rintro e w' ⟨v12, rfl, ho, hb⟩; obtain ⟨A12, c12, hv12⟩ := Kd.R_slice ho; subst hv12; have HM8 := Aside0.mk (MW.put (MW.move HM7.out hb) HG.out 12 (.slice A12 ats.length c12)); have HX8 := blk_below HX7.out hb; have f_ := blk_frozen HX8 12; have x_ : w'.cell? ⟨g, 12, none⟩ = some (.slice none 0 0) := (blk_cell HX8 12).trans rfl; have HX9 : (w'.setCell ⟨g, 12, none⟩ (.slice A12 ats.length c12)).heap[g]? = some (.cells (sp14 tid (wrap64 (a2 + 1)) (parIdOf c a2) 0 (wrap64 (1 + wrap64 (Int.tmod c.f1 4))) kd (rdOf ByteArray.empty sSvc (Int.tmod c.f3 4)) (rdOf ByteArray.empty sVer (Int.tmod c.f4 3)) (rdOf ByteArray.empty sOp (Int.tmod c.f5 3)) (rd l3 a2) (rd l4 a2) c.f10 (.slice A12 ats.length c12) (.slice A13 (lnkL tid c a2 l3).length c13)) 58 (0, 0)) := blk_put HX8 12 _ rfl; obtain ⟨s0, s1, s2, s3, s4, s5, s6, s7, s8, s9, s10, s11, s12, s13⟩ := sp_cells HX9; obtain ⟨z0, z1, z2, z3, z4, z5, z6, z7, z8, z9, z10, z11, z12, z13⟩ := z_cells HM8.out.z; have HO := Aside0.mk ho; have HB8 := Aside0.mk hb; have HR8 := Aside0.mk (Kd.R_below HR13.out hb); have HX8' := Aside0.mk HX8; clear ho hb HX8 HX9 HR13)
                    refine bodyPost_ret (results_cell_row rfl _ _ (w.heap.size + 1) 58 (sp14 tid (wrap64 (a2 + 1)) (parIdOf c a2) 0 (wrap64 (1 + wrap64 (Int.tmod c.f1 4))) kd (rdOf ByteArray.empty sSvc (Int.tmod c.f3 4)) (rdOf ByteArray.empty sVer (Int.tmod c.f4 3)) (rdOf ByteArray.empty sOp (Int.tmod c.f5 3)) (rd l3 a2) (rd l4 a2) c.f10 (.slice A12 ats.length c12) (.slice A13 (lnkL tid c a2 l3).length c13)) (0, 0) _ rfl (put14 HM8.out.z _ _ _ _ _ _ _ _ _ _ _ _ _ _) Try.underlying58 rfl (show (Try.prog.info? 58).map (·.size) = some 14 by kernel_rfl)) rfl ?_
                    have hg_ := blk_lt HX7.out
                    have hgn := HG.out
                    refine ⟨_, _, rfl, Rput14 (fun k hk => hk.2.2) (Kd.R_far (p := ⟨g, 12, none⟩) (Kd.R_reok rfl (Kd.R_lower HO.out (below_size HM7.out.b)) (ok := fun k => True ∧ k ≠ g ∧ k ≠ w.heap.size + 1) (fun k hk => ?_)) (fun _ hk => hk.2.1) _) (fun _ _ => trivial), Rput14 (fun k hk => ?_) (Kd.R_far (p := ⟨g, 12, none⟩) HR8.out (fun _ hk => hk.2) _) (fun _ _ => trivial), below14 HM8.out.b (by omega) _ _ _ _ _ _ _ _ _ _ _ _ _ _⟩
                    · have := Kd.R_base HO.out k hk
                      exact ⟨trivial, by omega, by omega⟩
                    · have := hk.1
                      omega
/-- What sleuthlaw13.made returns. -/
def madeF (l0 : List S104) (o1 o2 o3 o4 : Int) (l5 : List S193) (wr a1 a2 : Int) (l3 l4 : List Int) : Option S58 :=
  let c := rd_T153 (rd_T104 l0 a1).f2 a2
  if 0 ≤ a1 ∧ a1 < l0.length ∧ 0 ≤ a2 ∧ a2 < (rd_T104 l0 a1).f2.length ∧ a2 < l3.length ∧ a2 < l4.length ∧ wrap64 (a2 + 1) ≠ 0 ∧ 0 ≤ c.f3 ∧ 0 ≤ c.f4 ∧ 0 ≤ c.f5 ∧ 0 ≤ c.f8 then
    (sleuthlaw13_TraceId.f l0 o1 o2 o3 o4 l5 wr a1).bind fun tid => (sleuthlaw13_kind.f c.f0 c.f1 c.f2 c.f3 c.f4 c.f5 c.f6 c.f7 c.f8 c.f9 c.f10).bind fun kd => (sleuthlaw13_attrs.f c.f0 c.f1 c.f2 c.f3 c.f4 c.f5 c.f6 c.f7 c.f8 c.f9 c.f10).bind fun ats =>
      some ⟨tid, wrap64 (a2 + 1), parIdOf c a2, 0, wrap64 (1 + wrap64 (Int.tmod c.f1 4)), kd, rdOf ByteArray.empty sSvc (Int.tmod c.f3 4), rdOf ByteArray.empty sVer (Int.tmod c.f4 3), rdOf ByteArray.empty sOp (Int.tmod c.f5 3), rd l3 a2, rd l4 a2, c.f10, ats, lnkL tid c a2 l3⟩
  else none
/-- A span's cells, but for its rows. -/
abbrev spOf (s : S58) (v12 v13 : Value) : Array Value := sp14 s.f0 s.f1 s.f2 s.f3 s.f4 s.f5 s.f6 s.f7 s.f8 s.f9 s.f10 s.f11 v12 v13
theorem madeF_calls (A0 : Option Addr) (c0 : Nat) (l0 : List S104) (o1 o2 o3 o4 : Int) (A5 : Option Addr) (c5 : Nat) (l5 : List S193) (wr : Int) (a1 a2 : Int) (A3 : Option Addr) (c3 : Nat) (l3 : List Int) (A4 : Option Addr) (c4 : Nat) (l4 : List Int) (s : S58) (w : World)
    (hr0 : Kd.C k104 w A0 l0.length l0) (hc0 : l0.length ≤ c0) (hr5 : Kd.C k193 w A5 l5.length l5) (hc5 : l5.length ≤ c5) (hr3 : Kd.C (Kd.int .i64) w A3 l3.length l3) (hc3 : l3.length ≤ c3) (hr4 : Kd.C (Kd.int .i64) w A4 l4.length l4) (hc4 : l4.length ≤ c4)
    (h : madeF l0 o1 o2 o3 o4 l5 wr a1 a2 l3 l4 = some s) :
    Calls Try.prog 69 #[.agg #[.slice A0 l0.length c0, .int .i8 o1, .int .i8 o2, .int .i8 o3, .int .i8 o4, .slice A5 l5.length c5, .int .u8 wr], .int .i64 a1, .int .i64 a2, .slice A3 l3.length c3, .slice A4 l4.length c4] w fun e w' =>
      ∃ v12 v13 : Value, e = .returned (.agg (spOf s v12 v13)) ∧ Kd.R k141 141 w' w.heap.size (fun _ => True) v12 s.f12 ∧ Kd.R k146 146 w' w.heap.size (fun _ => True) v13 s.f13 ∧ Below w.heap.size w w' := by
  unfold madeF at h
  simp only at h
  split at h
  · rename_i hc
    obtain ⟨tid, ht, h⟩ := Option.bind_eq_some_iff.1 h
    obtain ⟨kd, hk, h⟩ := Option.bind_eq_some_iff.1 h
    obtain ⟨ats, ha, h⟩ := Option.bind_eq_some_iff.1 h
    cases h
    obtain ⟨h1, h2, h3, h4, h5, h6, h7, h8, h9, h10, h11⟩ := hc
    exact made_calls A0 c0 l0 o1 o2 o3 o4 A5 c5 l5 wr a1 a2 A3 c3 l3 A4 c4 l4 w hr0 hc0 hr5 hc5 hr3 hc3 hr4 hc4 h1 h2 h3 h4 h5 h6 _ rfl tid kd ht hk ats ha h7 h8 h9 h10 h11
  · cases h
end Go.Proofs.Ythdifdnjodbdnaa.Q
