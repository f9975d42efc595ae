/-
  Arguments opened where their bulk is bounded: notes, whose lists lie in lists.
-/
import Derived.Test.YtnmgfnpphglphaaGreatClose
import Derived.Test.YtnmgfnpphglphaaGreatRows
set_option maxHeartbeats 16000000
set_option maxRecDepth 100000
set_option linter.unusedVariables false
set_option linter.unusedSimpArgs false
namespace Go.Proofs.YtnmgfnpphglphaaGreat
open Go.RowKit
open Go.ChangeShapes Go.WideShapes
set_option maxRecDepth 100000
variable {H : Type} {enc : TypeId × Value → H} {W : World} {n : Nat} {cs : List Value} {x : DataW H × List MemPlace}
abbrev BdT (x : DataW H × List MemPlace) : Prop := Rows.uptoBulk x.1 ≤ 1048576
theorem bulk_part {d : DataW H} {l : List (DataW H)} (h : d ∈ l) : Rows.uptoBulk d ≤ Rows.uptoBulkAll l := by
 induction l with
 | nil => cases h
 | cons x r ih =>
  simp only [Rows.uptoBulkAll]
  rcases List.mem_cons.1 h with rfl | h
  ·omega
  ·have := ih h; omega
theorem bulk_one (d : DataW H) : 1 ≤ Rows.uptoBulk d := by
 cases d with
 | lit l => cases l <;> simp [Rows.uptoBulk]
 | _ => simp [Rows.uptoBulk]
theorem bulk_len (l : List (DataW H)) : l.length ≤ Rows.uptoBulkAll l := by
 induction l with
 | nil => simp [Rows.uptoBulkAll]
 | cons x r ih => have := bulk_one x; simp only [Rows.uptoBulkAll, List.length_cons]; omega
theorem bulk_agg {xs : List (DataW H × List MemPlace)} {pl : List MemPlace} (hb : BdT (DataW.agg (xs.map (·.1)), pl)) {y : DataW H × List MemPlace} (hy : y ∈ xs) : BdT y := by
 have h1 := bulk_part (List.mem_map_of_mem (f := fun z : DataW H × List MemPlace => z.1) hy)
 simp only [BdT, Rows.uptoBulk] at hb ⊢
 omega
theorem opens_Int (h : RdT enc W n 3 cs x) : ∃ z : Int, cs = (encInt z).toList ∧ (encInt z).size = 1 ∧ okInt (fun _ => False) W z := by
 obtain ⟨i, rfl, hi⟩ := opens_int h
 exact ⟨i, rfl, rfl, hi⟩
theorem opensU_slice {α : Type} [Inhabited α] {t e sz : Nat} {e' : α → Array Value} {ok : (Nat → Prop) → World → α → Prop} (ht : Tryz.prog.underlying t = some (.slice e)) (hc : Tryz.prog.cellsOf e = sz) (hsz : 0 < sz)
  (helem : ∀ m cs y, RdT enc W m e cs y → BdT y → ∃ z : α, cs = (e' z).toList ∧ (e' z).size = sz ∧ ok (fun _ => False) W z) (h : RdT enc W n t cs x) (hb : BdT x) :
  ∃ s : Sl α, cs = [s.v] ∧ Sl.OK sz e' ok (fun _ => False) W s := by
 rcases Go.Deep.open_slice ht h with ⟨rfl, _⟩ | ⟨a, len, cap, m, k, D, Pl, rfl, _, hl, _, hm, hx, hi⟩
 ·exact ⟨⟨none, 0, []⟩, rfl, Sl.OK.nil _ _ _ _ _⟩
 ·have hm' : m = cap := by rw [hm]; rfl
  rw [hc] at hi
  have hbe : ∀ i, i < len → BdT (D i, Pl i) := fun i hil => by
   have h1 : D i ∈ (List.range len).map D := List.mem_map_of_mem (List.mem_range.2 hil)
   have h2 := bulk_part h1
   simp only [BdT] at hb ⊢
   rw [hx] at hb
   simp only [Rows.uptoBulk] at hb
   omega
  have hll : len ≤ 1048576 := by
   have h2 := bulk_len ((List.range len).map D)
   simp only [BdT] at hb
   rw [hx] at hb
   simp only [Rows.uptoBulk] at hb
   simp only [List.length_map, List.length_range] at h2
   omega
  obtain ⟨V, hV⟩ := Go.Deep.choose_lt (α := α) (n := len) (p := fun i z => (∀ j, j < sz → W.cell? (a.add (i * sz + j)) = (e' z)[j]?) ∧ (e' z).size = sz ∧ ok (fun _ => False) W z) (fun i hil => by
   obtain ⟨cs', h1, h2⟩ := hi i (by omega)
   obtain ⟨z, rfl, h3, h4⟩ := helem _ _ _ h2 (hbe i hil)
   obtain ⟨_, hlen, hcell⟩ := World.cells?_some h1
   refine ⟨z, fun j hj => ?_, h3, h4⟩
   have h5 := hcell j (by omega)
   rw [← Go.Deep.add_add, h5]
   simp)
  refine ⟨⟨some a, cap, (List.range len).map V⟩, by simp [Sl.v], ?_⟩
  have hspot : 0 < len → a.spot = none ∧ a.block < W.heap.size := fun h0 => by
   obtain ⟨h1, h2, _⟩ := hV 0 h0
   have h3 := h1 0 hsz
   have h4 : (e' (V 0))[0]? = some (e' (V 0))[0] := Array.getElem?_eq_getElem (by omega)
   rw [h4] at h3
   have h5 : a.spot = none := by simpa [Addr.add] using World.cell?_spot h3
   obtain ⟨b, o, sp⟩ := a
   simp only at h5
   subst h5
   refine ⟨rfl, ?_⟩
   rw [add_plain] at h3
   exact Nat.lt_of_not_le fun hle => by simp [World.cell?, Array.getElem?_eq_none hle] at h3
  refine ⟨by simpa using hl, by simp; omega, fun h0 => by simp at h0, fun p hp h0 => ?_, fun z hz => ?_, fun b o ha i z hz j hj => ?_⟩
  ·simp at hp; subst hp
   obtain ⟨h1, h2⟩ := hspot (by simpa using h0)
   exact ⟨h1, fun h => h, h2⟩
  ·obtain ⟨i, hi, rfl⟩ := List.mem_map.1 hz
   exact (hV i (List.mem_range.1 hi)).2.2
  ·simp at ha; subst ha
   have hil : i < len := by simpa using (List.getElem?_eq_some_iff.1 hz).1
   have hz' : z = V i := by
    rw [List.getElem?_map, List.getElem?_range hil] at hz
    simpa using hz.symm
   subst hz'
   have h1 := (hV i hil).1 j hj
   rwa [add_plain, ← Nat.add_assoc] at h1
theorem opensU_arg {α : Type} [Inhabited α] {t e sz base : Nat} {e' : α → Array Value} {ok : (Nat → Prop) → World → α → Prop} (ht : Tryz.prog.underlying t = some (.slice e)) (hc : Tryz.prog.cellsOf e = sz) (hsz : 0 < sz)
  (helem : ∀ m cs y, RdT enc W m e cs y → BdT y → ∃ z : α, cs = (e' z).toList ∧ (e' z).size = sz ∧ ok (fun _ => False) W z) {v : Value} {d : DataW H} {p : List MemPlace} (hval : Value.okWide Tryz.prog W .any base t v) (h : DataW.Trod enc Tryz.prog W 0 (fun _ => true) true t v d p) (hb : Rows.uptoBulk d ≤ 1048576) :
  ∃ s : Sl α, v = s.v ∧ Sl.OK sz e' ok (fun _ => False) W s := by
 obtain ⟨a, l, c, rfl⟩ := okWide_slice ht hval
 obtain ⟨m, hm⟩ := h
 obtain ⟨s, he, h2⟩ := opensU_slice (e' := e') (ok := ok) ht hc hsz helem hm hb
 refine ⟨s, ?_, h2⟩
 simpa [Value.cells] using he
theorem opensU_int {base : Nat} {v : Value} {d : DataW H} {p : List MemPlace} (hval : Value.okWide Tryz.prog W .any base 3 v) (h : DataW.Trod enc Tryz.prog W 0 (fun _ => true) true 3 v d p) : ∃ i, v = vi i ∧ I64 i := by
 obtain ⟨i, rfl⟩ := okWide_int Tryz.underlying3 hval
 obtain ⟨m, hm⟩ := h
 obtain ⟨j, he, hj⟩ := opens_int hm
 simp only [Value.cells, List.cons.injEq, and_true] at he
 have e : i = j := by injection he
 exact ⟨i, rfl, by rw [e]; exact hj⟩
theorem cells_Gauge : Tryz.prog.cellsOf 89 = 5 := by kernel_rfl
theorem opens_Gauge (h : RdT enc W n 89 cs x) : ∃ z : Gauge, cs = (encGauge z).toList ∧ (encGauge z).size = 5 ∧ okGauge (fun _ => False) W z := by
 obtain ⟨xs, m, _, _, hl, hxl, hf⟩ := DataW.trod_struct Tryz.underlying89 h
 rw [cells_Gauge] at hl
 replace hxl : xs.length = 3 := hxl
 match cs, hl, xs, hxl with
 | [c0, c1, c2, c3, c4], _, [y0, y1, y2], _ =>
  have g0 : RdT enc W m 38 [c0, c1] y0 := by
   have g : RdT enc W m 38 (([c0, c1, c2, c3, c4].drop 0).take (Tryz.prog.cellsOf 38)) y0 := hf 0 _ rfl
   rwa [cells_Span] at g
  obtain ⟨z0, e0, _, k0⟩ := opens_Span g0
  have g1 : RdT enc W m 38 [c2, c3] y1 := by
   have g : RdT enc W m 38 (([c0, c1, c2, c3, c4].drop 2).take (Tryz.prog.cellsOf 38)) y1 := hf 1 _ rfl
   rwa [cells_Span] at g
  obtain ⟨z1, e1, _, k1⟩ := opens_Span g1
  have g2 : RdT enc W m 3 [c4] y2 := by
   have g : RdT enc W m 3 (([c0, c1, c2, c3, c4].drop 4).take (Tryz.prog.cellsOf 3)) y2 := hf 2 _ rfl
   rwa [cells_int] at g
  obtain ⟨z2, e2, k2⟩ := opens_int g2
  refine ⟨⟨z0, z1, z2⟩, ?_, rfl, ⟨k0.1, k0.2, k1.1, k1.2, k2⟩⟩
  simp [encGauge, encSpan, vi] at *
  simp [*]
theorem cells_Mark : Tryz.prog.cellsOf 174 = 3 := by kernel_rfl
theorem opens_Mark (h : RdT enc W n 174 cs x) : ∃ z : Mark, cs = (encMark z).toList ∧ (encMark z).size = 3 ∧ okMark (fun _ => False) W z := by
 obtain ⟨xs, m, _, _, hl, hxl, hf⟩ := DataW.trod_struct Tryz.underlying174 h
 rw [cells_Mark] at hl
 replace hxl : xs.length = 3 := hxl
 match cs, hl, xs, hxl with
 | [c0, c1, c2], _, [y0, y1, y2], _ =>
  have g0 : RdT enc W m 3 [c0] y0 := by
   have g : RdT enc W m 3 (([c0, c1, c2].drop 0).take (Tryz.prog.cellsOf 3)) y0 := hf 0 _ rfl
   rwa [cells_int] at g
  obtain ⟨z0, e0, k0⟩ := opens_int g0
  have g1 : RdT enc W m 3 [c1] y1 := by
   have g : RdT enc W m 3 (([c0, c1, c2].drop 1).take (Tryz.prog.cellsOf 3)) y1 := hf 1 _ rfl
   rwa [cells_int] at g
  obtain ⟨z1, e1, k1⟩ := opens_int g1
  have g2 : RdT enc W m 3 [c2] y2 := by
   have g : RdT enc W m 3 (([c0, c1, c2].drop 2).take (Tryz.prog.cellsOf 3)) y2 := hf 2 _ rfl
   rwa [cells_int] at g
  obtain ⟨z2, e2, k2⟩ := opens_int g2
  refine ⟨⟨z0, z1, z2⟩, ?_, rfl, ⟨k0, k1, k2⟩⟩
  simp [encMark, vi] at *
  simp [*]
theorem cells_Sight : Tryz.prog.cellsOf 169 = 8 := by kernel_rfl
theorem opens_Sight (h : RdT enc W n 169 cs x) : ∃ z : Sight, cs = (encSight z).toList ∧ (encSight z).size = 8 ∧ okSight (fun _ => False) W z := by
 obtain ⟨xs, m, _, _, hl, hxl, hf⟩ := DataW.trod_struct Tryz.underlying169 h
 rw [cells_Sight] at hl
 replace hxl : xs.length = 5 := hxl
 match cs, hl, xs, hxl with
 | [c0, c1, c2, c3, c4, c5, c6, c7], _, [y0, y1, y2, y3, y4], _ =>
  have g0 : RdT enc W m 3 [c0] y0 := by
   have g : RdT enc W m 3 (([c0, c1, c2, c3, c4, c5, c6, c7].drop 0).take (Tryz.prog.cellsOf 3)) y0 := hf 0 _ rfl
   rwa [cells_int] at g
  obtain ⟨z0, e0, k0⟩ := opens_int g0
  have g1 : RdT enc W m 3 [c1] y1 := by
   have g : RdT enc W m 3 (([c0, c1, c2, c3, c4, c5, c6, c7].drop 1).take (Tryz.prog.cellsOf 3)) y1 := hf 1 _ rfl
   rwa [cells_int] at g
  obtain ⟨z1, e1, k1⟩ := opens_int g1
  have g2 : RdT enc W m 38 [c2, c3] y2 := by
   have g : RdT enc W m 38 (([c0, c1, c2, c3, c4, c5, c6, c7].drop 2).take (Tryz.prog.cellsOf 38)) y2 := hf 2 _ rfl
   rwa [cells_Span] at g
  obtain ⟨z2, e2, _, k2⟩ := opens_Span g2
  have g3 : RdT enc W m 38 [c4, c5] y3 := by
   have g : RdT enc W m 38 (([c0, c1, c2, c3, c4, c5, c6, c7].drop 4).take (Tryz.prog.cellsOf 38)) y3 := hf 3 _ rfl
   rwa [cells_Span] at g
  obtain ⟨z3, e3, _, k3⟩ := opens_Span g3
  have g4 : RdT enc W m 38 [c6, c7] y4 := by
   have g : RdT enc W m 38 (([c0, c1, c2, c3, c4, c5, c6, c7].drop 6).take (Tryz.prog.cellsOf 38)) y4 := hf 4 _ rfl
   rwa [cells_Span] at g
  obtain ⟨z4, e4, _, k4⟩ := opens_Span g4
  refine ⟨⟨z0, z1, z2, z3, z4⟩, ?_, rfl, ⟨k0, k1, k2.1, k2.2, k3.1, k3.2, k4.1, k4.2⟩⟩
  simp [encSight, encSpan, vi] at *
  simp [*]
theorem cells_slInt : Tryz.prog.cellsOf 35 = 1 := by kernel_rfl
theorem cells_slGauge : Tryz.prog.cellsOf 90 = 1 := by kernel_rfl
theorem cells_slMark : Tryz.prog.cellsOf 91 = 1 := by kernel_rfl
theorem cells_slSight : Tryz.prog.cellsOf 39 = 1 := by kernel_rfl
theorem cells_slPiece : Tryz.prog.cellsOf 36 = 1 := by kernel_rfl
theorem cells_Piece : Tryz.prog.cellsOf 93 = 7 := by kernel_rfl
theorem opensU_Piece (h : RdT enc W n 93 cs x) (hb : BdT x) : ∃ z : Piece, cs = (encPiece z).toList ∧ (encPiece z).size = 7 ∧ okPiece (fun _ => False) W z := by
 obtain ⟨xs, m, _, hx, hl, hxl, hf⟩ := DataW.trod_struct Tryz.underlying93 h
 rw [cells_Piece] at hl
 rw [hx] at hb
 replace hxl : xs.length = 7 := hxl
 match cs, hl, xs, hxl with
 | [c0, c1, c2, c3, c4, c5, c6], _, [y0, y1, y2, y3, y4, y5, y6], _ =>
  have g0 : RdT enc W m 3 [c0] y0 := by
   have g : RdT enc W m 3 (([c0, c1, c2, c3, c4, c5, c6].drop 0).take (Tryz.prog.cellsOf 3)) y0 := hf 0 _ rfl
   rwa [cells_int] at g
  obtain ⟨z0, e0, k0⟩ := opens_int g0
  have g1 : RdT enc W m 3 [c1] y1 := by
   have g : RdT enc W m 3 (([c0, c1, c2, c3, c4, c5, c6].drop 1).take (Tryz.prog.cellsOf 3)) y1 := hf 1 _ rfl
   rwa [cells_int] at g
  obtain ⟨z1, e1, k1⟩ := opens_int g1
  have g2 : RdT enc W m 3 [c2] y2 := by
   have g : RdT enc W m 3 (([c0, c1, c2, c3, c4, c5, c6].drop 2).take (Tryz.prog.cellsOf 3)) y2 := hf 2 _ rfl
   rwa [cells_int] at g
  obtain ⟨z2, e2, k2⟩ := opens_int g2
  have g3 : RdT enc W m 3 [c3] y3 := by
   have g : RdT enc W m 3 (([c0, c1, c2, c3, c4, c5, c6].drop 3).take (Tryz.prog.cellsOf 3)) y3 := hf 3 _ rfl
   rwa [cells_int] at g
  obtain ⟨z3, e3, k3⟩ := opens_int g3
  have g4 : RdT enc W m 3 [c4] y4 := by
   have g : RdT enc W m 3 (([c0, c1, c2, c3, c4, c5, c6].drop 4).take (Tryz.prog.cellsOf 3)) y4 := hf 4 _ rfl
   rwa [cells_int] at g
  obtain ⟨z4, e4, k4⟩ := opens_int g4
  have g5 : RdT enc W m 90 [c5] y5 := by
   have g : RdT enc W m 90 (([c0, c1, c2, c3, c4, c5, c6].drop 5).take (Tryz.prog.cellsOf 90)) y5 := hf 5 _ rfl
   rwa [cells_slGauge] at g
  obtain ⟨z5, e5, k5⟩ := opensU_slice (e' := encGauge) (ok := okGauge) Tryz.underlying90 cells_Gauge (by decide) (fun m cs y h hb => opens_Gauge h) g5 (bulk_agg hb (by simp))
  have g6 : RdT enc W m 91 [c6] y6 := by
   have g : RdT enc W m 91 (([c0, c1, c2, c3, c4, c5, c6].drop 6).take (Tryz.prog.cellsOf 91)) y6 := hf 6 _ rfl
   rwa [cells_slMark] at g
  obtain ⟨z6, e6, k6⟩ := opensU_slice (e' := encMark) (ok := okMark) Tryz.underlying91 cells_Mark (by decide) (fun m cs y h hb => opens_Mark h) g6 (bulk_agg hb (by simp))
  refine ⟨⟨z0, z1, z2, z3, z4, z5, z6⟩, ?_, rfl, ⟨k0, k1, k2, k3, k4, k5, k6⟩⟩
  simp [encPiece, vi] at *
  simp [*]
theorem cells_Item : Tryz.prog.cellsOf 41 = 12 := by kernel_rfl
theorem opensU_Item (h : RdT enc W n 41 cs x) (hb : BdT x) : ∃ z : Item, cs = (encItem z).toList ∧ (encItem z).size = 12 ∧ okItem (fun _ => False) W z := by
 obtain ⟨xs, m, _, hx, hl, hxl, hf⟩ := DataW.trod_struct Tryz.underlying41 h
 rw [cells_Item] at hl
 rw [hx] at hb
 replace hxl : xs.length = 11 := hxl
 match cs, hl, xs, hxl with
 | [c0, c1, c2, c3, c4, c5, c6, c7, c8, c9, c10, c11], _, [y0, y1, y2, y3, y4, y5, y6, y7, y8, y9, y10], _ =>
  have g0 : RdT enc W m 3 [c0] y0 := by
   have g : RdT enc W m 3 (([c0, c1, c2, c3, c4, c5, c6, c7, c8, c9, c10, c11].drop 0).take (Tryz.prog.cellsOf 3)) y0 := hf 0 _ rfl
   rwa [cells_int] at g
  obtain ⟨z0, e0, k0⟩ := opens_int g0
  have g1 : RdT enc W m 3 [c1] y1 := by
   have g : RdT enc W m 3 (([c0, c1, c2, c3, c4, c5, c6, c7, c8, c9, c10, c11].drop 1).take (Tryz.prog.cellsOf 3)) y1 := hf 1 _ rfl
   rwa [cells_int] at g
  obtain ⟨z1, e1, k1⟩ := opens_int g1
  have g2 : RdT enc W m 3 [c2] y2 := by
   have g : RdT enc W m 3 (([c0, c1, c2, c3, c4, c5, c6, c7, c8, c9, c10, c11].drop 2).take (Tryz.prog.cellsOf 3)) y2 := hf 2 _ rfl
   rwa [cells_int] at g
  obtain ⟨z2, e2, k2⟩ := opens_int g2
  have g3 : RdT enc W m 3 [c3] y3 := by
   have g : RdT enc W m 3 (([c0, c1, c2, c3, c4, c5, c6, c7, c8, c9, c10, c11].drop 3).take (Tryz.prog.cellsOf 3)) y3 := hf 3 _ rfl
   rwa [cells_int] at g
  obtain ⟨z3, e3, k3⟩ := opens_int g3
  have g4 : RdT enc W m 3 [c4] y4 := by
   have g : RdT enc W m 3 (([c0, c1, c2, c3, c4, c5, c6, c7, c8, c9, c10, c11].drop 4).take (Tryz.prog.cellsOf 3)) y4 := hf 4 _ rfl
   rwa [cells_int] at g
  obtain ⟨z4, e4, k4⟩ := opens_int g4
  have g5 : RdT enc W m 3 [c5] y5 := by
   have g : RdT enc W m 3 (([c0, c1, c2, c3, c4, c5, c6, c7, c8, c9, c10, c11].drop 5).take (Tryz.prog.cellsOf 3)) y5 := hf 5 _ rfl
   rwa [cells_int] at g
  obtain ⟨z5, e5, k5⟩ := opens_int g5
  have g6 : RdT enc W m 3 [c6] y6 := by
   have g : RdT enc W m 3 (([c0, c1, c2, c3, c4, c5, c6, c7, c8, c9, c10, c11].drop 6).take (Tryz.prog.cellsOf 3)) y6 := hf 6 _ rfl
   rwa [cells_int] at g
  obtain ⟨z6, e6, k6⟩ := opens_int g6
  have g7 : RdT enc W m 35 [c7] y7 := by
   have g : RdT enc W m 35 (([c0, c1, c2, c3, c4, c5, c6, c7, c8, c9, c10, c11].drop 7).take (Tryz.prog.cellsOf 35)) y7 := hf 7 _ rfl
   rwa [cells_slInt] at g
  obtain ⟨z7, e7, k7⟩ := opensU_slice (e' := encInt) (ok := okInt) Tryz.underlying35 cells_int (by decide) (fun m cs y h hb => opens_Int h) g7 (bulk_agg hb (by simp))
  have g8 : RdT enc W m 35 [c8] y8 := by
   have g : RdT enc W m 35 (([c0, c1, c2, c3, c4, c5, c6, c7, c8, c9, c10, c11].drop 8).take (Tryz.prog.cellsOf 35)) y8 := hf 8 _ rfl
   rwa [cells_slInt] at g
  obtain ⟨z8, e8, k8⟩ := opensU_slice (e' := encInt) (ok := okInt) Tryz.underlying35 cells_int (by decide) (fun m cs y h hb => opens_Int h) g8 (bulk_agg hb (by simp))
  have g9 : RdT enc W m 38 [c9, c10] y9 := by
   have g : RdT enc W m 38 (([c0, c1, c2, c3, c4, c5, c6, c7, c8, c9, c10, c11].drop 9).take (Tryz.prog.cellsOf 38)) y9 := hf 9 _ rfl
   rwa [cells_Span] at g
  obtain ⟨z9, e9, _, k9⟩ := opens_Span g9
  have g10 : RdT enc W m 39 [c11] y10 := by
   have g : RdT enc W m 39 (([c0, c1, c2, c3, c4, c5, c6, c7, c8, c9, c10, c11].drop 11).take (Tryz.prog.cellsOf 39)) y10 := hf 10 _ rfl
   rwa [cells_slSight] at g
  obtain ⟨z10, e10, k10⟩ := opensU_slice (e' := encSight) (ok := okSight) Tryz.underlying39 cells_Sight (by decide) (fun m cs y h hb => opens_Sight h) g10 (bulk_agg hb (by simp))
  refine ⟨⟨z0, z1, z2, z3, z4, z5, z6, z7, z8, z9, z10⟩, ?_, rfl, ⟨k0, k1, k2, k3, k4, k5, k6, k9.1, k9.2, k7, k8, k10⟩⟩
  simp [encItem, encSpan, vi] at *
  simp [*]
theorem cells_Note : Tryz.prog.cellsOf 43 = 29 := by kernel_rfl
theorem opensU_Note (h : RdT enc W n 43 cs x) (hb : BdT x) : ∃ z : Note, cs = (encNote z).toList ∧ (encNote z).size = 29 ∧ okNote (fun _ => False) W z := by
 obtain ⟨xs, m, _, hx, hl, hxl, hf⟩ := DataW.trod_struct Tryz.underlying43 h
 rw [cells_Note] at hl
 rw [hx] at hb
 replace hxl : xs.length = 16 := hxl
 match cs, hl, xs, hxl with
 | [c0, c1, c2, c3, c4, c5, c6, c7, c8, c9, c10, c11, c12, c13, c14, c15, c16, c17, c18, c19, c20, c21, c22, c23, c24, c25, c26, c27, c28], _, [y0, y1, y2, y3, y4, y5, y6, y7, y8, y9, y10, y11, y12, y13, y14, y15], _ =>
  have g0 : RdT enc W m 3 [c0] y0 := by
   have g : RdT enc W m 3 (([c0, c1, c2, c3, c4, c5, c6, c7, c8, c9, c10, c11, c12, c13, c14, c15, c16, c17, c18, c19, c20, c21, c22, c23, c24, c25, c26, c27, c28].drop 0).take (Tryz.prog.cellsOf 3)) y0 := hf 0 _ rfl
   rwa [cells_int] at g
  obtain ⟨z0, e0, k0⟩ := opens_int g0
  have g1 : RdT enc W m 3 [c1] y1 := by
   have g : RdT enc W m 3 (([c0, c1, c2, c3, c4, c5, c6, c7, c8, c9, c10, c11, c12, c13, c14, c15, c16, c17, c18, c19, c20, c21, c22, c23, c24, c25, c26, c27, c28].drop 1).take (Tryz.prog.cellsOf 3)) y1 := hf 1 _ rfl
   rwa [cells_int] at g
  obtain ⟨z1, e1, k1⟩ := opens_int g1
  have g2 : RdT enc W m 3 [c2] y2 := by
   have g : RdT enc W m 3 (([c0, c1, c2, c3, c4, c5, c6, c7, c8, c9, c10, c11, c12, c13, c14, c15, c16, c17, c18, c19, c20, c21, c22, c23, c24, c25, c26, c27, c28].drop 2).take (Tryz.prog.cellsOf 3)) y2 := hf 2 _ rfl
   rwa [cells_int] at g
  obtain ⟨z2, e2, k2⟩ := opens_int g2
  have g3 : RdT enc W m 3 [c3] y3 := by
   have g : RdT enc W m 3 (([c0, c1, c2, c3, c4, c5, c6, c7, c8, c9, c10, c11, c12, c13, c14, c15, c16, c17, c18, c19, c20, c21, c22, c23, c24, c25, c26, c27, c28].drop 3).take (Tryz.prog.cellsOf 3)) y3 := hf 3 _ rfl
   rwa [cells_int] at g
  obtain ⟨z3, e3, k3⟩ := opens_int g3
  have g4 : RdT enc W m 3 [c4] y4 := by
   have g : RdT enc W m 3 (([c0, c1, c2, c3, c4, c5, c6, c7, c8, c9, c10, c11, c12, c13, c14, c15, c16, c17, c18, c19, c20, c21, c22, c23, c24, c25, c26, c27, c28].drop 4).take (Tryz.prog.cellsOf 3)) y4 := hf 4 _ rfl
   rwa [cells_int] at g
  obtain ⟨z4, e4, k4⟩ := opens_int g4
  have g5 : RdT enc W m 3 [c5] y5 := by
   have g : RdT enc W m 3 (([c0, c1, c2, c3, c4, c5, c6, c7, c8, c9, c10, c11, c12, c13, c14, c15, c16, c17, c18, c19, c20, c21, c22, c23, c24, c25, c26, c27, c28].drop 5).take (Tryz.prog.cellsOf 3)) y5 := hf 5 _ rfl
   rwa [cells_int] at g
  obtain ⟨z5, e5, k5⟩ := opens_int g5
  have g6 : RdT enc W m 3 [c6] y6 := by
   have g : RdT enc W m 3 (([c0, c1, c2, c3, c4, c5, c6, c7, c8, c9, c10, c11, c12, c13, c14, c15, c16, c17, c18, c19, c20, c21, c22, c23, c24, c25, c26, c27, c28].drop 6).take (Tryz.prog.cellsOf 3)) y6 := hf 6 _ rfl
   rwa [cells_int] at g
  obtain ⟨z6, e6, k6⟩ := opens_int g6
  have g7 : RdT enc W m 3 [c7] y7 := by
   have g : RdT enc W m 3 (([c0, c1, c2, c3, c4, c5, c6, c7, c8, c9, c10, c11, c12, c13, c14, c15, c16, c17, c18, c19, c20, c21, c22, c23, c24, c25, c26, c27, c28].drop 7).take (Tryz.prog.cellsOf 3)) y7 := hf 7 _ rfl
   rwa [cells_int] at g
  obtain ⟨z7, e7, k7⟩ := opens_int g7
  have g8 : RdT enc W m 3 [c8] y8 := by
   have g : RdT enc W m 3 (([c0, c1, c2, c3, c4, c5, c6, c7, c8, c9, c10, c11, c12, c13, c14, c15, c16, c17, c18, c19, c20, c21, c22, c23, c24, c25, c26, c27, c28].drop 8).take (Tryz.prog.cellsOf 3)) y8 := hf 8 _ rfl
   rwa [cells_int] at g
  obtain ⟨z8, e8, k8⟩ := opens_int g8
  have g9 : RdT enc W m 3 [c9] y9 := by
   have g : RdT enc W m 3 (([c0, c1, c2, c3, c4, c5, c6, c7, c8, c9, c10, c11, c12, c13, c14, c15, c16, c17, c18, c19, c20, c21, c22, c23, c24, c25, c26, c27, c28].drop 9).take (Tryz.prog.cellsOf 3)) y9 := hf 9 _ rfl
   rwa [cells_int] at g
  obtain ⟨z9, e9, k9⟩ := opens_int g9
  have g10 : RdT enc W m 32 [c10, c11] y10 := by
   have g : RdT enc W m 32 (([c0, c1, c2, c3, c4, c5, c6, c7, c8, c9, c10, c11, c12, c13, c14, c15, c16, c17, c18, c19, c20, c21, c22, c23, c24, c25, c26, c27, c28].drop 10).take (Tryz.prog.cellsOf 32)) y10 := hf 10 _ rfl
   rwa [cells_Setting] at g
  obtain ⟨z10, e10, _, k10⟩ := opens_Setting g10
  have g11 : RdT enc W m 34 [c12, c13] y11 := by
   have g : RdT enc W m 34 (([c0, c1, c2, c3, c4, c5, c6, c7, c8, c9, c10, c11, c12, c13, c14, c15, c16, c17, c18, c19, c20, c21, c22, c23, c24, c25, c26, c27, c28].drop 12).take (Tryz.prog.cellsOf 34)) y11 := hf 11 _ rfl
   rwa [cells_Ref] at g
  obtain ⟨z11, e11, _, k11⟩ := opens_Ref g11
  have g12 : RdT enc W m 35 [c14] y12 := by
   have g : RdT enc W m 35 (([c0, c1, c2, c3, c4, c5, c6, c7, c8, c9, c10, c11, c12, c13, c14, c15, c16, c17, c18, c19, c20, c21, c22, c23, c24, c25, c26, c27, c28].drop 14).take (Tryz.prog.cellsOf 35)) y12 := hf 12 _ rfl
   rwa [cells_slInt] at g
  obtain ⟨z12, e12, k12⟩ := opensU_slice (e' := encInt) (ok := okInt) Tryz.underlying35 cells_int (by decide) (fun m cs y h hb => opens_Int h) g12 (bulk_agg hb (by simp))
  have g13 : RdT enc W m 35 [c15] y13 := by
   have g : RdT enc W m 35 (([c0, c1, c2, c3, c4, c5, c6, c7, c8, c9, c10, c11, c12, c13, c14, c15, c16, c17, c18, c19, c20, c21, c22, c23, c24, c25, c26, c27, c28].drop 15).take (Tryz.prog.cellsOf 35)) y13 := hf 13 _ rfl
   rwa [cells_slInt] at g
  obtain ⟨z13, e13, k13⟩ := opensU_slice (e' := encInt) (ok := okInt) Tryz.underlying35 cells_int (by decide) (fun m cs y h hb => opens_Int h) g13 (bulk_agg hb (by simp))
  have g14 : RdT enc W m 36 [c16] y14 := by
   have g : RdT enc W m 36 (([c0, c1, c2, c3, c4, c5, c6, c7, c8, c9, c10, c11, c12, c13, c14, c15, c16, c17, c18, c19, c20, c21, c22, c23, c24, c25, c26, c27, c28].drop 16).take (Tryz.prog.cellsOf 36)) y14 := hf 14 _ rfl
   rwa [cells_slPiece] at g
  obtain ⟨z14, e14, k14⟩ := opensU_slice (e' := encPiece) (ok := okPiece) Tryz.underlying36 cells_Piece (by decide) (fun m cs y h hb => opensU_Piece h hb) g14 (bulk_agg hb (by simp))
  have g15 : RdT enc W m 41 [c17, c18, c19, c20, c21, c22, c23, c24, c25, c26, c27, c28] y15 := by
   have g : RdT enc W m 41 (([c0, c1, c2, c3, c4, c5, c6, c7, c8, c9, c10, c11, c12, c13, c14, c15, c16, c17, c18, c19, c20, c21, c22, c23, c24, c25, c26, c27, c28].drop 17).take (Tryz.prog.cellsOf 41)) y15 := hf 15 _ rfl
   rwa [cells_Item] at g
  obtain ⟨z15, e15, _, k15⟩ := opensU_Item g15 (bulk_agg hb (by simp))
  refine ⟨⟨z0, z1, z2, z3, z4, z5, z6, z7, z8, z9, z10, z11, z12, z13, z14, z15⟩, ?_, rfl, ⟨k0, k1, k2, k3, k4, k5, k6, k7, k8, k9, k10, k11.1, k11.2, k15.1, k15.2.1, k15.2.2.1, k15.2.2.2.1, k15.2.2.2.2.1, k15.2.2.2.2.2.1, k15.2.2.2.2.2.2.1, k15.2.2.2.2.2.2.2.1, k15.2.2.2.2.2.2.2.2.1, k12, k13, k14, k15.2.2.2.2.2.2.2.2.2.1, k15.2.2.2.2.2.2.2.2.2.2.1, k15.2.2.2.2.2.2.2.2.2.2.2⟩⟩
  simp [encNote, encItem, encRef, encSetting, encSpan, vi] at *
  simp [*]
end Go.Proofs.YtnmgfnpphglphaaGreat
