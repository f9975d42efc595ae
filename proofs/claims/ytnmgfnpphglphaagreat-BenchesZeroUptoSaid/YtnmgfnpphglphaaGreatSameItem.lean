/-
  Two items, two notes are equal: walked.
-/
import Derived.Test.YtnmgfnpphglphaaGreatSame
import Derived.Test.YtnmgfnpphglphaaGreatOrd
import Derived.Test.YtnmgfnpphglphaaGreatEq
import Derived.Test.YtnmgfnpphglphaaGreatEqual
set_option maxHeartbeats 16000000
set_option maxRecDepth 100000
set_option linter.unusedVariables false
set_option linter.unusedSimpArgs false
namespace Go.Proofs.YtnmgfnpphglphaaGreat
open Go.RowKit
def itemNums (x : Item) : List Int := [x.id, x.kind, x.year, x.film, x.piece, x.lead, x.slack, 0]
def noteNums (n : Note) : List Int := [n.bench, n.num, n.clock, n.year, n.kind, n.fix, n.piece, n.pane, n.colour, n.to]
def encNums (l : List Int) : Array Value := (l.map vi).toArray
def eqNums (l m : List Int) : Bool := decide (l = m)
@[go_sem] theorem eqGuardType_N8 : Tryz.prog.eqGuardType Tryz.prog.depth 249 = false := by kernel_rfl
@[go_sem high] theorem eql_N8 (x y : Item) (w : World) : (binOp .eql 249 (.agg (encNums (itemNums x))) (.agg (encNums (itemNums y)))).run Tryz.prog w = .ok (.bool (eqNums (itemNums x) (itemNums y))) w := by
 rw [run_eql_struct, show (10000 : Nat) = 9998 + 2 from rfl]
 unfold encNums
 rw [run_equalIn_ints w 9998 249 3 _ _ 8 Tryz.underlying249 Tryz.underlying3 (by kernel_rfl) rfl rfl]
 rfl
theorem itemNums_any (x : Item) (w : World) :
  Calls Tryz.prog 174 #[.agg (encItem x)] w fun e w' => e = .returned (.agg (encNums (itemNums x))) ∧ Below w.heap.size w w' := by
 go_enter Tryz.func174, Tryz.ntmps174
 go_wp2
 exact bodyPost_ret (v := .agg (encNums (itemNums x))) (by simp [results, Tryz.results174, go_sem, encNums, itemNums]) rfl ⟨rfl, by repeat (first | exact Below.refl _ _ | assumption | refine Below.drew ?_ | refine Below.alloc ?_ (by simp; try omega) _)⟩
@[go_sem] theorem eqGuardType_N10 : Tryz.prog.eqGuardType Tryz.prog.depth 198 = false := by kernel_rfl
@[go_sem high] theorem eql_N10 (x y : Note) (w : World) : (binOp .eql 198 (.agg (encNums (noteNums x))) (.agg (encNums (noteNums y)))).run Tryz.prog w = .ok (.bool (eqNums (noteNums x) (noteNums y))) w := by
 rw [run_eql_struct, show (10000 : Nat) = 9998 + 2 from rfl]
 unfold encNums
 rw [run_equalIn_ints w 9998 198 3 _ _ 10 Tryz.underlying198 Tryz.underlying3 (by kernel_rfl) rfl rfl]
 rfl
theorem noteNums_any (x : Note) (w : World) :
  Calls Tryz.prog 119 #[.agg (encNote x)] w fun e w' => e = .returned (.agg (encNums (noteNums x))) ∧ Below w.heap.size w w' := by
 go_enter Tryz.func119, Tryz.ntmps119
 go_wp2
 exact bodyPost_ret (v := .agg (encNums (noteNums x))) (by simp [results, Tryz.results119, go_sem, encNums, noteNums]) rfl ⟨rfl, by repeat (first | exact Below.refl _ _ | assumption | refine Below.drew ?_ | refine Below.alloc ?_ (by simp; try omega) _)⟩
theorem sameItem_any (D : Nat → Prop) (a b : Item) (w : World) (ha : okItem D w a) (hb : okItem D w b) :
  Calls Tryz.prog 123 #[.agg (encItem a), .agg (encItem b)] w fun e w' => e = .returned (.bool (decide (a.abs = b.abs))) ∧ Below w.heap.size w w' := by
 have HP : Hid (∀ W, Below w.heap.size w W → Calls Tryz.prog 120 #[.slice a.panes.a a.panes.val.length a.panes.cap, .slice b.panes.a b.panes.val.length b.panes.cap] W fun e w' => e = .returned (.bool (decide (a.panes.val = b.panes.val))) ∧ Below W.heap.size W w') := Lib.hid fun W hW => equal_int D a.panes b.panes W ((okItem.ext ha (.of_below hW)).2.2.2.2.2.2.2.2.2.1) ((okItem.ext hb (.of_below hW)).2.2.2.2.2.2.2.2.2.1)
 have HC : Hid (∀ W, Below w.heap.size w W → Calls Tryz.prog 120 #[.slice a.colours.a a.colours.val.length a.colours.cap, .slice b.colours.a b.colours.val.length b.colours.cap] W fun e w' => e = .returned (.bool (decide (a.colours.val = b.colours.val))) ∧ Below W.heap.size W w') := Lib.hid fun W hW => equal_int D a.colours b.colours W ((okItem.ext ha (.of_below hW)).2.2.2.2.2.2.2.2.2.2.1) ((okItem.ext hb (.of_below hW)).2.2.2.2.2.2.2.2.2.2.1)
 have HS : Hid (∀ W, Below w.heap.size w W → Calls Tryz.prog 175 #[.slice a.sights.a a.sights.val.length a.sights.cap, .slice b.sights.a b.sights.val.length b.sights.cap] W fun e w' => e = .returned (.bool (decide (a.sights.val = b.sights.val))) ∧ Below W.heap.size W w') := Lib.hid fun W hW => equal_Sight D a.sights b.sights W ((okItem.ext ha (.of_below hW)).2.2.2.2.2.2.2.2.2.2.2) ((okItem.ext hb (.of_below hW)).2.2.2.2.2.2.2.2.2.2.2)
 have HE : Hid (decide (a.abs = b.abs) = (eqNums (itemNums a) (itemNums b) && (eqSpan a.count b.count && (decide (a.panes.val = b.panes.val) && (decide (a.colours.val = b.colours.val) && (decide (a.sights.val = b.sights.val))))))) := Lib.hid (by
  rw [Bool.eq_iff_iff]; simp [Item.abs, eqNums, itemNums, eqSpan]; try grind)
 clear ha hb
 rcases h0 : (eqNums (itemNums a) (itemNums b))
 case false =>
  go_enter Tryz.func123, Tryz.ntmps123
  go_wp2
  refine wp_region_ord [(0, true), (1, true), (3, true), (4, true), (2, false), (5, false), (6, true), (7, true), (8, true), (9, true), (10, true), (11, true), (12, true), (13, true), (14, true), (15, true), (16, true), (17, true), (18, true), (19, false), (20, true), (21, true), (22, true), (23, true), (24, true), (25, true), (26, false), (27, true), (28, true), (29, true), (30, true), (31, true), (32, true), (33, false), (34, true), (35, true)] rfl (by kernel_rfl) (by kernel_rfl) (fun d _ _ _ _ h => by cases d <;> exact h) ?_
  refine wpB_fix rfl rfl (fun W hW => by go_simp; with_reducible rfl) ?_; simp only [pTs, pTn, pTz, pTc]
  refine wpB_fix (v := ?_) rfl rfl ?_ ?_; rotate_left; (focus (intro W hW; have hWc := fun b o => hW.cell (p := ⟨b, o, none⟩); go_simp; try with_reducible rfl)); simp only [pTs, pTn, pTz, pTc]
  refine wpB_fix rfl rfl (fun W hW => by go_simp; with_reducible rfl) ?_; simp only [pTs, pTn, pTz, pTc]
  refine wpB_fix (v := ?_) rfl rfl ?_ ?_; rotate_left; (focus (intro W hW; have hWc := fun b o => hW.cell (p := ⟨b, o, none⟩); go_simp; try with_reducible rfl)); simp only [pTs, pTn, pTz, pTc]
  refine wpB_act rfl rfl (fun K hK => ?_)
  go_simp
  refine (itemNums_any a _).mono ?_
  rintro e w1 ⟨rfl, hb1⟩
  have hB1 : Below w.heap.size w w1 := Below.call (((((Below.refl _ _).alloc (Nat.le_refl _) _).alloc (by simp) _)).drew) hb1 (Nat.le_refl _)
  have hS1 : w.heap.size + 2 ≤ w1.heap.size := Nat.le_trans (by simp) hb1.size
  have hL1a : w.heap.size < w1.heap.size := by omega
  have hL1b : w.heap.size + 1 < w1.heap.size := by omega
  have hE1a : ∀ o', w1.cell? ⟨w.heap.size, o', none⟩ = _ := fun o' => hb1.cell (p := ⟨w.heap.size, o', none⟩) (by simp; omega)
  have hE1b : ∀ o', w1.cell? ⟨w.heap.size + 1, o', none⟩ = _ := fun o' => hb1.cell (p := ⟨w.heap.size + 1, o', none⟩) (by simp)
  refine hK _ _ hb1 ?_
  clear hK K
  try simp only [pTs, pTn, pTz, pTc]
  refine wpB_act rfl rfl (fun K hK => ?_)
  go_simp
  refine (itemNums_any b _).mono ?_
  rintro e w2 ⟨rfl, hb2⟩
  have hB2 : Below w.heap.size w w2 := Below.call (hB1) hb2 (Nat.le_refl _)
  have hS2 : w.heap.size + 2 ≤ w2.heap.size := Nat.le_trans hS1 hb2.size
  have hL2a : w.heap.size < w2.heap.size := by omega
  have hL2b : w.heap.size + 1 < w2.heap.size := by omega
  have hE2a : ∀ o', w2.cell? ⟨w.heap.size, o', none⟩ = _ := fun o' => hb2.cell (p := ⟨w.heap.size, o', none⟩) (by have := hS1; show w.heap.size < w1.heap.size; omega)
  have hE2b : ∀ o', w2.cell? ⟨w.heap.size + 1, o', none⟩ = _ := fun o' => hb2.cell (p := ⟨w.heap.size + 1, o', none⟩) (by have := hS1; show w.heap.size + 1 < w1.heap.size; omega)
  refine hK _ _ hb2 ?_
  clear hK K
  try simp only [pTs, pTn, pTz, pTc]
  iterate 2 (refine wpB_fix rfl rfl (fun W hW => by go_simp; with_reducible rfl) ?_; simp only [pTs, pTn, pTz, pTc])
  iterate 5 (refine wpB_skip rfl rfl ?_; simp only [pTs, pTn, pTz, pTc])
  iterate 2 (refine wpB_fix rfl rfl (fun W hW => by go_simp; with_reducible rfl) ?_; simp only [pTs, pTn, pTz, pTc])
  iterate 4 (refine wpB_skip rfl rfl ?_; simp only [pTs, pTn, pTz, pTc])
  refine wpB_skip_act rfl rfl ?_; simp only [pTs, pTn, pTz, pTc]
  iterate 2 (refine wpB_fix rfl rfl (fun W hW => by go_simp; with_reducible rfl) ?_; simp only [pTs, pTn, pTz, pTc])
  iterate 4 (refine wpB_skip rfl rfl ?_; simp only [pTs, pTn, pTz, pTc])
  refine wpB_skip_act rfl rfl ?_; simp only [pTs, pTn, pTz, pTc]
  iterate 2 (refine wpB_fix rfl rfl (fun W hW => by go_simp; with_reducible rfl) ?_; simp only [pTs, pTn, pTz, pTc])
  iterate 4 (refine wpB_skip rfl rfl ?_; simp only [pTs, pTn, pTz, pTc])
  refine wpB_skip_act rfl rfl ?_; simp only [pTs, pTn, pTz, pTc]
  iterate 2 (refine wpB_fix rfl rfl (fun W hW => by go_simp; with_reducible rfl) ?_; simp only [pTs, pTn, pTz, pTc])
  simp only [wpB]
  go_wp2
  go_ret
  exact ⟨by simp [HE.out, h0], hB2⟩
 rcases h1 : (eqSpan a.count b.count)
 case false =>
  go_enter Tryz.func123, Tryz.ntmps123
  go_wp2
  refine wp_region_ord [(0, true), (1, true), (3, true), (4, true), (2, false), (5, false), (6, true), (7, true), (8, true), (9, true), (10, true), (11, true), (12, true), (13, true), (14, true), (15, true), (16, true), (17, true), (18, true), (19, false), (20, true), (21, true), (22, true), (23, true), (24, true), (25, true), (26, false), (27, true), (28, true), (29, true), (30, true), (31, true), (32, true), (33, false), (34, true), (35, true)] rfl (by kernel_rfl) (by kernel_rfl) (fun d _ _ _ _ h => by cases d <;> exact h) ?_
  refine wpB_fix rfl rfl (fun W hW => by go_simp; with_reducible rfl) ?_; simp only [pTs, pTn, pTz, pTc]
  refine wpB_fix (v := ?_) rfl rfl ?_ ?_; rotate_left; (focus (intro W hW; have hWc := fun b o => hW.cell (p := ⟨b, o, none⟩); go_simp; try with_reducible rfl)); simp only [pTs, pTn, pTz, pTc]
  refine wpB_fix rfl rfl (fun W hW => by go_simp; with_reducible rfl) ?_; simp only [pTs, pTn, pTz, pTc]
  refine wpB_fix (v := ?_) rfl rfl ?_ ?_; rotate_left; (focus (intro W hW; have hWc := fun b o => hW.cell (p := ⟨b, o, none⟩); go_simp; try with_reducible rfl)); simp only [pTs, pTn, pTz, pTc]
  refine wpB_act rfl rfl (fun K hK => ?_)
  go_simp
  refine (itemNums_any a _).mono ?_
  rintro e w1 ⟨rfl, hb1⟩
  have hB1 : Below w.heap.size w w1 := Below.call (((((Below.refl _ _).alloc (Nat.le_refl _) _).alloc (by simp) _)).drew) hb1 (Nat.le_refl _)
  have hS1 : w.heap.size + 2 ≤ w1.heap.size := Nat.le_trans (by simp) hb1.size
  have hL1a : w.heap.size < w1.heap.size := by omega
  have hL1b : w.heap.size + 1 < w1.heap.size := by omega
  have hE1a : ∀ o', w1.cell? ⟨w.heap.size, o', none⟩ = _ := fun o' => hb1.cell (p := ⟨w.heap.size, o', none⟩) (by simp; omega)
  have hE1b : ∀ o', w1.cell? ⟨w.heap.size + 1, o', none⟩ = _ := fun o' => hb1.cell (p := ⟨w.heap.size + 1, o', none⟩) (by simp)
  refine hK _ _ hb1 ?_
  clear hK K
  try simp only [pTs, pTn, pTz, pTc]
  refine wpB_act rfl rfl (fun K hK => ?_)
  go_simp
  refine (itemNums_any b _).mono ?_
  rintro e w2 ⟨rfl, hb2⟩
  have hB2 : Below w.heap.size w w2 := Below.call (hB1) hb2 (Nat.le_refl _)
  have hS2 : w.heap.size + 2 ≤ w2.heap.size := Nat.le_trans hS1 hb2.size
  have hL2a : w.heap.size < w2.heap.size := by omega
  have hL2b : w.heap.size + 1 < w2.heap.size := by omega
  have hE2a : ∀ o', w2.cell? ⟨w.heap.size, o', none⟩ = _ := fun o' => hb2.cell (p := ⟨w.heap.size, o', none⟩) (by have := hS1; show w.heap.size < w1.heap.size; omega)
  have hE2b : ∀ o', w2.cell? ⟨w.heap.size + 1, o', none⟩ = _ := fun o' => hb2.cell (p := ⟨w.heap.size + 1, o', none⟩) (by have := hS1; show w.heap.size + 1 < w1.heap.size; omega)
  refine hK _ _ hb2 ?_
  clear hK K
  try simp only [pTs, pTn, pTz, pTc]
  iterate 3 (refine wpB_fix rfl rfl (fun W hW => by go_simp; with_reducible rfl) ?_; simp only [pTs, pTn, pTz, pTc])
  refine wpB_fix (v := ?_) rfl rfl ?_ ?_; rotate_left; (focus (intro W hW; have hWc := fun b o => hW.cell (p := ⟨b, o, none⟩); go_simp; try with_reducible rfl)); simp only [pTs, pTn, pTz, pTc]
  refine wpB_fix rfl rfl (fun W hW => by go_simp; with_reducible rfl) ?_; simp only [pTs, pTn, pTz, pTc]
  refine wpB_fix (v := ?_) rfl rfl ?_ ?_; rotate_left; (focus (intro W hW; have hWc := fun b o => hW.cell (p := ⟨b, o, none⟩); go_simp; try with_reducible rfl)); simp only [pTs, pTn, pTz, pTc]
  iterate 3 (refine wpB_fix rfl rfl (fun W hW => by go_simp; with_reducible rfl) ?_; simp only [pTs, pTn, pTz, pTc])
  iterate 4 (refine wpB_skip rfl rfl ?_; simp only [pTs, pTn, pTz, pTc])
  refine wpB_skip_act rfl rfl ?_; simp only [pTs, pTn, pTz, pTc]
  iterate 2 (refine wpB_fix rfl rfl (fun W hW => by go_simp; with_reducible rfl) ?_; simp only [pTs, pTn, pTz, pTc])
  iterate 4 (refine wpB_skip rfl rfl ?_; simp only [pTs, pTn, pTz, pTc])
  refine wpB_skip_act rfl rfl ?_; simp only [pTs, pTn, pTz, pTc]
  iterate 2 (refine wpB_fix rfl rfl (fun W hW => by go_simp; with_reducible rfl) ?_; simp only [pTs, pTn, pTz, pTc])
  iterate 4 (refine wpB_skip rfl rfl ?_; simp only [pTs, pTn, pTz, pTc])
  refine wpB_skip_act rfl rfl ?_; simp only [pTs, pTn, pTz, pTc]
  iterate 2 (refine wpB_fix rfl rfl (fun W hW => by go_simp; with_reducible rfl) ?_; simp only [pTs, pTn, pTz, pTc])
  simp only [wpB]
  go_wp2
  go_ret
  exact ⟨by simp [HE.out, h0, h1], hB2⟩
 rcases h2 : (decide (a.panes.val = b.panes.val))
 case false =>
  go_enter Tryz.func123, Tryz.ntmps123
  go_wp2
  refine wp_region_ord [(0, true), (1, true), (3, true), (4, true), (2, false), (5, false), (6, true), (7, true), (8, true), (9, true), (10, true), (11, true), (12, true), (13, true), (14, true), (15, true), (16, true), (17, true), (18, true), (19, false), (20, true), (21, true), (22, true), (23, true), (24, true), (25, true), (26, false), (27, true), (28, true), (29, true), (30, true), (31, true), (32, true), (33, false), (34, true), (35, true)] rfl (by kernel_rfl) (by kernel_rfl) (fun d _ _ _ _ h => by cases d <;> exact h) ?_
  refine wpB_fix rfl rfl (fun W hW => by go_simp; with_reducible rfl) ?_; simp only [pTs, pTn, pTz, pTc]
  refine wpB_fix (v := ?_) rfl rfl ?_ ?_; rotate_left; (focus (intro W hW; have hWc := fun b o => hW.cell (p := ⟨b, o, none⟩); go_simp; try with_reducible rfl)); simp only [pTs, pTn, pTz, pTc]
  refine wpB_fix rfl rfl (fun W hW => by go_simp; with_reducible rfl) ?_; simp only [pTs, pTn, pTz, pTc]
  refine wpB_fix (v := ?_) rfl rfl ?_ ?_; rotate_left; (focus (intro W hW; have hWc := fun b o => hW.cell (p := ⟨b, o, none⟩); go_simp; try with_reducible rfl)); simp only [pTs, pTn, pTz, pTc]
  refine wpB_act rfl rfl (fun K hK => ?_)
  go_simp
  refine (itemNums_any a _).mono ?_
  rintro e w1 ⟨rfl, hb1⟩
  have hB1 : Below w.heap.size w w1 := Below.call (((((Below.refl _ _).alloc (Nat.le_refl _) _).alloc (by simp) _)).drew) hb1 (Nat.le_refl _)
  have hS1 : w.heap.size + 2 ≤ w1.heap.size := Nat.le_trans (by simp) hb1.size
  have hL1a : w.heap.size < w1.heap.size := by omega
  have hL1b : w.heap.size + 1 < w1.heap.size := by omega
  have hE1a : ∀ o', w1.cell? ⟨w.heap.size, o', none⟩ = _ := fun o' => hb1.cell (p := ⟨w.heap.size, o', none⟩) (by simp; omega)
  have hE1b : ∀ o', w1.cell? ⟨w.heap.size + 1, o', none⟩ = _ := fun o' => hb1.cell (p := ⟨w.heap.size + 1, o', none⟩) (by simp)
  refine hK _ _ hb1 ?_
  clear hK K
  try simp only [pTs, pTn, pTz, pTc]
  refine wpB_act rfl rfl (fun K hK => ?_)
  go_simp
  refine (itemNums_any b _).mono ?_
  rintro e w2 ⟨rfl, hb2⟩
  have hB2 : Below w.heap.size w w2 := Below.call (hB1) hb2 (Nat.le_refl _)
  have hS2 : w.heap.size + 2 ≤ w2.heap.size := Nat.le_trans hS1 hb2.size
  have hL2a : w.heap.size < w2.heap.size := by omega
  have hL2b : w.heap.size + 1 < w2.heap.size := by omega
  have hE2a : ∀ o', w2.cell? ⟨w.heap.size, o', none⟩ = _ := fun o' => hb2.cell (p := ⟨w.heap.size, o', none⟩) (by have := hS1; show w.heap.size < w1.heap.size; omega)
  have hE2b : ∀ o', w2.cell? ⟨w.heap.size + 1, o', none⟩ = _ := fun o' => hb2.cell (p := ⟨w.heap.size + 1, o', none⟩) (by have := hS1; show w.heap.size + 1 < w1.heap.size; omega)
  refine hK _ _ hb2 ?_
  clear hK K
  try simp only [pTs, pTn, pTz, pTc]
  iterate 3 (refine wpB_fix rfl rfl (fun W hW => by go_simp; with_reducible rfl) ?_; simp only [pTs, pTn, pTz, pTc])
  refine wpB_fix (v := ?_) rfl rfl ?_ ?_; rotate_left; (focus (intro W hW; have hWc := fun b o => hW.cell (p := ⟨b, o, none⟩); go_simp; try with_reducible rfl)); simp only [pTs, pTn, pTz, pTc]
  refine wpB_fix rfl rfl (fun W hW => by go_simp; with_reducible rfl) ?_; simp only [pTs, pTn, pTz, pTc]
  refine wpB_fix (v := ?_) rfl rfl ?_ ?_; rotate_left; (focus (intro W hW; have hWc := fun b o => hW.cell (p := ⟨b, o, none⟩); go_simp; try with_reducible rfl)); simp only [pTs, pTn, pTz, pTc]
  iterate 4 (refine wpB_fix rfl rfl (fun W hW => by go_simp; with_reducible rfl) ?_; simp only [pTs, pTn, pTz, pTc])
  refine wpB_fix (v := ?_) rfl rfl ?_ ?_; rotate_left; (focus (intro W hW; have hWc := fun b o => hW.cell (p := ⟨b, o, none⟩); go_simp; try with_reducible rfl)); simp only [pTs, pTn, pTz, pTc]
  refine wpB_fix rfl rfl (fun W hW => by go_simp; with_reducible rfl) ?_; simp only [pTs, pTn, pTz, pTc]
  refine wpB_fix (v := ?_) rfl rfl ?_ ?_; rotate_left; (focus (intro W hW; have hWc := fun b o => hW.cell (p := ⟨b, o, none⟩); go_simp; try with_reducible rfl)); simp only [pTs, pTn, pTz, pTc]
  refine wpB_act rfl rfl (fun K hK => ?_)
  go_simp
  refine (HP.out _ (hB2)).mono ?_
  rintro e w3 ⟨rfl, hb3⟩
  have hB3 : Below w.heap.size w w3 := Below.call (hB2) hb3 (Nat.le_refl _)
  have hS3 : w.heap.size + 2 ≤ w3.heap.size := Nat.le_trans hS2 hb3.size
  have hL3a : w.heap.size < w3.heap.size := by omega
  have hL3b : w.heap.size + 1 < w3.heap.size := by omega
  have hE3a : ∀ o', w3.cell? ⟨w.heap.size, o', none⟩ = _ := fun o' => hb3.cell (p := ⟨w.heap.size, o', none⟩) (by have := hS2; show w.heap.size < w2.heap.size; omega)
  have hE3b : ∀ o', w3.cell? ⟨w.heap.size + 1, o', none⟩ = _ := fun o' => hb3.cell (p := ⟨w.heap.size + 1, o', none⟩) (by have := hS2; show w.heap.size + 1 < w2.heap.size; omega)
  refine hK _ _ hb3 ?_
  clear hK K
  try simp only [h2, pTs, pTn, pTz, pTc]
  iterate 2 (refine wpB_fix rfl rfl (fun W hW => by go_simp; with_reducible rfl) ?_; simp only [pTs, pTn, pTz, pTc])
  iterate 4 (refine wpB_skip rfl rfl ?_; simp only [pTs, pTn, pTz, pTc])
  refine wpB_skip_act rfl rfl ?_; simp only [pTs, pTn, pTz, pTc]
  iterate 2 (refine wpB_fix rfl rfl (fun W hW => by go_simp; with_reducible rfl) ?_; simp only [pTs, pTn, pTz, pTc])
  iterate 4 (refine wpB_skip rfl rfl ?_; simp only [pTs, pTn, pTz, pTc])
  refine wpB_skip_act rfl rfl ?_; simp only [pTs, pTn, pTz, pTc]
  iterate 2 (refine wpB_fix rfl rfl (fun W hW => by go_simp; with_reducible rfl) ?_; simp only [pTs, pTn, pTz, pTc])
  simp only [wpB]
  go_wp2
  go_ret
  exact ⟨by simp [HE.out, h0, h1, h2], hB3⟩
 rcases h3 : (decide (a.colours.val = b.colours.val))
 case false =>
  go_enter Tryz.func123, Tryz.ntmps123
  go_wp2
  refine wp_region_ord [(0, true), (1, true), (3, true), (4, true), (2, false), (5, false), (6, true), (7, true), (8, true), (9, true), (10, true), (11, true), (12, true), (13, true), (14, true), (15, true), (16, true), (17, true), (18, true), (19, false), (20, true), (21, true), (22, true), (23, true), (24, true), (25, true), (26, false), (27, true), (28, true), (29, true), (30, true), (31, true), (32, true), (33, false), (34, true), (35, true)] rfl (by kernel_rfl) (by kernel_rfl) (fun d _ _ _ _ h => by cases d <;> exact h) ?_
  refine wpB_fix rfl rfl (fun W hW => by go_simp; with_reducible rfl) ?_; simp only [pTs, pTn, pTz, pTc]
  refine wpB_fix (v := ?_) rfl rfl ?_ ?_; rotate_left; (focus (intro W hW; have hWc := fun b o => hW.cell (p := ⟨b, o, none⟩); go_simp; try with_reducible rfl)); simp only [pTs, pTn, pTz, pTc]
  refine wpB_fix rfl rfl (fun W hW => by go_simp; with_reducible rfl) ?_; simp only [pTs, pTn, pTz, pTc]
  refine wpB_fix (v := ?_) rfl rfl ?_ ?_; rotate_left; (focus (intro W hW; have hWc := fun b o => hW.cell (p := ⟨b, o, none⟩); go_simp; try with_reducible rfl)); simp only [pTs, pTn, pTz, pTc]
  refine wpB_act rfl rfl (fun K hK => ?_)
  go_simp
  refine (itemNums_any a _).mono ?_
  rintro e w1 ⟨rfl, hb1⟩
  have hB1 : Below w.heap.size w w1 := Below.call (((((Below.refl _ _).alloc (Nat.le_refl _) _).alloc (by simp) _)).drew) hb1 (Nat.le_refl _)
  have hS1 : w.heap.size + 2 ≤ w1.heap.size := Nat.le_trans (by simp) hb1.size
  have hL1a : w.heap.size < w1.heap.size := by omega
  have hL1b : w.heap.size + 1 < w1.heap.size := by omega
  have hE1a : ∀ o', w1.cell? ⟨w.heap.size, o', none⟩ = _ := fun o' => hb1.cell (p := ⟨w.heap.size, o', none⟩) (by simp; omega)
  have hE1b : ∀ o', w1.cell? ⟨w.heap.size + 1, o', none⟩ = _ := fun o' => hb1.cell (p := ⟨w.heap.size + 1, o', none⟩) (by simp)
  refine hK _ _ hb1 ?_
  clear hK K
  try simp only [pTs, pTn, pTz, pTc]
  refine wpB_act rfl rfl (fun K hK => ?_)
  go_simp
  refine (itemNums_any b _).mono ?_
  rintro e w2 ⟨rfl, hb2⟩
  have hB2 : Below w.heap.size w w2 := Below.call (hB1) hb2 (Nat.le_refl _)
  have hS2 : w.heap.size + 2 ≤ w2.heap.size := Nat.le_trans hS1 hb2.size
  have hL2a : w.heap.size < w2.heap.size := by omega
  have hL2b : w.heap.size + 1 < w2.heap.size := by omega
  have hE2a : ∀ o', w2.cell? ⟨w.heap.size, o', none⟩ = _ := fun o' => hb2.cell (p := ⟨w.heap.size, o', none⟩) (by have := hS1; show w.heap.size < w1.heap.size; omega)
  have hE2b : ∀ o', w2.cell? ⟨w.heap.size + 1, o', none⟩ = _ := fun o' => hb2.cell (p := ⟨w.heap.size + 1, o', none⟩) (by have := hS1; show w.heap.size + 1 < w1.heap.size; omega)
  refine hK _ _ hb2 ?_
  clear hK K
  try simp only [pTs, pTn, pTz, pTc]
  iterate 3 (refine wpB_fix rfl rfl (fun W hW => by go_simp; with_reducible rfl) ?_; simp only [pTs, pTn, pTz, pTc])
  refine wpB_fix (v := ?_) rfl rfl ?_ ?_; rotate_left; (focus (intro W hW; have hWc := fun b o => hW.cell (p := ⟨b, o, none⟩); go_simp; try with_reducible rfl)); simp only [pTs, pTn, pTz, pTc]
  refine wpB_fix rfl rfl (fun W hW => by go_simp; with_reducible rfl) ?_; simp only [pTs, pTn, pTz, pTc]
  refine wpB_fix (v := ?_) rfl rfl ?_ ?_; rotate_left; (focus (intro W hW; have hWc := fun b o => hW.cell (p := ⟨b, o, none⟩); go_simp; try with_reducible rfl)); simp only [pTs, pTn, pTz, pTc]
  iterate 4 (refine wpB_fix rfl rfl (fun W hW => by go_simp; with_reducible rfl) ?_; simp only [pTs, pTn, pTz, pTc])
  refine wpB_fix (v := ?_) rfl rfl ?_ ?_; rotate_left; (focus (intro W hW; have hWc := fun b o => hW.cell (p := ⟨b, o, none⟩); go_simp; try with_reducible rfl)); simp only [pTs, pTn, pTz, pTc]
  refine wpB_fix rfl rfl (fun W hW => by go_simp; with_reducible rfl) ?_; simp only [pTs, pTn, pTz, pTc]
  refine wpB_fix (v := ?_) rfl rfl ?_ ?_; rotate_left; (focus (intro W hW; have hWc := fun b o => hW.cell (p := ⟨b, o, none⟩); go_simp; try with_reducible rfl)); simp only [pTs, pTn, pTz, pTc]
  refine wpB_act rfl rfl (fun K hK => ?_)
  go_simp
  refine (HP.out _ (hB2)).mono ?_
  rintro e w3 ⟨rfl, hb3⟩
  have hB3 : Below w.heap.size w w3 := Below.call (hB2) hb3 (Nat.le_refl _)
  have hS3 : w.heap.size + 2 ≤ w3.heap.size := Nat.le_trans hS2 hb3.size
  have hL3a : w.heap.size < w3.heap.size := by omega
  have hL3b : w.heap.size + 1 < w3.heap.size := by omega
  have hE3a : ∀ o', w3.cell? ⟨w.heap.size, o', none⟩ = _ := fun o' => hb3.cell (p := ⟨w.heap.size, o', none⟩) (by have := hS2; show w.heap.size < w2.heap.size; omega)
  have hE3b : ∀ o', w3.cell? ⟨w.heap.size + 1, o', none⟩ = _ := fun o' => hb3.cell (p := ⟨w.heap.size + 1, o', none⟩) (by have := hS2; show w.heap.size + 1 < w2.heap.size; omega)
  refine hK _ _ hb3 ?_
  clear hK K
  try simp only [h2, pTs, pTn, pTz, pTc]
  iterate 3 (refine wpB_fix rfl rfl (fun W hW => by go_simp; with_reducible rfl) ?_; simp only [pTs, pTn, pTz, pTc])
  refine wpB_fix (v := ?_) rfl rfl ?_ ?_; rotate_left; (focus (intro W hW; have hWc := fun b o => hW.cell (p := ⟨b, o, none⟩); go_simp; try with_reducible rfl)); simp only [pTs, pTn, pTz, pTc]
  refine wpB_fix rfl rfl (fun W hW => by go_simp; with_reducible rfl) ?_; simp only [pTs, pTn, pTz, pTc]
  refine wpB_fix (v := ?_) rfl rfl ?_ ?_; rotate_left; (focus (intro W hW; have hWc := fun b o => hW.cell (p := ⟨b, o, none⟩); go_simp; try with_reducible rfl)); simp only [pTs, pTn, pTz, pTc]
  refine wpB_act rfl rfl (fun K hK => ?_)
  go_simp
  refine (HC.out _ (hB3)).mono ?_
  rintro e w4 ⟨rfl, hb4⟩
  have hB4 : Below w.heap.size w w4 := Below.call (hB3) hb4 (Nat.le_refl _)
  have hS4 : w.heap.size + 2 ≤ w4.heap.size := Nat.le_trans hS3 hb4.size
  have hL4a : w.heap.size < w4.heap.size := by omega
  have hL4b : w.heap.size + 1 < w4.heap.size := by omega
  have hE4a : ∀ o', w4.cell? ⟨w.heap.size, o', none⟩ = _ := fun o' => hb4.cell (p := ⟨w.heap.size, o', none⟩) (by have := hS3; show w.heap.size < w3.heap.size; omega)
  have hE4b : ∀ o', w4.cell? ⟨w.heap.size + 1, o', none⟩ = _ := fun o' => hb4.cell (p := ⟨w.heap.size + 1, o', none⟩) (by have := hS3; show w.heap.size + 1 < w3.heap.size; omega)
  refine hK _ _ hb4 ?_
  clear hK K
  try simp only [h3, pTs, pTn, pTz, pTc]
  iterate 2 (refine wpB_fix rfl rfl (fun W hW => by go_simp; with_reducible rfl) ?_; simp only [pTs, pTn, pTz, pTc])
  iterate 4 (refine wpB_skip rfl rfl ?_; simp only [pTs, pTn, pTz, pTc])
  refine wpB_skip_act rfl rfl ?_; simp only [pTs, pTn, pTz, pTc]
  iterate 2 (refine wpB_fix rfl rfl (fun W hW => by go_simp; with_reducible rfl) ?_; simp only [pTs, pTn, pTz, pTc])
  simp only [wpB]
  go_wp2
  go_ret
  exact ⟨by simp [HE.out, h0, h1, h2, h3], hB4⟩
 go_enter Tryz.func123, Tryz.ntmps123
 go_wp2
 refine wp_region_ord [(0, true), (1, true), (3, true), (4, true), (2, false), (5, false), (6, true), (7, true), (8, true), (9, true), (10, true), (11, true), (12, true), (13, true), (14, true), (15, true), (16, true), (17, true), (18, true), (19, false), (20, true), (21, true), (22, true), (23, true), (24, true), (25, true), (26, false), (27, true), (28, true), (29, true), (30, true), (31, true), (32, true), (33, false), (34, true), (35, true)] rfl (by kernel_rfl) (by kernel_rfl) (fun d _ _ _ _ h => by cases d <;> exact h) ?_
 refine wpB_fix rfl rfl (fun W hW => by go_simp; with_reducible rfl) ?_; simp only [pTs, pTn, pTz, pTc]
 refine wpB_fix (v := ?_) rfl rfl ?_ ?_; rotate_left; (focus (intro W hW; have hWc := fun b o => hW.cell (p := ⟨b, o, none⟩); go_simp; try with_reducible rfl)); simp only [pTs, pTn, pTz, pTc]
 refine wpB_fix rfl rfl (fun W hW => by go_simp; with_reducible rfl) ?_; simp only [pTs, pTn, pTz, pTc]
 refine wpB_fix (v := ?_) rfl rfl ?_ ?_; rotate_left; (focus (intro W hW; have hWc := fun b o => hW.cell (p := ⟨b, o, none⟩); go_simp; try with_reducible rfl)); simp only [pTs, pTn, pTz, pTc]
 refine wpB_act rfl rfl (fun K hK => ?_)
 go_simp
 refine (itemNums_any a _).mono ?_
 rintro e w1 ⟨rfl, hb1⟩
 have hB1 : Below w.heap.size w w1 := Below.call (((((Below.refl _ _).alloc (Nat.le_refl _) _).alloc (by simp) _)).drew) hb1 (Nat.le_refl _)
 have hS1 : w.heap.size + 2 ≤ w1.heap.size := Nat.le_trans (by simp) hb1.size
 have hL1a : w.heap.size < w1.heap.size := by omega
 have hL1b : w.heap.size + 1 < w1.heap.size := by omega
 have hE1a : ∀ o', w1.cell? ⟨w.heap.size, o', none⟩ = _ := fun o' => hb1.cell (p := ⟨w.heap.size, o', none⟩) (by simp; omega)
 have hE1b : ∀ o', w1.cell? ⟨w.heap.size + 1, o', none⟩ = _ := fun o' => hb1.cell (p := ⟨w.heap.size + 1, o', none⟩) (by simp)
 refine hK _ _ hb1 ?_
 clear hK K
 try simp only [pTs, pTn, pTz, pTc]
 refine wpB_act rfl rfl (fun K hK => ?_)
 go_simp
 refine (itemNums_any b _).mono ?_
 rintro e w2 ⟨rfl, hb2⟩
 have hB2 : Below w.heap.size w w2 := Below.call (hB1) hb2 (Nat.le_refl _)
 have hS2 : w.heap.size + 2 ≤ w2.heap.size := Nat.le_trans hS1 hb2.size
 have hL2a : w.heap.size < w2.heap.size := by omega
 have hL2b : w.heap.size + 1 < w2.heap.size := by omega
 have hE2a : ∀ o', w2.cell? ⟨w.heap.size, o', none⟩ = _ := fun o' => hb2.cell (p := ⟨w.heap.size, o', none⟩) (by have := hS1; show w.heap.size < w1.heap.size; omega)
 have hE2b : ∀ o', w2.cell? ⟨w.heap.size + 1, o', none⟩ = _ := fun o' => hb2.cell (p := ⟨w.heap.size + 1, o', none⟩) (by have := hS1; show w.heap.size + 1 < w1.heap.size; omega)
 refine hK _ _ hb2 ?_
 clear hK K
 try simp only [pTs, pTn, pTz, pTc]
 iterate 3 (refine wpB_fix rfl rfl (fun W hW => by go_simp; with_reducible rfl) ?_; simp only [pTs, pTn, pTz, pTc])
 refine wpB_fix (v := ?_) rfl rfl ?_ ?_; rotate_left; (focus (intro W hW; have hWc := fun b o => hW.cell (p := ⟨b, o, none⟩); go_simp; try with_reducible rfl)); simp only [pTs, pTn, pTz, pTc]
 refine wpB_fix rfl rfl (fun W hW => by go_simp; with_reducible rfl) ?_; simp only [pTs, pTn, pTz, pTc]
 refine wpB_fix (v := ?_) rfl rfl ?_ ?_; rotate_left; (focus (intro W hW; have hWc := fun b o => hW.cell (p := ⟨b, o, none⟩); go_simp; try with_reducible rfl)); simp only [pTs, pTn, pTz, pTc]
 iterate 4 (refine wpB_fix rfl rfl (fun W hW => by go_simp; with_reducible rfl) ?_; simp only [pTs, pTn, pTz, pTc])
 refine wpB_fix (v := ?_) rfl rfl ?_ ?_; rotate_left; (focus (intro W hW; have hWc := fun b o => hW.cell (p := ⟨b, o, none⟩); go_simp; try with_reducible rfl)); simp only [pTs, pTn, pTz, pTc]
 refine wpB_fix rfl rfl (fun W hW => by go_simp; with_reducible rfl) ?_; simp only [pTs, pTn, pTz, pTc]
 refine wpB_fix (v := ?_) rfl rfl ?_ ?_; rotate_left; (focus (intro W hW; have hWc := fun b o => hW.cell (p := ⟨b, o, none⟩); go_simp; try with_reducible rfl)); simp only [pTs, pTn, pTz, pTc]
 refine wpB_act rfl rfl (fun K hK => ?_)
 go_simp
 refine (HP.out _ (hB2)).mono ?_
 rintro e w3 ⟨rfl, hb3⟩
 have hB3 : Below w.heap.size w w3 := Below.call (hB2) hb3 (Nat.le_refl _)
 have hS3 : w.heap.size + 2 ≤ w3.heap.size := Nat.le_trans hS2 hb3.size
 have hL3a : w.heap.size < w3.heap.size := by omega
 have hL3b : w.heap.size + 1 < w3.heap.size := by omega
 have hE3a : ∀ o', w3.cell? ⟨w.heap.size, o', none⟩ = _ := fun o' => hb3.cell (p := ⟨w.heap.size, o', none⟩) (by have := hS2; show w.heap.size < w2.heap.size; omega)
 have hE3b : ∀ o', w3.cell? ⟨w.heap.size + 1, o', none⟩ = _ := fun o' => hb3.cell (p := ⟨w.heap.size + 1, o', none⟩) (by have := hS2; show w.heap.size + 1 < w2.heap.size; omega)
 refine hK _ _ hb3 ?_
 clear hK K
 try simp only [h2, pTs, pTn, pTz, pTc]
 iterate 3 (refine wpB_fix rfl rfl (fun W hW => by go_simp; with_reducible rfl) ?_; simp only [pTs, pTn, pTz, pTc])
 refine wpB_fix (v := ?_) rfl rfl ?_ ?_; rotate_left; (focus (intro W hW; have hWc := fun b o => hW.cell (p := ⟨b, o, none⟩); go_simp; try with_reducible rfl)); simp only [pTs, pTn, pTz, pTc]
 refine wpB_fix rfl rfl (fun W hW => by go_simp; with_reducible rfl) ?_; simp only [pTs, pTn, pTz, pTc]
 refine wpB_fix (v := ?_) rfl rfl ?_ ?_; rotate_left; (focus (intro W hW; have hWc := fun b o => hW.cell (p := ⟨b, o, none⟩); go_simp; try with_reducible rfl)); simp only [pTs, pTn, pTz, pTc]
 refine wpB_act rfl rfl (fun K hK => ?_)
 go_simp
 refine (HC.out _ (hB3)).mono ?_
 rintro e w4 ⟨rfl, hb4⟩
 have hB4 : Below w.heap.size w w4 := Below.call (hB3) hb4 (Nat.le_refl _)
 have hS4 : w.heap.size + 2 ≤ w4.heap.size := Nat.le_trans hS3 hb4.size
 have hL4a : w.heap.size < w4.heap.size := by omega
 have hL4b : w.heap.size + 1 < w4.heap.size := by omega
 have hE4a : ∀ o', w4.cell? ⟨w.heap.size, o', none⟩ = _ := fun o' => hb4.cell (p := ⟨w.heap.size, o', none⟩) (by have := hS3; show w.heap.size < w3.heap.size; omega)
 have hE4b : ∀ o', w4.cell? ⟨w.heap.size + 1, o', none⟩ = _ := fun o' => hb4.cell (p := ⟨w.heap.size + 1, o', none⟩) (by have := hS3; show w.heap.size + 1 < w3.heap.size; omega)
 refine hK _ _ hb4 ?_
 clear hK K
 try simp only [h3, pTs, pTn, pTz, pTc]
 iterate 3 (refine wpB_fix rfl rfl (fun W hW => by go_simp; with_reducible rfl) ?_; simp only [pTs, pTn, pTz, pTc])
 refine wpB_fix (v := ?_) rfl rfl ?_ ?_; rotate_left; (focus (intro W hW; have hWc := fun b o => hW.cell (p := ⟨b, o, none⟩); go_simp; try with_reducible rfl)); simp only [pTs, pTn, pTz, pTc]
 refine wpB_fix rfl rfl (fun W hW => by go_simp; with_reducible rfl) ?_; simp only [pTs, pTn, pTz, pTc]
 refine wpB_fix (v := ?_) rfl rfl ?_ ?_; rotate_left; (focus (intro W hW; have hWc := fun b o => hW.cell (p := ⟨b, o, none⟩); go_simp; try with_reducible rfl)); simp only [pTs, pTn, pTz, pTc]
 refine wpB_act rfl rfl (fun K hK => ?_)
 go_simp
 refine (HS.out _ (hB4)).mono ?_
 rintro e w5 ⟨rfl, hb5⟩
 have hB5 : Below w.heap.size w w5 := Below.call (hB4) hb5 (Nat.le_refl _)
 have hS5 : w.heap.size + 2 ≤ w5.heap.size := Nat.le_trans hS4 hb5.size
 have hL5a : w.heap.size < w5.heap.size := by omega
 have hL5b : w.heap.size + 1 < w5.heap.size := by omega
 have hE5a : ∀ o', w5.cell? ⟨w.heap.size, o', none⟩ = _ := fun o' => hb5.cell (p := ⟨w.heap.size, o', none⟩) (by have := hS4; show w.heap.size < w4.heap.size; omega)
 have hE5b : ∀ o', w5.cell? ⟨w.heap.size + 1, o', none⟩ = _ := fun o' => hb5.cell (p := ⟨w.heap.size + 1, o', none⟩) (by have := hS4; show w.heap.size + 1 < w4.heap.size; omega)
 refine hK _ _ hb5 ?_
 clear hK K
 try simp only [pTs, pTn, pTz, pTc]
 iterate 2 (refine wpB_fix rfl rfl (fun W hW => by go_simp; with_reducible rfl) ?_; simp only [pTs, pTn, pTz, pTc])
 simp only [wpB]
 go_wp2
 go_ret
 exact ⟨by simp [HE.out, h0, h1, h2, h3], hB5⟩
end Go.Proofs.YtnmgfnpphglphaaGreat
