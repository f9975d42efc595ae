/-
  Two notes are equal: walked.
-/
import Derived.Test.YtnmgfnpphglphaaGreatSameItem
import Derived.Test.YtnmgfnpphglphaaGreatBox
set_option maxHeartbeats 16000000
set_option maxRecDepth 100000
set_option linter.unusedVariables false
set_option linter.unusedSimpArgs false
namespace Go.Proofs.YtnmgfnpphglphaaGreat
open Go.RowKit
theorem okNote_item {D : Nat → Prop} {w : World} {x : Note} (h : okNote D w x) : okItem D w x.item := by
 simp only [okNote, okItem] at h ⊢; simp only [h, and_self]
theorem sameNote_c0 (D : Nat → Prop) (a b : Note) (w : World) (ha : okNote D w a) (hb : okNote D w b) (h0 : (eqNums (noteNums a) (noteNums b)) = false) :
  Calls Tryz.prog 66 #[.agg (encNote a), .agg (encNote b)] w fun e w' => e = .returned (.bool (decide (a.abs = b.abs))) ∧ Below w.heap.size w w' := by
 have HP : Hid (∀ W, Below w.heap.size w W → Calls Tryz.prog 120 #[.slice a.pieces.a a.pieces.val.length a.pieces.cap, .slice b.pieces.a b.pieces.val.length b.pieces.cap] W fun e w' => e = .returned (.bool (decide (a.pieces.val = b.pieces.val))) ∧ Below W.heap.size W w') := Lib.hid fun W hW => equal_int D a.pieces b.pieces W ((okNote.ext ha (.of_below hW)).2.2.2.2.2.2.2.2.2.2.2.2.2.2.2.2.2.2.2.2.2.2.1) ((okNote.ext hb (.of_below hW)).2.2.2.2.2.2.2.2.2.2.2.2.2.2.2.2.2.2.2.2.2.2.1)
 have HQ : Hid (∀ W, Below w.heap.size w W → Calls Tryz.prog 120 #[.slice a.panes.a a.panes.val.length a.panes.cap, .slice b.panes.a b.panes.val.length b.panes.cap] W fun e w' => e = .returned (.bool (decide (a.panes.val = b.panes.val))) ∧ Below W.heap.size W w') := Lib.hid fun W hW => equal_int D a.panes b.panes W ((okNote.ext ha (.of_below hW)).2.2.2.2.2.2.2.2.2.2.2.2.2.2.2.2.2.2.2.2.2.2.2.1) ((okNote.ext hb (.of_below hW)).2.2.2.2.2.2.2.2.2.2.2.2.2.2.2.2.2.2.2.2.2.2.2.1)
 have HD : Hid (∀ W, Below w.heap.size w W → Calls Tryz.prog 121 #[.slice a.data.a a.data.val.length a.data.cap, .slice b.data.a b.data.val.length b.data.cap, .func (.func 122) #[] #[]] W fun e w' => e = .returned (.bool (decide (a.data.val.map Piece.abs = b.data.val.map Piece.abs))) ∧ Below W.heap.size W w') := Lib.hid fun W hW => equalFunc_Piece D a.data b.data W ((okNote.ext ha (.of_below hW)).2.2.2.2.2.2.2.2.2.2.2.2.2.2.2.2.2.2.2.2.2.2.2.2.1) ((okNote.ext hb (.of_below hW)).2.2.2.2.2.2.2.2.2.2.2.2.2.2.2.2.2.2.2.2.2.2.2.2.1)
 have HI : Hid (∀ W, Below w.heap.size w W → Calls Tryz.prog 123 #[.agg (encItem a.item), .agg (encItem b.item)] W fun e w' => e = .returned (.bool (decide (a.item.abs = b.item.abs))) ∧ Below W.heap.size W w') := Lib.hid fun W hW => sameItem_any D a.item b.item W (okNote_item (okNote.ext ha (.of_below hW))) (okNote_item (okNote.ext hb (.of_below hW)))
 have HE : Hid (decide (a.abs = b.abs) = (eqNums (noteNums a) (noteNums b) && (eqSetting a.setting b.setting && (eqRef a.ref b.ref && (decide (a.pieces.val = b.pieces.val) && (decide (a.panes.val = b.panes.val) && (decide (a.data.val.map Piece.abs = b.data.val.map Piece.abs) && (decide (a.item.abs = b.item.abs))))))))) := Lib.hid (by
  rw [Bool.eq_iff_iff]; simp [Note.abs, eqNums, noteNums, eqSetting, eqRef]; try grind)
 clear ha hb
 go_enter Tryz.func66, Tryz.ntmps66
 have hA0 : BoxAt ((w.alloc (.cells (encNote a) 43)).alloc (.cells (encNote b) 43)).drew w.heap.size 43 (encNote a) := ((BoxAt.new _ _ _).alloc _).drew
 have hA1 : BoxAt ((w.alloc (.cells (encNote a) 43)).alloc (.cells (encNote b) 43)).drew (w.heap.size + 1) 43 (encNote b) := by have := BoxAt.new (w.alloc (.cells (encNote a) 43)) 43 (encNote b); rw [World.size_alloc] at this; exact this.drew
 go_wp2
 refine wp_region_ord [(0, true), (1, true), (3, true), (4, true), (2, false), (5, false), (6, true), (7, true), (8, true), (9, true), (10, true), (11, true), (12, true), (13, true), (14, true), (15, true), (16, true), (17, true), (18, true), (19, true), (20, true), (21, true), (22, true), (23, true), (24, true), (25, true), (26, false), (27, true), (28, true), (29, true), (30, true), (31, true), (32, true), (33, false), (34, true), (35, true), (36, true), (37, true), (38, true), (39, true), (40, false), (41, true), (42, true), (43, true), (44, true), (45, true), (46, true), (47, false), (48, true), (49, true)] rfl (by kernel_rfl) (by kernel_rfl) (fun d _ _ _ _ h => by cases d <;> exact h) ?_
 refine wpB_fix rfl rfl (fun W hW => by go_simp; with_reducible rfl) ?_; simp only [pTs, pTn, pTz, pTc]
 refine wpB_fix (v := .agg (encNote a)) rfl rfl (fun W hW => run_load_box (encNote a) (hA0.belowAll hW) rfl (whole_cells _) Tryz.underlying43 rfl (by kernel_rfl)) ?_; simp only [pTs, pTn, pTz, pTc]
 refine wpB_fix rfl rfl (fun W hW => by go_simp; with_reducible rfl) ?_; simp only [pTs, pTn, pTz, pTc]
 refine wpB_fix (v := .agg (encNote b)) rfl rfl (fun W hW => run_load_box (encNote b) (hA1.belowAll hW) rfl (whole_cells _) Tryz.underlying43 rfl (by kernel_rfl)) ?_; simp only [pTs, pTn, pTz, pTc]
 refine wpB_act rfl rfl (fun K hK => ?_)
 go_simp
 refine (noteNums_any a _).mono ?_
 rintro e w1 ⟨rfl, hb1⟩
 have hB1 : Below w.heap.size w w1 := Below.call (((((Below.refl _ _).alloc (Nat.le_refl _) _).alloc (by simp) _)).drew) hb1 (Nat.le_refl _)
 have hS1 : w.heap.size + 2 ≤ w1.heap.size := Nat.le_trans (by simp) hb1.size
 have hL1a : w.heap.size < w1.heap.size := by omega
 have hL1b : w.heap.size + 1 < w1.heap.size := by omega
 have hE1a : ∀ o', w1.cell? ⟨w.heap.size, o', none⟩ = _ := fun o' => hb1.cell (p := ⟨w.heap.size, o', none⟩) (by simp; omega)
 have hE1b : ∀ o', w1.cell? ⟨w.heap.size + 1, o', none⟩ = _ := fun o' => hb1.cell (p := ⟨w.heap.size + 1, o', none⟩) (by simp)
 refine hK _ _ hb1 ?_
 clear hK K
 try simp only [pTs, pTn, pTz, pTc]
 refine wpB_act rfl rfl (fun K hK => ?_)
 go_simp
 refine (noteNums_any b _).mono ?_
 rintro e w2 ⟨rfl, hb2⟩
 have hB2 : Below w.heap.size w w2 := Below.call (hB1) hb2 (Nat.le_refl _)
 have hS2 : w.heap.size + 2 ≤ w2.heap.size := Nat.le_trans hS1 hb2.size
 have hL2a : w.heap.size < w2.heap.size := by omega
 have hL2b : w.heap.size + 1 < w2.heap.size := by omega
 have hE2a : ∀ o', w2.cell? ⟨w.heap.size, o', none⟩ = _ := fun o' => hb2.cell (p := ⟨w.heap.size, o', none⟩) (by have := hS1; show w.heap.size < w1.heap.size; omega)
 have hE2b : ∀ o', w2.cell? ⟨w.heap.size + 1, o', none⟩ = _ := fun o' => hb2.cell (p := ⟨w.heap.size + 1, o', none⟩) (by have := hS1; show w.heap.size + 1 < w1.heap.size; omega)
 refine hK _ _ hb2 ?_
 clear hK K
 try simp only [pTs, pTn, pTz, pTc]
 iterate 2 (refine wpB_fix rfl rfl (fun W hW => by go_simp; with_reducible rfl) ?_; simp only [pTs, pTn, pTz, pTc])
 iterate 5 (refine wpB_skip rfl rfl ?_; simp only [pTs, pTn, pTz, pTc])
 iterate 2 (refine wpB_fix rfl rfl (fun W hW => by go_simp; with_reducible rfl) ?_; simp only [pTs, pTn, pTz, pTc])
 iterate 5 (refine wpB_skip rfl rfl ?_; simp only [pTs, pTn, pTz, pTc])
 iterate 2 (refine wpB_fix rfl rfl (fun W hW => by go_simp; with_reducible rfl) ?_; simp only [pTs, pTn, pTz, pTc])
 iterate 4 (refine wpB_skip rfl rfl ?_; simp only [pTs, pTn, pTz, pTc])
 refine wpB_skip_act rfl rfl ?_; simp only [pTs, pTn, pTz, pTc]
 iterate 2 (refine wpB_fix rfl rfl (fun W hW => by go_simp; with_reducible rfl) ?_; simp only [pTs, pTn, pTz, pTc])
 iterate 4 (refine wpB_skip rfl rfl ?_; simp only [pTs, pTn, pTz, pTc])
 refine wpB_skip_act rfl rfl ?_; simp only [pTs, pTn, pTz, pTc]
 iterate 2 (refine wpB_fix rfl rfl (fun W hW => by go_simp; with_reducible rfl) ?_; simp only [pTs, pTn, pTz, pTc])
 iterate 4 (refine wpB_skip rfl rfl ?_; simp only [pTs, pTn, pTz, pTc])
 refine wpB_skip_act rfl rfl ?_; simp only [pTs, pTn, pTz, pTc]
 iterate 2 (refine wpB_fix rfl rfl (fun W hW => by go_simp; with_reducible rfl) ?_; simp only [pTs, pTn, pTz, pTc])
 iterate 4 (refine wpB_skip rfl rfl ?_; simp only [pTs, pTn, pTz, pTc])
 refine wpB_skip_act rfl rfl ?_; simp only [pTs, pTn, pTz, pTc]
 iterate 2 (refine wpB_fix rfl rfl (fun W hW => by go_simp; with_reducible rfl) ?_; simp only [pTs, pTn, pTz, pTc])
 simp only [wpB]
 go_wp2
 go_ret
 exact ⟨by simp [HE.out, h0], hB2⟩
theorem sameNote_c1 (D : Nat → Prop) (a b : Note) (w : World) (ha : okNote D w a) (hb : okNote D w b) (h0 : (eqNums (noteNums a) (noteNums b)) = true) (h1 : (eqSetting a.setting b.setting) = false) :
  Calls Tryz.prog 66 #[.agg (encNote a), .agg (encNote b)] w fun e w' => e = .returned (.bool (decide (a.abs = b.abs))) ∧ Below w.heap.size w w' := by
 have HP : Hid (∀ W, Below w.heap.size w W → Calls Tryz.prog 120 #[.slice a.pieces.a a.pieces.val.length a.pieces.cap, .slice b.pieces.a b.pieces.val.length b.pieces.cap] W fun e w' => e = .returned (.bool (decide (a.pieces.val = b.pieces.val))) ∧ Below W.heap.size W w') := Lib.hid fun W hW => equal_int D a.pieces b.pieces W ((okNote.ext ha (.of_below hW)).2.2.2.2.2.2.2.2.2.2.2.2.2.2.2.2.2.2.2.2.2.2.1) ((okNote.ext hb (.of_below hW)).2.2.2.2.2.2.2.2.2.2.2.2.2.2.2.2.2.2.2.2.2.2.1)
 have HQ : Hid (∀ W, Below w.heap.size w W → Calls Tryz.prog 120 #[.slice a.panes.a a.panes.val.length a.panes.cap, .slice b.panes.a b.panes.val.length b.panes.cap] W fun e w' => e = .returned (.bool (decide (a.panes.val = b.panes.val))) ∧ Below W.heap.size W w') := Lib.hid fun W hW => equal_int D a.panes b.panes W ((okNote.ext ha (.of_below hW)).2.2.2.2.2.2.2.2.2.2.2.2.2.2.2.2.2.2.2.2.2.2.2.1) ((okNote.ext hb (.of_below hW)).2.2.2.2.2.2.2.2.2.2.2.2.2.2.2.2.2.2.2.2.2.2.2.1)
 have HD : Hid (∀ W, Below w.heap.size w W → Calls Tryz.prog 121 #[.slice a.data.a a.data.val.length a.data.cap, .slice b.data.a b.data.val.length b.data.cap, .func (.func 122) #[] #[]] W fun e w' => e = .returned (.bool (decide (a.data.val.map Piece.abs = b.data.val.map Piece.abs))) ∧ Below W.heap.size W w') := Lib.hid fun W hW => equalFunc_Piece D a.data b.data W ((okNote.ext ha (.of_below hW)).2.2.2.2.2.2.2.2.2.2.2.2.2.2.2.2.2.2.2.2.2.2.2.2.1) ((okNote.ext hb (.of_below hW)).2.2.2.2.2.2.2.2.2.2.2.2.2.2.2.2.2.2.2.2.2.2.2.2.1)
 have HI : Hid (∀ W, Below w.heap.size w W → Calls Tryz.prog 123 #[.agg (encItem a.item), .agg (encItem b.item)] W fun e w' => e = .returned (.bool (decide (a.item.abs = b.item.abs))) ∧ Below W.heap.size W w') := Lib.hid fun W hW => sameItem_any D a.item b.item W (okNote_item (okNote.ext ha (.of_below hW))) (okNote_item (okNote.ext hb (.of_below hW)))
 have HE : Hid (decide (a.abs = b.abs) = (eqNums (noteNums a) (noteNums b) && (eqSetting a.setting b.setting && (eqRef a.ref b.ref && (decide (a.pieces.val = b.pieces.val) && (decide (a.panes.val = b.panes.val) && (decide (a.data.val.map Piece.abs = b.data.val.map Piece.abs) && (decide (a.item.abs = b.item.abs))))))))) := Lib.hid (by
  rw [Bool.eq_iff_iff]; simp [Note.abs, eqNums, noteNums, eqSetting, eqRef]; try grind)
 clear ha hb
 go_enter Tryz.func66, Tryz.ntmps66
 have hA0 : BoxAt ((w.alloc (.cells (encNote a) 43)).alloc (.cells (encNote b) 43)).drew w.heap.size 43 (encNote a) := ((BoxAt.new _ _ _).alloc _).drew
 have hA1 : BoxAt ((w.alloc (.cells (encNote a) 43)).alloc (.cells (encNote b) 43)).drew (w.heap.size + 1) 43 (encNote b) := by have := BoxAt.new (w.alloc (.cells (encNote a) 43)) 43 (encNote b); rw [World.size_alloc] at this; exact this.drew
 go_wp2
 refine wp_region_ord [(0, true), (1, true), (3, true), (4, true), (2, false), (5, false), (6, true), (7, true), (8, true), (9, true), (10, true), (11, true), (12, true), (13, true), (14, true), (15, true), (16, true), (17, true), (18, true), (19, true), (20, true), (21, true), (22, true), (23, true), (24, true), (25, true), (26, false), (27, true), (28, true), (29, true), (30, true), (31, true), (32, true), (33, false), (34, true), (35, true), (36, true), (37, true), (38, true), (39, true), (40, false), (41, true), (42, true), (43, true), (44, true), (45, true), (46, true), (47, false), (48, true), (49, true)] rfl (by kernel_rfl) (by kernel_rfl) (fun d _ _ _ _ h => by cases d <;> exact h) ?_
 refine wpB_fix rfl rfl (fun W hW => by go_simp; with_reducible rfl) ?_; simp only [pTs, pTn, pTz, pTc]
 refine wpB_fix (v := .agg (encNote a)) rfl rfl (fun W hW => run_load_box (encNote a) (hA0.belowAll hW) rfl (whole_cells _) Tryz.underlying43 rfl (by kernel_rfl)) ?_; simp only [pTs, pTn, pTz, pTc]
 refine wpB_fix rfl rfl (fun W hW => by go_simp; with_reducible rfl) ?_; simp only [pTs, pTn, pTz, pTc]
 refine wpB_fix (v := .agg (encNote b)) rfl rfl (fun W hW => run_load_box (encNote b) (hA1.belowAll hW) rfl (whole_cells _) Tryz.underlying43 rfl (by kernel_rfl)) ?_; simp only [pTs, pTn, pTz, pTc]
 refine wpB_act rfl rfl (fun K hK => ?_)
 go_simp
 refine (noteNums_any a _).mono ?_
 rintro e w1 ⟨rfl, hb1⟩
 have hB1 : Below w.heap.size w w1 := Below.call (((((Below.refl _ _).alloc (Nat.le_refl _) _).alloc (by simp) _)).drew) hb1 (Nat.le_refl _)
 have hS1 : w.heap.size + 2 ≤ w1.heap.size := Nat.le_trans (by simp) hb1.size
 have hL1a : w.heap.size < w1.heap.size := by omega
 have hL1b : w.heap.size + 1 < w1.heap.size := by omega
 have hE1a : ∀ o', w1.cell? ⟨w.heap.size, o', none⟩ = _ := fun o' => hb1.cell (p := ⟨w.heap.size, o', none⟩) (by simp; omega)
 have hE1b : ∀ o', w1.cell? ⟨w.heap.size + 1, o', none⟩ = _ := fun o' => hb1.cell (p := ⟨w.heap.size + 1, o', none⟩) (by simp)
 refine hK _ _ hb1 ?_
 clear hK K
 try simp only [pTs, pTn, pTz, pTc]
 refine wpB_act rfl rfl (fun K hK => ?_)
 go_simp
 refine (noteNums_any b _).mono ?_
 rintro e w2 ⟨rfl, hb2⟩
 have hB2 : Below w.heap.size w w2 := Below.call (hB1) hb2 (Nat.le_refl _)
 have hS2 : w.heap.size + 2 ≤ w2.heap.size := Nat.le_trans hS1 hb2.size
 have hL2a : w.heap.size < w2.heap.size := by omega
 have hL2b : w.heap.size + 1 < w2.heap.size := by omega
 have hE2a : ∀ o', w2.cell? ⟨w.heap.size, o', none⟩ = _ := fun o' => hb2.cell (p := ⟨w.heap.size, o', none⟩) (by have := hS1; show w.heap.size < w1.heap.size; omega)
 have hE2b : ∀ o', w2.cell? ⟨w.heap.size + 1, o', none⟩ = _ := fun o' => hb2.cell (p := ⟨w.heap.size + 1, o', none⟩) (by have := hS1; show w.heap.size + 1 < w1.heap.size; omega)
 refine hK _ _ hb2 ?_
 clear hK K
 try simp only [pTs, pTn, pTz, pTc]
 iterate 3 (refine wpB_fix rfl rfl (fun W hW => by go_simp; with_reducible rfl) ?_; simp only [pTs, pTn, pTz, pTc])
 refine wpB_fix (v := ?_) rfl rfl ?_ ?_; rotate_left; (focus (intro W hW; have hWc := fun b o => hW.cell (p := ⟨b, o, none⟩); go_simp; try with_reducible rfl)); simp only [pTs, pTn, pTz, pTc]
 refine wpB_fix rfl rfl (fun W hW => by go_simp; with_reducible rfl) ?_; simp only [pTs, pTn, pTz, pTc]
 refine wpB_fix (v := ?_) rfl rfl ?_ ?_; rotate_left; (focus (intro W hW; have hWc := fun b o => hW.cell (p := ⟨b, o, none⟩); go_simp; try with_reducible rfl)); simp only [pTs, pTn, pTz, pTc]
 iterate 3 (refine wpB_fix rfl rfl (fun W hW => by go_simp; with_reducible rfl) ?_; simp only [pTs, pTn, pTz, pTc])
 iterate 5 (refine wpB_skip rfl rfl ?_; simp only [pTs, pTn, pTz, pTc])
 iterate 2 (refine wpB_fix rfl rfl (fun W hW => by go_simp; with_reducible rfl) ?_; simp only [pTs, pTn, pTz, pTc])
 iterate 4 (refine wpB_skip rfl rfl ?_; simp only [pTs, pTn, pTz, pTc])
 refine wpB_skip_act rfl rfl ?_; simp only [pTs, pTn, pTz, pTc]
 iterate 2 (refine wpB_fix rfl rfl (fun W hW => by go_simp; with_reducible rfl) ?_; simp only [pTs, pTn, pTz, pTc])
 iterate 4 (refine wpB_skip rfl rfl ?_; simp only [pTs, pTn, pTz, pTc])
 refine wpB_skip_act rfl rfl ?_; simp only [pTs, pTn, pTz, pTc]
 iterate 2 (refine wpB_fix rfl rfl (fun W hW => by go_simp; with_reducible rfl) ?_; simp only [pTs, pTn, pTz, pTc])
 iterate 4 (refine wpB_skip rfl rfl ?_; simp only [pTs, pTn, pTz, pTc])
 refine wpB_skip_act rfl rfl ?_; simp only [pTs, pTn, pTz, pTc]
 iterate 2 (refine wpB_fix rfl rfl (fun W hW => by go_simp; with_reducible rfl) ?_; simp only [pTs, pTn, pTz, pTc])
 iterate 4 (refine wpB_skip rfl rfl ?_; simp only [pTs, pTn, pTz, pTc])
 refine wpB_skip_act rfl rfl ?_; simp only [pTs, pTn, pTz, pTc]
 iterate 2 (refine wpB_fix rfl rfl (fun W hW => by go_simp; with_reducible rfl) ?_; simp only [pTs, pTn, pTz, pTc])
 simp only [wpB]
 go_wp2
 go_ret
 exact ⟨by simp [HE.out, h0, h1], hB2⟩
theorem sameNote_c2 (D : Nat → Prop) (a b : Note) (w : World) (ha : okNote D w a) (hb : okNote D w b) (h0 : (eqNums (noteNums a) (noteNums b)) = true) (h1 : (eqSetting a.setting b.setting) = true) (h2 : (eqRef a.ref b.ref) = false) :
  Calls Tryz.prog 66 #[.agg (encNote a), .agg (encNote b)] w fun e w' => e = .returned (.bool (decide (a.abs = b.abs))) ∧ Below w.heap.size w w' := by
 have HP : Hid (∀ W, Below w.heap.size w W → Calls Tryz.prog 120 #[.slice a.pieces.a a.pieces.val.length a.pieces.cap, .slice b.pieces.a b.pieces.val.length b.pieces.cap] W fun e w' => e = .returned (.bool (decide (a.pieces.val = b.pieces.val))) ∧ Below W.heap.size W w') := Lib.hid fun W hW => equal_int D a.pieces b.pieces W ((okNote.ext ha (.of_below hW)).2.2.2.2.2.2.2.2.2.2.2.2.2.2.2.2.2.2.2.2.2.2.1) ((okNote.ext hb (.of_below hW)).2.2.2.2.2.2.2.2.2.2.2.2.2.2.2.2.2.2.2.2.2.2.1)
 have HQ : Hid (∀ W, Below w.heap.size w W → Calls Tryz.prog 120 #[.slice a.panes.a a.panes.val.length a.panes.cap, .slice b.panes.a b.panes.val.length b.panes.cap] W fun e w' => e = .returned (.bool (decide (a.panes.val = b.panes.val))) ∧ Below W.heap.size W w') := Lib.hid fun W hW => equal_int D a.panes b.panes W ((okNote.ext ha (.of_below hW)).2.2.2.2.2.2.2.2.2.2.2.2.2.2.2.2.2.2.2.2.2.2.2.1) ((okNote.ext hb (.of_below hW)).2.2.2.2.2.2.2.2.2.2.2.2.2.2.2.2.2.2.2.2.2.2.2.1)
 have HD : Hid (∀ W, Below w.heap.size w W → Calls Tryz.prog 121 #[.slice a.data.a a.data.val.length a.data.cap, .slice b.data.a b.data.val.length b.data.cap, .func (.func 122) #[] #[]] W fun e w' => e = .returned (.bool (decide (a.data.val.map Piece.abs = b.data.val.map Piece.abs))) ∧ Below W.heap.size W w') := Lib.hid fun W hW => equalFunc_Piece D a.data b.data W ((okNote.ext ha (.of_below hW)).2.2.2.2.2.2.2.2.2.2.2.2.2.2.2.2.2.2.2.2.2.2.2.2.1) ((okNote.ext hb (.of_below hW)).2.2.2.2.2.2.2.2.2.2.2.2.2.2.2.2.2.2.2.2.2.2.2.2.1)
 have HI : Hid (∀ W, Below w.heap.size w W → Calls Tryz.prog 123 #[.agg (encItem a.item), .agg (encItem b.item)] W fun e w' => e = .returned (.bool (decide (a.item.abs = b.item.abs))) ∧ Below W.heap.size W w') := Lib.hid fun W hW => sameItem_any D a.item b.item W (okNote_item (okNote.ext ha (.of_below hW))) (okNote_item (okNote.ext hb (.of_below hW)))
 have HE : Hid (decide (a.abs = b.abs) = (eqNums (noteNums a) (noteNums b) && (eqSetting a.setting b.setting && (eqRef a.ref b.ref && (decide (a.pieces.val = b.pieces.val) && (decide (a.panes.val = b.panes.val) && (decide (a.data.val.map Piece.abs = b.data.val.map Piece.abs) && (decide (a.item.abs = b.item.abs))))))))) := Lib.hid (by
  rw [Bool.eq_iff_iff]; simp [Note.abs, eqNums, noteNums, eqSetting, eqRef]; try grind)
 clear ha hb
 go_enter Tryz.func66, Tryz.ntmps66
 have hA0 : BoxAt ((w.alloc (.cells (encNote a) 43)).alloc (.cells (encNote b) 43)).drew w.heap.size 43 (encNote a) := ((BoxAt.new _ _ _).alloc _).drew
 have hA1 : BoxAt ((w.alloc (.cells (encNote a) 43)).alloc (.cells (encNote b) 43)).drew (w.heap.size + 1) 43 (encNote b) := by have := BoxAt.new (w.alloc (.cells (encNote a) 43)) 43 (encNote b); rw [World.size_alloc] at this; exact this.drew
 go_wp2
 refine wp_region_ord [(0, true), (1, true), (3, true), (4, true), (2, false), (5, false), (6, true), (7, true), (8, true), (9, true), (10, true), (11, true), (12, true), (13, true), (14, true), (15, true), (16, true), (17, true), (18, true), (19, true), (20, true), (21, true), (22, true), (23, true), (24, true), (25, true), (26, false), (27, true), (28, true), (29, true), (30, true), (31, true), (32, true), (33, false), (34, true), (35, true), (36, true), (37, true), (38, true), (39, true), (40, false), (41, true), (42, true), (43, true), (44, true), (45, true), (46, true), (47, false), (48, true), (49, true)] rfl (by kernel_rfl) (by kernel_rfl) (fun d _ _ _ _ h => by cases d <;> exact h) ?_
 refine wpB_fix rfl rfl (fun W hW => by go_simp; with_reducible rfl) ?_; simp only [pTs, pTn, pTz, pTc]
 refine wpB_fix (v := .agg (encNote a)) rfl rfl (fun W hW => run_load_box (encNote a) (hA0.belowAll hW) rfl (whole_cells _) Tryz.underlying43 rfl (by kernel_rfl)) ?_; simp only [pTs, pTn, pTz, pTc]
 refine wpB_fix rfl rfl (fun W hW => by go_simp; with_reducible rfl) ?_; simp only [pTs, pTn, pTz, pTc]
 refine wpB_fix (v := .agg (encNote b)) rfl rfl (fun W hW => run_load_box (encNote b) (hA1.belowAll hW) rfl (whole_cells _) Tryz.underlying43 rfl (by kernel_rfl)) ?_; simp only [pTs, pTn, pTz, pTc]
 refine wpB_act rfl rfl (fun K hK => ?_)
 go_simp
 refine (noteNums_any a _).mono ?_
 rintro e w1 ⟨rfl, hb1⟩
 have hB1 : Below w.heap.size w w1 := Below.call (((((Below.refl _ _).alloc (Nat.le_refl _) _).alloc (by simp) _)).drew) hb1 (Nat.le_refl _)
 have hS1 : w.heap.size + 2 ≤ w1.heap.size := Nat.le_trans (by simp) hb1.size
 have hL1a : w.heap.size < w1.heap.size := by omega
 have hL1b : w.heap.size + 1 < w1.heap.size := by omega
 have hE1a : ∀ o', w1.cell? ⟨w.heap.size, o', none⟩ = _ := fun o' => hb1.cell (p := ⟨w.heap.size, o', none⟩) (by simp; omega)
 have hE1b : ∀ o', w1.cell? ⟨w.heap.size + 1, o', none⟩ = _ := fun o' => hb1.cell (p := ⟨w.heap.size + 1, o', none⟩) (by simp)
 refine hK _ _ hb1 ?_
 clear hK K
 try simp only [pTs, pTn, pTz, pTc]
 refine wpB_act rfl rfl (fun K hK => ?_)
 go_simp
 refine (noteNums_any b _).mono ?_
 rintro e w2 ⟨rfl, hb2⟩
 have hB2 : Below w.heap.size w w2 := Below.call (hB1) hb2 (Nat.le_refl _)
 have hS2 : w.heap.size + 2 ≤ w2.heap.size := Nat.le_trans hS1 hb2.size
 have hL2a : w.heap.size < w2.heap.size := by omega
 have hL2b : w.heap.size + 1 < w2.heap.size := by omega
 have hE2a : ∀ o', w2.cell? ⟨w.heap.size, o', none⟩ = _ := fun o' => hb2.cell (p := ⟨w.heap.size, o', none⟩) (by have := hS1; show w.heap.size < w1.heap.size; omega)
 have hE2b : ∀ o', w2.cell? ⟨w.heap.size + 1, o', none⟩ = _ := fun o' => hb2.cell (p := ⟨w.heap.size + 1, o', none⟩) (by have := hS1; show w.heap.size + 1 < w1.heap.size; omega)
 refine hK _ _ hb2 ?_
 clear hK K
 try simp only [pTs, pTn, pTz, pTc]
 iterate 3 (refine wpB_fix rfl rfl (fun W hW => by go_simp; with_reducible rfl) ?_; simp only [pTs, pTn, pTz, pTc])
 refine wpB_fix (v := ?_) rfl rfl ?_ ?_; rotate_left; (focus (intro W hW; have hWc := fun b o => hW.cell (p := ⟨b, o, none⟩); go_simp; try with_reducible rfl)); simp only [pTs, pTn, pTz, pTc]
 refine wpB_fix rfl rfl (fun W hW => by go_simp; with_reducible rfl) ?_; simp only [pTs, pTn, pTz, pTc]
 refine wpB_fix (v := ?_) rfl rfl ?_ ?_; rotate_left; (focus (intro W hW; have hWc := fun b o => hW.cell (p := ⟨b, o, none⟩); go_simp; try with_reducible rfl)); simp only [pTs, pTn, pTz, pTc]
 iterate 4 (refine wpB_fix rfl rfl (fun W hW => by go_simp; with_reducible rfl) ?_; simp only [pTs, pTn, pTz, pTc])
 refine wpB_fix (v := ?_) rfl rfl ?_ ?_; rotate_left; (focus (intro W hW; have hWc := fun b o => hW.cell (p := ⟨b, o, none⟩); go_simp; try with_reducible rfl)); simp only [pTs, pTn, pTz, pTc]
 refine wpB_fix rfl rfl (fun W hW => by go_simp; with_reducible rfl) ?_; simp only [pTs, pTn, pTz, pTc]
 refine wpB_fix (v := ?_) rfl rfl ?_ ?_; rotate_left; (focus (intro W hW; have hWc := fun b o => hW.cell (p := ⟨b, o, none⟩); go_simp; try with_reducible rfl)); simp only [pTs, pTn, pTz, pTc]
 iterate 3 (refine wpB_fix rfl rfl (fun W hW => by go_simp; with_reducible rfl) ?_; simp only [pTs, pTn, pTz, pTc])
 iterate 4 (refine wpB_skip rfl rfl ?_; simp only [pTs, pTn, pTz, pTc])
 refine wpB_skip_act rfl rfl ?_; simp only [pTs, pTn, pTz, pTc]
 iterate 2 (refine wpB_fix rfl rfl (fun W hW => by go_simp; with_reducible rfl) ?_; simp only [pTs, pTn, pTz, pTc])
 iterate 4 (refine wpB_skip rfl rfl ?_; simp only [pTs, pTn, pTz, pTc])
 refine wpB_skip_act rfl rfl ?_; simp only [pTs, pTn, pTz, pTc]
 iterate 2 (refine wpB_fix rfl rfl (fun W hW => by go_simp; with_reducible rfl) ?_; simp only [pTs, pTn, pTz, pTc])
 iterate 4 (refine wpB_skip rfl rfl ?_; simp only [pTs, pTn, pTz, pTc])
 refine wpB_skip_act rfl rfl ?_; simp only [pTs, pTn, pTz, pTc]
 iterate 2 (refine wpB_fix rfl rfl (fun W hW => by go_simp; with_reducible rfl) ?_; simp only [pTs, pTn, pTz, pTc])
 iterate 4 (refine wpB_skip rfl rfl ?_; simp only [pTs, pTn, pTz, pTc])
 refine wpB_skip_act rfl rfl ?_; simp only [pTs, pTn, pTz, pTc]
 iterate 2 (refine wpB_fix rfl rfl (fun W hW => by go_simp; with_reducible rfl) ?_; simp only [pTs, pTn, pTz, pTc])
 simp only [wpB]
 go_wp2
 go_ret
 exact ⟨by simp [HE.out, h0, h1, h2], hB2⟩
theorem sameNote_c3 (D : Nat → Prop) (a b : Note) (w : World) (ha : okNote D w a) (hb : okNote D w b) (h0 : (eqNums (noteNums a) (noteNums b)) = true) (h1 : (eqSetting a.setting b.setting) = true) (h2 : (eqRef a.ref b.ref) = true) (h3 : (decide (a.pieces.val = b.pieces.val)) = false) :
  Calls Tryz.prog 66 #[.agg (encNote a), .agg (encNote b)] w fun e w' => e = .returned (.bool (decide (a.abs = b.abs))) ∧ Below w.heap.size w w' := by
 have HP : Hid (∀ W, Below w.heap.size w W → Calls Tryz.prog 120 #[.slice a.pieces.a a.pieces.val.length a.pieces.cap, .slice b.pieces.a b.pieces.val.length b.pieces.cap] W fun e w' => e = .returned (.bool (decide (a.pieces.val = b.pieces.val))) ∧ Below W.heap.size W w') := Lib.hid fun W hW => equal_int D a.pieces b.pieces W ((okNote.ext ha (.of_below hW)).2.2.2.2.2.2.2.2.2.2.2.2.2.2.2.2.2.2.2.2.2.2.1) ((okNote.ext hb (.of_below hW)).2.2.2.2.2.2.2.2.2.2.2.2.2.2.2.2.2.2.2.2.2.2.1)
 have HQ : Hid (∀ W, Below w.heap.size w W → Calls Tryz.prog 120 #[.slice a.panes.a a.panes.val.length a.panes.cap, .slice b.panes.a b.panes.val.length b.panes.cap] W fun e w' => e = .returned (.bool (decide (a.panes.val = b.panes.val))) ∧ Below W.heap.size W w') := Lib.hid fun W hW => equal_int D a.panes b.panes W ((okNote.ext ha (.of_below hW)).2.2.2.2.2.2.2.2.2.2.2.2.2.2.2.2.2.2.2.2.2.2.2.1) ((okNote.ext hb (.of_below hW)).2.2.2.2.2.2.2.2.2.2.2.2.2.2.2.2.2.2.2.2.2.2.2.1)
 have HD : Hid (∀ W, Below w.heap.size w W → Calls Tryz.prog 121 #[.slice a.data.a a.data.val.length a.data.cap, .slice b.data.a b.data.val.length b.data.cap, .func (.func 122) #[] #[]] W fun e w' => e = .returned (.bool (decide (a.data.val.map Piece.abs = b.data.val.map Piece.abs))) ∧ Below W.heap.size W w') := Lib.hid fun W hW => equalFunc_Piece D a.data b.data W ((okNote.ext ha (.of_below hW)).2.2.2.2.2.2.2.2.2.2.2.2.2.2.2.2.2.2.2.2.2.2.2.2.1) ((okNote.ext hb (.of_below hW)).2.2.2.2.2.2.2.2.2.2.2.2.2.2.2.2.2.2.2.2.2.2.2.2.1)
 have HI : Hid (∀ W, Below w.heap.size w W → Calls Tryz.prog 123 #[.agg (encItem a.item), .agg (encItem b.item)] W fun e w' => e = .returned (.bool (decide (a.item.abs = b.item.abs))) ∧ Below W.heap.size W w') := Lib.hid fun W hW => sameItem_any D a.item b.item W (okNote_item (okNote.ext ha (.of_below hW))) (okNote_item (okNote.ext hb (.of_below hW)))
 have HE : Hid (decide (a.abs = b.abs) = (eqNums (noteNums a) (noteNums b) && (eqSetting a.setting b.setting && (eqRef a.ref b.ref && (decide (a.pieces.val = b.pieces.val) && (decide (a.panes.val = b.panes.val) && (decide (a.data.val.map Piece.abs = b.data.val.map Piece.abs) && (decide (a.item.abs = b.item.abs))))))))) := Lib.hid (by
  rw [Bool.eq_iff_iff]; simp [Note.abs, eqNums, noteNums, eqSetting, eqRef]; try grind)
 clear ha hb
 go_enter Tryz.func66, Tryz.ntmps66
 have hA0 : BoxAt ((w.alloc (.cells (encNote a) 43)).alloc (.cells (encNote b) 43)).drew w.heap.size 43 (encNote a) := ((BoxAt.new _ _ _).alloc _).drew
 have hA1 : BoxAt ((w.alloc (.cells (encNote a) 43)).alloc (.cells (encNote b) 43)).drew (w.heap.size + 1) 43 (encNote b) := by have := BoxAt.new (w.alloc (.cells (encNote a) 43)) 43 (encNote b); rw [World.size_alloc] at this; exact this.drew
 go_wp2
 refine wp_region_ord [(0, true), (1, true), (3, true), (4, true), (2, false), (5, false), (6, true), (7, true), (8, true), (9, true), (10, true), (11, true), (12, true), (13, true), (14, true), (15, true), (16, true), (17, true), (18, true), (19, true), (20, true), (21, true), (22, true), (23, true), (24, true), (25, true), (26, false), (27, true), (28, true), (29, true), (30, true), (31, true), (32, true), (33, false), (34, true), (35, true), (36, true), (37, true), (38, true), (39, true), (40, false), (41, true), (42, true), (43, true), (44, true), (45, true), (46, true), (47, false), (48, true), (49, true)] rfl (by kernel_rfl) (by kernel_rfl) (fun d _ _ _ _ h => by cases d <;> exact h) ?_
 refine wpB_fix rfl rfl (fun W hW => by go_simp; with_reducible rfl) ?_; simp only [pTs, pTn, pTz, pTc]
 refine wpB_fix (v := .agg (encNote a)) rfl rfl (fun W hW => run_load_box (encNote a) (hA0.belowAll hW) rfl (whole_cells _) Tryz.underlying43 rfl (by kernel_rfl)) ?_; simp only [pTs, pTn, pTz, pTc]
 refine wpB_fix rfl rfl (fun W hW => by go_simp; with_reducible rfl) ?_; simp only [pTs, pTn, pTz, pTc]
 refine wpB_fix (v := .agg (encNote b)) rfl rfl (fun W hW => run_load_box (encNote b) (hA1.belowAll hW) rfl (whole_cells _) Tryz.underlying43 rfl (by kernel_rfl)) ?_; simp only [pTs, pTn, pTz, pTc]
 refine wpB_act rfl rfl (fun K hK => ?_)
 go_simp
 refine (noteNums_any a _).mono ?_
 rintro e w1 ⟨rfl, hb1⟩
 have hB1 : Below w.heap.size w w1 := Below.call (((((Below.refl _ _).alloc (Nat.le_refl _) _).alloc (by simp) _)).drew) hb1 (Nat.le_refl _)
 have hS1 : w.heap.size + 2 ≤ w1.heap.size := Nat.le_trans (by simp) hb1.size
 have hL1a : w.heap.size < w1.heap.size := by omega
 have hL1b : w.heap.size + 1 < w1.heap.size := by omega
 have hE1a : ∀ o', w1.cell? ⟨w.heap.size, o', none⟩ = _ := fun o' => hb1.cell (p := ⟨w.heap.size, o', none⟩) (by simp; omega)
 have hE1b : ∀ o', w1.cell? ⟨w.heap.size + 1, o', none⟩ = _ := fun o' => hb1.cell (p := ⟨w.heap.size + 1, o', none⟩) (by simp)
 refine hK _ _ hb1 ?_
 clear hK K
 try simp only [pTs, pTn, pTz, pTc]
 refine wpB_act rfl rfl (fun K hK => ?_)
 go_simp
 refine (noteNums_any b _).mono ?_
 rintro e w2 ⟨rfl, hb2⟩
 have hB2 : Below w.heap.size w w2 := Below.call (hB1) hb2 (Nat.le_refl _)
 have hS2 : w.heap.size + 2 ≤ w2.heap.size := Nat.le_trans hS1 hb2.size
 have hL2a : w.heap.size < w2.heap.size := by omega
 have hL2b : w.heap.size + 1 < w2.heap.size := by omega
 have hE2a : ∀ o', w2.cell? ⟨w.heap.size, o', none⟩ = _ := fun o' => hb2.cell (p := ⟨w.heap.size, o', none⟩) (by have := hS1; show w.heap.size < w1.heap.size; omega)
 have hE2b : ∀ o', w2.cell? ⟨w.heap.size + 1, o', none⟩ = _ := fun o' => hb2.cell (p := ⟨w.heap.size + 1, o', none⟩) (by have := hS1; show w.heap.size + 1 < w1.heap.size; omega)
 refine hK _ _ hb2 ?_
 clear hK K
 try simp only [pTs, pTn, pTz, pTc]
 iterate 3 (refine wpB_fix rfl rfl (fun W hW => by go_simp; with_reducible rfl) ?_; simp only [pTs, pTn, pTz, pTc])
 refine wpB_fix (v := ?_) rfl rfl ?_ ?_; rotate_left; (focus (intro W hW; have hWc := fun b o => hW.cell (p := ⟨b, o, none⟩); go_simp; try with_reducible rfl)); simp only [pTs, pTn, pTz, pTc]
 refine wpB_fix rfl rfl (fun W hW => by go_simp; with_reducible rfl) ?_; simp only [pTs, pTn, pTz, pTc]
 refine wpB_fix (v := ?_) rfl rfl ?_ ?_; rotate_left; (focus (intro W hW; have hWc := fun b o => hW.cell (p := ⟨b, o, none⟩); go_simp; try with_reducible rfl)); simp only [pTs, pTn, pTz, pTc]
 iterate 4 (refine wpB_fix rfl rfl (fun W hW => by go_simp; with_reducible rfl) ?_; simp only [pTs, pTn, pTz, pTc])
 refine wpB_fix (v := ?_) rfl rfl ?_ ?_; rotate_left; (focus (intro W hW; have hWc := fun b o => hW.cell (p := ⟨b, o, none⟩); go_simp; try with_reducible rfl)); simp only [pTs, pTn, pTz, pTc]
 refine wpB_fix rfl rfl (fun W hW => by go_simp; with_reducible rfl) ?_; simp only [pTs, pTn, pTz, pTc]
 refine wpB_fix (v := ?_) rfl rfl ?_ ?_; rotate_left; (focus (intro W hW; have hWc := fun b o => hW.cell (p := ⟨b, o, none⟩); go_simp; try with_reducible rfl)); simp only [pTs, pTn, pTz, pTc]
 iterate 4 (refine wpB_fix rfl rfl (fun W hW => by go_simp; with_reducible rfl) ?_; simp only [pTs, pTn, pTz, pTc])
 refine wpB_fix (v := ?_) rfl rfl ?_ ?_; rotate_left; (focus (intro W hW; have hWc := fun b o => hW.cell (p := ⟨b, o, none⟩); go_simp; try with_reducible rfl)); simp only [pTs, pTn, pTz, pTc]
 refine wpB_fix rfl rfl (fun W hW => by go_simp; with_reducible rfl) ?_; simp only [pTs, pTn, pTz, pTc]
 refine wpB_fix (v := ?_) rfl rfl ?_ ?_; rotate_left; (focus (intro W hW; have hWc := fun b o => hW.cell (p := ⟨b, o, none⟩); go_simp; try with_reducible rfl)); simp only [pTs, pTn, pTz, pTc]
 refine wpB_act rfl rfl (fun K hK => ?_)
 go_simp
 refine (HP.out _ (hB2)).mono ?_
 rintro e w3 ⟨rfl, hb3⟩
 have hB3 : Below w.heap.size w w3 := Below.call (hB2) hb3 (Nat.le_refl _)
 have hS3 : w.heap.size + 2 ≤ w3.heap.size := Nat.le_trans hS2 hb3.size
 have hL3a : w.heap.size < w3.heap.size := by omega
 have hL3b : w.heap.size + 1 < w3.heap.size := by omega
 have hE3a : ∀ o', w3.cell? ⟨w.heap.size, o', none⟩ = _ := fun o' => hb3.cell (p := ⟨w.heap.size, o', none⟩) (by have := hS2; show w.heap.size < w2.heap.size; omega)
 have hE3b : ∀ o', w3.cell? ⟨w.heap.size + 1, o', none⟩ = _ := fun o' => hb3.cell (p := ⟨w.heap.size + 1, o', none⟩) (by have := hS2; show w.heap.size + 1 < w2.heap.size; omega)
 refine hK _ _ hb3 ?_
 clear hK K
 try simp only [h3, pTs, pTn, pTz, pTc]
 iterate 2 (refine wpB_fix rfl rfl (fun W hW => by go_simp; with_reducible rfl) ?_; simp only [pTs, pTn, pTz, pTc])
 iterate 4 (refine wpB_skip rfl rfl ?_; simp only [pTs, pTn, pTz, pTc])
 refine wpB_skip_act rfl rfl ?_; simp only [pTs, pTn, pTz, pTc]
 iterate 2 (refine wpB_fix rfl rfl (fun W hW => by go_simp; with_reducible rfl) ?_; simp only [pTs, pTn, pTz, pTc])
 iterate 4 (refine wpB_skip rfl rfl ?_; simp only [pTs, pTn, pTz, pTc])
 refine wpB_skip_act rfl rfl ?_; simp only [pTs, pTn, pTz, pTc]
 iterate 2 (refine wpB_fix rfl rfl (fun W hW => by go_simp; with_reducible rfl) ?_; simp only [pTs, pTn, pTz, pTc])
 iterate 4 (refine wpB_skip rfl rfl ?_; simp only [pTs, pTn, pTz, pTc])
 refine wpB_skip_act rfl rfl ?_; simp only [pTs, pTn, pTz, pTc]
 iterate 2 (refine wpB_fix rfl rfl (fun W hW => by go_simp; with_reducible rfl) ?_; simp only [pTs, pTn, pTz, pTc])
 simp only [wpB]
 go_wp2
 go_ret
 exact ⟨by simp [HE.out, h0, h1, h2, h3], hB3⟩
theorem sameNote_c4 (D : Nat → Prop) (a b : Note) (w : World) (ha : okNote D w a) (hb : okNote D w b) (h0 : (eqNums (noteNums a) (noteNums b)) = true) (h1 : (eqSetting a.setting b.setting) = true) (h2 : (eqRef a.ref b.ref) = true) (h3 : (decide (a.pieces.val = b.pieces.val)) = true) (h4 : (decide (a.panes.val = b.panes.val)) = false) :
  Calls Tryz.prog 66 #[.agg (encNote a), .agg (encNote b)] w fun e w' => e = .returned (.bool (decide (a.abs = b.abs))) ∧ Below w.heap.size w w' := by
 have HP : Hid (∀ W, Below w.heap.size w W → Calls Tryz.prog 120 #[.slice a.pieces.a a.pieces.val.length a.pieces.cap, .slice b.pieces.a b.pieces.val.length b.pieces.cap] W fun e w' => e = .returned (.bool (decide (a.pieces.val = b.pieces.val))) ∧ Below W.heap.size W w') := Lib.hid fun W hW => equal_int D a.pieces b.pieces W ((okNote.ext ha (.of_below hW)).2.2.2.2.2.2.2.2.2.2.2.2.2.2.2.2.2.2.2.2.2.2.1) ((okNote.ext hb (.of_below hW)).2.2.2.2.2.2.2.2.2.2.2.2.2.2.2.2.2.2.2.2.2.2.1)
 have HQ : Hid (∀ W, Below w.heap.size w W → Calls Tryz.prog 120 #[.slice a.panes.a a.panes.val.length a.panes.cap, .slice b.panes.a b.panes.val.length b.panes.cap] W fun e w' => e = .returned (.bool (decide (a.panes.val = b.panes.val))) ∧ Below W.heap.size W w') := Lib.hid fun W hW => equal_int D a.panes b.panes W ((okNote.ext ha (.of_below hW)).2.2.2.2.2.2.2.2.2.2.2.2.2.2.2.2.2.2.2.2.2.2.2.1) ((okNote.ext hb (.of_below hW)).2.2.2.2.2.2.2.2.2.2.2.2.2.2.2.2.2.2.2.2.2.2.2.1)
 have HD : Hid (∀ W, Below w.heap.size w W → Calls Tryz.prog 121 #[.slice a.data.a a.data.val.length a.data.cap, .slice b.data.a b.data.val.length b.data.cap, .func (.func 122) #[] #[]] W fun e w' => e = .returned (.bool (decide (a.data.val.map Piece.abs = b.data.val.map Piece.abs))) ∧ Below W.heap.size W w') := Lib.hid fun W hW => equalFunc_Piece D a.data b.data W ((okNote.ext ha (.of_below hW)).2.2.2.2.2.2.2.2.2.2.2.2.2.2.2.2.2.2.2.2.2.2.2.2.1) ((okNote.ext hb (.of_below hW)).2.2.2.2.2.2.2.2.2.2.2.2.2.2.2.2.2.2.2.2.2.2.2.2.1)
 have HI : Hid (∀ W, Below w.heap.size w W → Calls Tryz.prog 123 #[.agg (encItem a.item), .agg (encItem b.item)] W fun e w' => e = .returned (.bool (decide (a.item.abs = b.item.abs))) ∧ Below W.heap.size W w') := Lib.hid fun W hW => sameItem_any D a.item b.item W (okNote_item (okNote.ext ha (.of_below hW))) (okNote_item (okNote.ext hb (.of_below hW)))
 have HE : Hid (decide (a.abs = b.abs) = (eqNums (noteNums a) (noteNums b) && (eqSetting a.setting b.setting && (eqRef a.ref b.ref && (decide (a.pieces.val = b.pieces.val) && (decide (a.panes.val = b.panes.val) && (decide (a.data.val.map Piece.abs = b.data.val.map Piece.abs) && (decide (a.item.abs = b.item.abs))))))))) := Lib.hid (by
  rw [Bool.eq_iff_iff]; simp [Note.abs, eqNums, noteNums, eqSetting, eqRef]; try grind)
 clear ha hb
 go_enter Tryz.func66, Tryz.ntmps66
 have hA0 : BoxAt ((w.alloc (.cells (encNote a) 43)).alloc (.cells (encNote b) 43)).drew w.heap.size 43 (encNote a) := ((BoxAt.new _ _ _).alloc _).drew
 have hA1 : BoxAt ((w.alloc (.cells (encNote a) 43)).alloc (.cells (encNote b) 43)).drew (w.heap.size + 1) 43 (encNote b) := by have := BoxAt.new (w.alloc (.cells (encNote a) 43)) 43 (encNote b); rw [World.size_alloc] at this; exact this.drew
 go_wp2
 refine wp_region_ord [(0, true), (1, true), (3, true), (4, true), (2, false), (5, false), (6, true), (7, true), (8, true), (9, true), (10, true), (11, true), (12, true), (13, true), (14, true), (15, true), (16, true), (17, true), (18, true), (19, true), (20, true), (21, true), (22, true), (23, true), (24, true), (25, true), (26, false), (27, true), (28, true), (29, true), (30, true), (31, true), (32, true), (33, false), (34, true), (35, true), (36, true), (37, true), (38, true), (39, true), (40, false), (41, true), (42, true), (43, true), (44, true), (45, true), (46, true), (47, false), (48, true), (49, true)] rfl (by kernel_rfl) (by kernel_rfl) (fun d _ _ _ _ h => by cases d <;> exact h) ?_
 refine wpB_fix rfl rfl (fun W hW => by go_simp; with_reducible rfl) ?_; simp only [pTs, pTn, pTz, pTc]
 refine wpB_fix (v := .agg (encNote a)) rfl rfl (fun W hW => run_load_box (encNote a) (hA0.belowAll hW) rfl (whole_cells _) Tryz.underlying43 rfl (by kernel_rfl)) ?_; simp only [pTs, pTn, pTz, pTc]
 refine wpB_fix rfl rfl (fun W hW => by go_simp; with_reducible rfl) ?_; simp only [pTs, pTn, pTz, pTc]
 refine wpB_fix (v := .agg (encNote b)) rfl rfl (fun W hW => run_load_box (encNote b) (hA1.belowAll hW) rfl (whole_cells _) Tryz.underlying43 rfl (by kernel_rfl)) ?_; simp only [pTs, pTn, pTz, pTc]
 refine wpB_act rfl rfl (fun K hK => ?_)
 go_simp
 refine (noteNums_any a _).mono ?_
 rintro e w1 ⟨rfl, hb1⟩
 have hB1 : Below w.heap.size w w1 := Below.call (((((Below.refl _ _).alloc (Nat.le_refl _) _).alloc (by simp) _)).drew) hb1 (Nat.le_refl _)
 have hS1 : w.heap.size + 2 ≤ w1.heap.size := Nat.le_trans (by simp) hb1.size
 have hL1a : w.heap.size < w1.heap.size := by omega
 have hL1b : w.heap.size + 1 < w1.heap.size := by omega
 have hE1a : ∀ o', w1.cell? ⟨w.heap.size, o', none⟩ = _ := fun o' => hb1.cell (p := ⟨w.heap.size, o', none⟩) (by simp; omega)
 have hE1b : ∀ o', w1.cell? ⟨w.heap.size + 1, o', none⟩ = _ := fun o' => hb1.cell (p := ⟨w.heap.size + 1, o', none⟩) (by simp)
 refine hK _ _ hb1 ?_
 clear hK K
 try simp only [pTs, pTn, pTz, pTc]
 refine wpB_act rfl rfl (fun K hK => ?_)
 go_simp
 refine (noteNums_any b _).mono ?_
 rintro e w2 ⟨rfl, hb2⟩
 have hB2 : Below w.heap.size w w2 := Below.call (hB1) hb2 (Nat.le_refl _)
 have hS2 : w.heap.size + 2 ≤ w2.heap.size := Nat.le_trans hS1 hb2.size
 have hL2a : w.heap.size < w2.heap.size := by omega
 have hL2b : w.heap.size + 1 < w2.heap.size := by omega
 have hE2a : ∀ o', w2.cell? ⟨w.heap.size, o', none⟩ = _ := fun o' => hb2.cell (p := ⟨w.heap.size, o', none⟩) (by have := hS1; show w.heap.size < w1.heap.size; omega)
 have hE2b : ∀ o', w2.cell? ⟨w.heap.size + 1, o', none⟩ = _ := fun o' => hb2.cell (p := ⟨w.heap.size + 1, o', none⟩) (by have := hS1; show w.heap.size + 1 < w1.heap.size; omega)
 refine hK _ _ hb2 ?_
 clear hK K
 try simp only [pTs, pTn, pTz, pTc]
 iterate 3 (refine wpB_fix rfl rfl (fun W hW => by go_simp; with_reducible rfl) ?_; simp only [pTs, pTn, pTz, pTc])
 refine wpB_fix (v := ?_) rfl rfl ?_ ?_; rotate_left; (focus (intro W hW; have hWc := fun b o => hW.cell (p := ⟨b, o, none⟩); go_simp; try with_reducible rfl)); simp only [pTs, pTn, pTz, pTc]
 refine wpB_fix rfl rfl (fun W hW => by go_simp; with_reducible rfl) ?_; simp only [pTs, pTn, pTz, pTc]
 refine wpB_fix (v := ?_) rfl rfl ?_ ?_; rotate_left; (focus (intro W hW; have hWc := fun b o => hW.cell (p := ⟨b, o, none⟩); go_simp; try with_reducible rfl)); simp only [pTs, pTn, pTz, pTc]
 iterate 4 (refine wpB_fix rfl rfl (fun W hW => by go_simp; with_reducible rfl) ?_; simp only [pTs, pTn, pTz, pTc])
 refine wpB_fix (v := ?_) rfl rfl ?_ ?_; rotate_left; (focus (intro W hW; have hWc := fun b o => hW.cell (p := ⟨b, o, none⟩); go_simp; try with_reducible rfl)); simp only [pTs, pTn, pTz, pTc]
 refine wpB_fix rfl rfl (fun W hW => by go_simp; with_reducible rfl) ?_; simp only [pTs, pTn, pTz, pTc]
 refine wpB_fix (v := ?_) rfl rfl ?_ ?_; rotate_left; (focus (intro W hW; have hWc := fun b o => hW.cell (p := ⟨b, o, none⟩); go_simp; try with_reducible rfl)); simp only [pTs, pTn, pTz, pTc]
 iterate 4 (refine wpB_fix rfl rfl (fun W hW => by go_simp; with_reducible rfl) ?_; simp only [pTs, pTn, pTz, pTc])
 refine wpB_fix (v := ?_) rfl rfl ?_ ?_; rotate_left; (focus (intro W hW; have hWc := fun b o => hW.cell (p := ⟨b, o, none⟩); go_simp; try with_reducible rfl)); simp only [pTs, pTn, pTz, pTc]
 refine wpB_fix rfl rfl (fun W hW => by go_simp; with_reducible rfl) ?_; simp only [pTs, pTn, pTz, pTc]
 refine wpB_fix (v := ?_) rfl rfl ?_ ?_; rotate_left; (focus (intro W hW; have hWc := fun b o => hW.cell (p := ⟨b, o, none⟩); go_simp; try with_reducible rfl)); simp only [pTs, pTn, pTz, pTc]
 refine wpB_act rfl rfl (fun K hK => ?_)
 go_simp
 refine (HP.out _ (hB2)).mono ?_
 rintro e w3 ⟨rfl, hb3⟩
 have hB3 : Below w.heap.size w w3 := Below.call (hB2) hb3 (Nat.le_refl _)
 have hS3 : w.heap.size + 2 ≤ w3.heap.size := Nat.le_trans hS2 hb3.size
 have hL3a : w.heap.size < w3.heap.size := by omega
 have hL3b : w.heap.size + 1 < w3.heap.size := by omega
 have hE3a : ∀ o', w3.cell? ⟨w.heap.size, o', none⟩ = _ := fun o' => hb3.cell (p := ⟨w.heap.size, o', none⟩) (by have := hS2; show w.heap.size < w2.heap.size; omega)
 have hE3b : ∀ o', w3.cell? ⟨w.heap.size + 1, o', none⟩ = _ := fun o' => hb3.cell (p := ⟨w.heap.size + 1, o', none⟩) (by have := hS2; show w.heap.size + 1 < w2.heap.size; omega)
 refine hK _ _ hb3 ?_
 clear hK K
 try simp only [h3, pTs, pTn, pTz, pTc]
 iterate 3 (refine wpB_fix rfl rfl (fun W hW => by go_simp; with_reducible rfl) ?_; simp only [pTs, pTn, pTz, pTc])
 refine wpB_fix (v := ?_) rfl rfl ?_ ?_; rotate_left; (focus (intro W hW; have hWc := fun b o => hW.cell (p := ⟨b, o, none⟩); go_simp; try with_reducible rfl)); simp only [pTs, pTn, pTz, pTc]
 refine wpB_fix rfl rfl (fun W hW => by go_simp; with_reducible rfl) ?_; simp only [pTs, pTn, pTz, pTc]
 refine wpB_fix (v := ?_) rfl rfl ?_ ?_; rotate_left; (focus (intro W hW; have hWc := fun b o => hW.cell (p := ⟨b, o, none⟩); go_simp; try with_reducible rfl)); simp only [pTs, pTn, pTz, pTc]
 refine wpB_act rfl rfl (fun K hK => ?_)
 go_simp
 refine (HQ.out _ (hB3)).mono ?_
 rintro e w4 ⟨rfl, hb4⟩
 have hB4 : Below w.heap.size w w4 := Below.call (hB3) hb4 (Nat.le_refl _)
 have hS4 : w.heap.size + 2 ≤ w4.heap.size := Nat.le_trans hS3 hb4.size
 have hL4a : w.heap.size < w4.heap.size := by omega
 have hL4b : w.heap.size + 1 < w4.heap.size := by omega
 have hE4a : ∀ o', w4.cell? ⟨w.heap.size, o', none⟩ = _ := fun o' => hb4.cell (p := ⟨w.heap.size, o', none⟩) (by have := hS3; show w.heap.size < w3.heap.size; omega)
 have hE4b : ∀ o', w4.cell? ⟨w.heap.size + 1, o', none⟩ = _ := fun o' => hb4.cell (p := ⟨w.heap.size + 1, o', none⟩) (by have := hS3; show w.heap.size + 1 < w3.heap.size; omega)
 refine hK _ _ hb4 ?_
 clear hK K
 try simp only [h4, pTs, pTn, pTz, pTc]
 iterate 2 (refine wpB_fix rfl rfl (fun W hW => by go_simp; with_reducible rfl) ?_; simp only [pTs, pTn, pTz, pTc])
 iterate 4 (refine wpB_skip rfl rfl ?_; simp only [pTs, pTn, pTz, pTc])
 refine wpB_skip_act rfl rfl ?_; simp only [pTs, pTn, pTz, pTc]
 iterate 2 (refine wpB_fix rfl rfl (fun W hW => by go_simp; with_reducible rfl) ?_; simp only [pTs, pTn, pTz, pTc])
 iterate 4 (refine wpB_skip rfl rfl ?_; simp only [pTs, pTn, pTz, pTc])
 refine wpB_skip_act rfl rfl ?_; simp only [pTs, pTn, pTz, pTc]
 iterate 2 (refine wpB_fix rfl rfl (fun W hW => by go_simp; with_reducible rfl) ?_; simp only [pTs, pTn, pTz, pTc])
 simp only [wpB]
 go_wp2
 go_ret
 exact ⟨by simp [HE.out, h0, h1, h2, h3, h4], hB4⟩
theorem sameNote_c5 (D : Nat → Prop) (a b : Note) (w : World) (ha : okNote D w a) (hb : okNote D w b) (h0 : (eqNums (noteNums a) (noteNums b)) = true) (h1 : (eqSetting a.setting b.setting) = true) (h2 : (eqRef a.ref b.ref) = true) (h3 : (decide (a.pieces.val = b.pieces.val)) = true) (h4 : (decide (a.panes.val = b.panes.val)) = true) (h5 : (decide (a.data.val.map Piece.abs = b.data.val.map Piece.abs)) = false) :
  Calls Tryz.prog 66 #[.agg (encNote a), .agg (encNote b)] w fun e w' => e = .returned (.bool (decide (a.abs = b.abs))) ∧ Below w.heap.size w w' := by
 have HP : Hid (∀ W, Below w.heap.size w W → Calls Tryz.prog 120 #[.slice a.pieces.a a.pieces.val.length a.pieces.cap, .slice b.pieces.a b.pieces.val.length b.pieces.cap] W fun e w' => e = .returned (.bool (decide (a.pieces.val = b.pieces.val))) ∧ Below W.heap.size W w') := Lib.hid fun W hW => equal_int D a.pieces b.pieces W ((okNote.ext ha (.of_below hW)).2.2.2.2.2.2.2.2.2.2.2.2.2.2.2.2.2.2.2.2.2.2.1) ((okNote.ext hb (.of_below hW)).2.2.2.2.2.2.2.2.2.2.2.2.2.2.2.2.2.2.2.2.2.2.1)
 have HQ : Hid (∀ W, Below w.heap.size w W → Calls Tryz.prog 120 #[.slice a.panes.a a.panes.val.length a.panes.cap, .slice b.panes.a b.panes.val.length b.panes.cap] W fun e w' => e = .returned (.bool (decide (a.panes.val = b.panes.val))) ∧ Below W.heap.size W w') := Lib.hid fun W hW => equal_int D a.panes b.panes W ((okNote.ext ha (.of_below hW)).2.2.2.2.2.2.2.2.2.2.2.2.2.2.2.2.2.2.2.2.2.2.2.1) ((okNote.ext hb (.of_below hW)).2.2.2.2.2.2.2.2.2.2.2.2.2.2.2.2.2.2.2.2.2.2.2.1)
 have HD : Hid (∀ W, Below w.heap.size w W → Calls Tryz.prog 121 #[.slice a.data.a a.data.val.length a.data.cap, .slice b.data.a b.data.val.length b.data.cap, .func (.func 122) #[] #[]] W fun e w' => e = .returned (.bool (decide (a.data.val.map Piece.abs = b.data.val.map Piece.abs))) ∧ Below W.heap.size W w') := Lib.hid fun W hW => equalFunc_Piece D a.data b.data W ((okNote.ext ha (.of_below hW)).2.2.2.2.2.2.2.2.2.2.2.2.2.2.2.2.2.2.2.2.2.2.2.2.1) ((okNote.ext hb (.of_below hW)).2.2.2.2.2.2.2.2.2.2.2.2.2.2.2.2.2.2.2.2.2.2.2.2.1)
 have HI : Hid (∀ W, Below w.heap.size w W → Calls Tryz.prog 123 #[.agg (encItem a.item), .agg (encItem b.item)] W fun e w' => e = .returned (.bool (decide (a.item.abs = b.item.abs))) ∧ Below W.heap.size W w') := Lib.hid fun W hW => sameItem_any D a.item b.item W (okNote_item (okNote.ext ha (.of_below hW))) (okNote_item (okNote.ext hb (.of_below hW)))
 have HE : Hid (decide (a.abs = b.abs) = (eqNums (noteNums a) (noteNums b) && (eqSetting a.setting b.setting && (eqRef a.ref b.ref && (decide (a.pieces.val = b.pieces.val) && (decide (a.panes.val = b.panes.val) && (decide (a.data.val.map Piece.abs = b.data.val.map Piece.abs) && (decide (a.item.abs = b.item.abs))))))))) := Lib.hid (by
  rw [Bool.eq_iff_iff]; simp [Note.abs, eqNums, noteNums, eqSetting, eqRef]; try grind)
 clear ha hb
 go_enter Tryz.func66, Tryz.ntmps66
 have hA0 : BoxAt ((w.alloc (.cells (encNote a) 43)).alloc (.cells (encNote b) 43)).drew w.heap.size 43 (encNote a) := ((BoxAt.new _ _ _).alloc _).drew
 have hA1 : BoxAt ((w.alloc (.cells (encNote a) 43)).alloc (.cells (encNote b) 43)).drew (w.heap.size + 1) 43 (encNote b) := by have := BoxAt.new (w.alloc (.cells (encNote a) 43)) 43 (encNote b); rw [World.size_alloc] at this; exact this.drew
 go_wp2
 refine wp_region_ord [(0, true), (1, true), (3, true), (4, true), (2, false), (5, false), (6, true), (7, true), (8, true), (9, true), (10, true), (11, true), (12, true), (13, true), (14, true), (15, true), (16, true), (17, true), (18, true), (19, true), (20, true), (21, true), (22, true), (23, true), (24, true), (25, true), (26, false), (27, true), (28, true), (29, true), (30, true), (31, true), (32, true), (33, false), (34, true), (35, true), (36, true), (37, true), (38, true), (39, true), (40, false), (41, true), (42, true), (43, true), (44, true), (45, true), (46, true), (47, false), (48, true), (49, true)] rfl (by kernel_rfl) (by kernel_rfl) (fun d _ _ _ _ h => by cases d <;> exact h) ?_
 refine wpB_fix rfl rfl (fun W hW => by go_simp; with_reducible rfl) ?_; simp only [pTs, pTn, pTz, pTc]
 refine wpB_fix (v := .agg (encNote a)) rfl rfl (fun W hW => run_load_box (encNote a) (hA0.belowAll hW) rfl (whole_cells _) Tryz.underlying43 rfl (by kernel_rfl)) ?_; simp only [pTs, pTn, pTz, pTc]
 refine wpB_fix rfl rfl (fun W hW => by go_simp; with_reducible rfl) ?_; simp only [pTs, pTn, pTz, pTc]
 refine wpB_fix (v := .agg (encNote b)) rfl rfl (fun W hW => run_load_box (encNote b) (hA1.belowAll hW) rfl (whole_cells _) Tryz.underlying43 rfl (by kernel_rfl)) ?_; simp only [pTs, pTn, pTz, pTc]
 refine wpB_act rfl rfl (fun K hK => ?_)
 go_simp
 refine (noteNums_any a _).mono ?_
 rintro e w1 ⟨rfl, hb1⟩
 have hB1 : Below w.heap.size w w1 := Below.call (((((Below.refl _ _).alloc (Nat.le_refl _) _).alloc (by simp) _)).drew) hb1 (Nat.le_refl _)
 have hS1 : w.heap.size + 2 ≤ w1.heap.size := Nat.le_trans (by simp) hb1.size
 have hL1a : w.heap.size < w1.heap.size := by omega
 have hL1b : w.heap.size + 1 < w1.heap.size := by omega
 have hE1a : ∀ o', w1.cell? ⟨w.heap.size, o', none⟩ = _ := fun o' => hb1.cell (p := ⟨w.heap.size, o', none⟩) (by simp; omega)
 have hE1b : ∀ o', w1.cell? ⟨w.heap.size + 1, o', none⟩ = _ := fun o' => hb1.cell (p := ⟨w.heap.size + 1, o', none⟩) (by simp)
 refine hK _ _ hb1 ?_
 clear hK K
 try simp only [pTs, pTn, pTz, pTc]
 refine wpB_act rfl rfl (fun K hK => ?_)
 go_simp
 refine (noteNums_any b _).mono ?_
 rintro e w2 ⟨rfl, hb2⟩
 have hB2 : Below w.heap.size w w2 := Below.call (hB1) hb2 (Nat.le_refl _)
 have hS2 : w.heap.size + 2 ≤ w2.heap.size := Nat.le_trans hS1 hb2.size
 have hL2a : w.heap.size < w2.heap.size := by omega
 have hL2b : w.heap.size + 1 < w2.heap.size := by omega
 have hE2a : ∀ o', w2.cell? ⟨w.heap.size, o', none⟩ = _ := fun o' => hb2.cell (p := ⟨w.heap.size, o', none⟩) (by have := hS1; show w.heap.size < w1.heap.size; omega)
 have hE2b : ∀ o', w2.cell? ⟨w.heap.size + 1, o', none⟩ = _ := fun o' => hb2.cell (p := ⟨w.heap.size + 1, o', none⟩) (by have := hS1; show w.heap.size + 1 < w1.heap.size; omega)
 refine hK _ _ hb2 ?_
 clear hK K
 try simp only [pTs, pTn, pTz, pTc]
 iterate 3 (refine wpB_fix rfl rfl (fun W hW => by go_simp; with_reducible rfl) ?_; simp only [pTs, pTn, pTz, pTc])
 refine wpB_fix (v := ?_) rfl rfl ?_ ?_; rotate_left; (focus (intro W hW; have hWc := fun b o => hW.cell (p := ⟨b, o, none⟩); go_simp; try with_reducible rfl)); simp only [pTs, pTn, pTz, pTc]
 refine wpB_fix rfl rfl (fun W hW => by go_simp; with_reducible rfl) ?_; simp only [pTs, pTn, pTz, pTc]
 refine wpB_fix (v := ?_) rfl rfl ?_ ?_; rotate_left; (focus (intro W hW; have hWc := fun b o => hW.cell (p := ⟨b, o, none⟩); go_simp; try with_reducible rfl)); simp only [pTs, pTn, pTz, pTc]
 iterate 4 (refine wpB_fix rfl rfl (fun W hW => by go_simp; with_reducible rfl) ?_; simp only [pTs, pTn, pTz, pTc])
 refine wpB_fix (v := ?_) rfl rfl ?_ ?_; rotate_left; (focus (intro W hW; have hWc := fun b o => hW.cell (p := ⟨b, o, none⟩); go_simp; try with_reducible rfl)); simp only [pTs, pTn, pTz, pTc]
 refine wpB_fix rfl rfl (fun W hW => by go_simp; with_reducible rfl) ?_; simp only [pTs, pTn, pTz, pTc]
 refine wpB_fix (v := ?_) rfl rfl ?_ ?_; rotate_left; (focus (intro W hW; have hWc := fun b o => hW.cell (p := ⟨b, o, none⟩); go_simp; try with_reducible rfl)); simp only [pTs, pTn, pTz, pTc]
 iterate 4 (refine wpB_fix rfl rfl (fun W hW => by go_simp; with_reducible rfl) ?_; simp only [pTs, pTn, pTz, pTc])
 refine wpB_fix (v := ?_) rfl rfl ?_ ?_; rotate_left; (focus (intro W hW; have hWc := fun b o => hW.cell (p := ⟨b, o, none⟩); go_simp; try with_reducible rfl)); simp only [pTs, pTn, pTz, pTc]
 refine wpB_fix rfl rfl (fun W hW => by go_simp; with_reducible rfl) ?_; simp only [pTs, pTn, pTz, pTc]
 refine wpB_fix (v := ?_) rfl rfl ?_ ?_; rotate_left; (focus (intro W hW; have hWc := fun b o => hW.cell (p := ⟨b, o, none⟩); go_simp; try with_reducible rfl)); simp only [pTs, pTn, pTz, pTc]
 refine wpB_act rfl rfl (fun K hK => ?_)
 go_simp
 refine (HP.out _ (hB2)).mono ?_
 rintro e w3 ⟨rfl, hb3⟩
 have hB3 : Below w.heap.size w w3 := Below.call (hB2) hb3 (Nat.le_refl _)
 have hS3 : w.heap.size + 2 ≤ w3.heap.size := Nat.le_trans hS2 hb3.size
 have hL3a : w.heap.size < w3.heap.size := by omega
 have hL3b : w.heap.size + 1 < w3.heap.size := by omega
 have hE3a : ∀ o', w3.cell? ⟨w.heap.size, o', none⟩ = _ := fun o' => hb3.cell (p := ⟨w.heap.size, o', none⟩) (by have := hS2; show w.heap.size < w2.heap.size; omega)
 have hE3b : ∀ o', w3.cell? ⟨w.heap.size + 1, o', none⟩ = _ := fun o' => hb3.cell (p := ⟨w.heap.size + 1, o', none⟩) (by have := hS2; show w.heap.size + 1 < w2.heap.size; omega)
 refine hK _ _ hb3 ?_
 clear hK K
 try simp only [h3, pTs, pTn, pTz, pTc]
 iterate 3 (refine wpB_fix rfl rfl (fun W hW => by go_simp; with_reducible rfl) ?_; simp only [pTs, pTn, pTz, pTc])
 refine wpB_fix (v := ?_) rfl rfl ?_ ?_; rotate_left; (focus (intro W hW; have hWc := fun b o => hW.cell (p := ⟨b, o, none⟩); go_simp; try with_reducible rfl)); simp only [pTs, pTn, pTz, pTc]
 refine wpB_fix rfl rfl (fun W hW => by go_simp; with_reducible rfl) ?_; simp only [pTs, pTn, pTz, pTc]
 refine wpB_fix (v := ?_) rfl rfl ?_ ?_; rotate_left; (focus (intro W hW; have hWc := fun b o => hW.cell (p := ⟨b, o, none⟩); go_simp; try with_reducible rfl)); simp only [pTs, pTn, pTz, pTc]
 refine wpB_act rfl rfl (fun K hK => ?_)
 go_simp
 refine (HQ.out _ (hB3)).mono ?_
 rintro e w4 ⟨rfl, hb4⟩
 have hB4 : Below w.heap.size w w4 := Below.call (hB3) hb4 (Nat.le_refl _)
 have hS4 : w.heap.size + 2 ≤ w4.heap.size := Nat.le_trans hS3 hb4.size
 have hL4a : w.heap.size < w4.heap.size := by omega
 have hL4b : w.heap.size + 1 < w4.heap.size := by omega
 have hE4a : ∀ o', w4.cell? ⟨w.heap.size, o', none⟩ = _ := fun o' => hb4.cell (p := ⟨w.heap.size, o', none⟩) (by have := hS3; show w.heap.size < w3.heap.size; omega)
 have hE4b : ∀ o', w4.cell? ⟨w.heap.size + 1, o', none⟩ = _ := fun o' => hb4.cell (p := ⟨w.heap.size + 1, o', none⟩) (by have := hS3; show w.heap.size + 1 < w3.heap.size; omega)
 refine hK _ _ hb4 ?_
 clear hK K
 try simp only [h4, pTs, pTn, pTz, pTc]
 iterate 3 (refine wpB_fix rfl rfl (fun W hW => by go_simp; with_reducible rfl) ?_; simp only [pTs, pTn, pTz, pTc])
 refine wpB_fix (v := ?_) rfl rfl ?_ ?_; rotate_left; (focus (intro W hW; have hWc := fun b o => hW.cell (p := ⟨b, o, none⟩); go_simp; try with_reducible rfl)); simp only [pTs, pTn, pTz, pTc]
 refine wpB_fix rfl rfl (fun W hW => by go_simp; with_reducible rfl) ?_; simp only [pTs, pTn, pTz, pTc]
 refine wpB_fix (v := ?_) rfl rfl ?_ ?_; rotate_left; (focus (intro W hW; have hWc := fun b o => hW.cell (p := ⟨b, o, none⟩); go_simp; try with_reducible rfl)); simp only [pTs, pTn, pTz, pTc]
 refine wpB_act rfl rfl (fun K hK => ?_)
 go_simp
 refine (HD.out _ (hB4)).mono ?_
 rintro e w5 ⟨rfl, hb5⟩
 have hB5 : Below w.heap.size w w5 := Below.call (hB4) hb5 (Nat.le_refl _)
 have hS5 : w.heap.size + 2 ≤ w5.heap.size := Nat.le_trans hS4 hb5.size
 have hL5a : w.heap.size < w5.heap.size := by omega
 have hL5b : w.heap.size + 1 < w5.heap.size := by omega
 have hE5a : ∀ o', w5.cell? ⟨w.heap.size, o', none⟩ = _ := fun o' => hb5.cell (p := ⟨w.heap.size, o', none⟩) (by have := hS4; show w.heap.size < w4.heap.size; omega)
 have hE5b : ∀ o', w5.cell? ⟨w.heap.size + 1, o', none⟩ = _ := fun o' => hb5.cell (p := ⟨w.heap.size + 1, o', none⟩) (by have := hS4; show w.heap.size + 1 < w4.heap.size; omega)
 refine hK _ _ hb5 ?_
 clear hK K
 try simp only [h5, pTs, pTn, pTz, pTc]
 iterate 2 (refine wpB_fix rfl rfl (fun W hW => by go_simp; with_reducible rfl) ?_; simp only [pTs, pTn, pTz, pTc])
 iterate 4 (refine wpB_skip rfl rfl ?_; simp only [pTs, pTn, pTz, pTc])
 refine wpB_skip_act rfl rfl ?_; simp only [pTs, pTn, pTz, pTc]
 iterate 2 (refine wpB_fix rfl rfl (fun W hW => by go_simp; with_reducible rfl) ?_; simp only [pTs, pTn, pTz, pTc])
 simp only [wpB]
 go_wp2
 go_ret
 exact ⟨by simp [HE.out, h0, h1, h2, h3, h4, h5], hB5⟩
theorem sameNote_c6 (D : Nat → Prop) (a b : Note) (w : World) (ha : okNote D w a) (hb : okNote D w b) (h0 : (eqNums (noteNums a) (noteNums b)) = true) (h1 : (eqSetting a.setting b.setting) = true) (h2 : (eqRef a.ref b.ref) = true) (h3 : (decide (a.pieces.val = b.pieces.val)) = true) (h4 : (decide (a.panes.val = b.panes.val)) = true) (h5 : (decide (a.data.val.map Piece.abs = b.data.val.map Piece.abs)) = true) :
  Calls Tryz.prog 66 #[.agg (encNote a), .agg (encNote b)] w fun e w' => e = .returned (.bool (decide (a.abs = b.abs))) ∧ Below w.heap.size w w' := by
 have HP : Hid (∀ W, Below w.heap.size w W → Calls Tryz.prog 120 #[.slice a.pieces.a a.pieces.val.length a.pieces.cap, .slice b.pieces.a b.pieces.val.length b.pieces.cap] W fun e w' => e = .returned (.bool (decide (a.pieces.val = b.pieces.val))) ∧ Below W.heap.size W w') := Lib.hid fun W hW => equal_int D a.pieces b.pieces W ((okNote.ext ha (.of_below hW)).2.2.2.2.2.2.2.2.2.2.2.2.2.2.2.2.2.2.2.2.2.2.1) ((okNote.ext hb (.of_below hW)).2.2.2.2.2.2.2.2.2.2.2.2.2.2.2.2.2.2.2.2.2.2.1)
 have HQ : Hid (∀ W, Below w.heap.size w W → Calls Tryz.prog 120 #[.slice a.panes.a a.panes.val.length a.panes.cap, .slice b.panes.a b.panes.val.length b.panes.cap] W fun e w' => e = .returned (.bool (decide (a.panes.val = b.panes.val))) ∧ Below W.heap.size W w') := Lib.hid fun W hW => equal_int D a.panes b.panes W ((okNote.ext ha (.of_below hW)).2.2.2.2.2.2.2.2.2.2.2.2.2.2.2.2.2.2.2.2.2.2.2.1) ((okNote.ext hb (.of_below hW)).2.2.2.2.2.2.2.2.2.2.2.2.2.2.2.2.2.2.2.2.2.2.2.1)
 have HD : Hid (∀ W, Below w.heap.size w W → Calls Tryz.prog 121 #[.slice a.data.a a.data.val.length a.data.cap, .slice b.data.a b.data.val.length b.data.cap, .func (.func 122) #[] #[]] W fun e w' => e = .returned (.bool (decide (a.data.val.map Piece.abs = b.data.val.map Piece.abs))) ∧ Below W.heap.size W w') := Lib.hid fun W hW => equalFunc_Piece D a.data b.data W ((okNote.ext ha (.of_below hW)).2.2.2.2.2.2.2.2.2.2.2.2.2.2.2.2.2.2.2.2.2.2.2.2.1) ((okNote.ext hb (.of_below hW)).2.2.2.2.2.2.2.2.2.2.2.2.2.2.2.2.2.2.2.2.2.2.2.2.1)
 have HI : Hid (∀ W, Below w.heap.size w W → Calls Tryz.prog 123 #[.agg (encItem a.item), .agg (encItem b.item)] W fun e w' => e = .returned (.bool (decide (a.item.abs = b.item.abs))) ∧ Below W.heap.size W w') := Lib.hid fun W hW => sameItem_any D a.item b.item W (okNote_item (okNote.ext ha (.of_below hW))) (okNote_item (okNote.ext hb (.of_below hW)))
 have HE : Hid (decide (a.abs = b.abs) = (eqNums (noteNums a) (noteNums b) && (eqSetting a.setting b.setting && (eqRef a.ref b.ref && (decide (a.pieces.val = b.pieces.val) && (decide (a.panes.val = b.panes.val) && (decide (a.data.val.map Piece.abs = b.data.val.map Piece.abs) && (decide (a.item.abs = b.item.abs))))))))) := Lib.hid (by
  rw [Bool.eq_iff_iff]; simp [Note.abs, eqNums, noteNums, eqSetting, eqRef]; try grind)
 clear ha hb
 go_enter Tryz.func66, Tryz.ntmps66
 have hA0 : BoxAt ((w.alloc (.cells (encNote a) 43)).alloc (.cells (encNote b) 43)).drew w.heap.size 43 (encNote a) := ((BoxAt.new _ _ _).alloc _).drew
 have hA1 : BoxAt ((w.alloc (.cells (encNote a) 43)).alloc (.cells (encNote b) 43)).drew (w.heap.size + 1) 43 (encNote b) := by have := BoxAt.new (w.alloc (.cells (encNote a) 43)) 43 (encNote b); rw [World.size_alloc] at this; exact this.drew
 go_wp2
 refine wp_region_ord [(0, true), (1, true), (3, true), (4, true), (2, false), (5, false), (6, true), (7, true), (8, true), (9, true), (10, true), (11, true), (12, true), (13, true), (14, true), (15, true), (16, true), (17, true), (18, true), (19, true), (20, true), (21, true), (22, true), (23, true), (24, true), (25, true), (26, false), (27, true), (28, true), (29, true), (30, true), (31, true), (32, true), (33, false), (34, true), (35, true), (36, true), (37, true), (38, true), (39, true), (40, false), (41, true), (42, true), (43, true), (44, true), (45, true), (46, true), (47, false), (48, true), (49, true)] rfl (by kernel_rfl) (by kernel_rfl) (fun d _ _ _ _ h => by cases d <;> exact h) ?_
 refine wpB_fix rfl rfl (fun W hW => by go_simp; with_reducible rfl) ?_; simp only [pTs, pTn, pTz, pTc]
 refine wpB_fix (v := .agg (encNote a)) rfl rfl (fun W hW => run_load_box (encNote a) (hA0.belowAll hW) rfl (whole_cells _) Tryz.underlying43 rfl (by kernel_rfl)) ?_; simp only [pTs, pTn, pTz, pTc]
 refine wpB_fix rfl rfl (fun W hW => by go_simp; with_reducible rfl) ?_; simp only [pTs, pTn, pTz, pTc]
 refine wpB_fix (v := .agg (encNote b)) rfl rfl (fun W hW => run_load_box (encNote b) (hA1.belowAll hW) rfl (whole_cells _) Tryz.underlying43 rfl (by kernel_rfl)) ?_; simp only [pTs, pTn, pTz, pTc]
 refine wpB_act rfl rfl (fun K hK => ?_)
 go_simp
 refine (noteNums_any a _).mono ?_
 rintro e w1 ⟨rfl, hb1⟩
 have hB1 : Below w.heap.size w w1 := Below.call (((((Below.refl _ _).alloc (Nat.le_refl _) _).alloc (by simp) _)).drew) hb1 (Nat.le_refl _)
 have hS1 : w.heap.size + 2 ≤ w1.heap.size := Nat.le_trans (by simp) hb1.size
 have hL1a : w.heap.size < w1.heap.size := by omega
 have hL1b : w.heap.size + 1 < w1.heap.size := by omega
 have hE1a : ∀ o', w1.cell? ⟨w.heap.size, o', none⟩ = _ := fun o' => hb1.cell (p := ⟨w.heap.size, o', none⟩) (by simp; omega)
 have hE1b : ∀ o', w1.cell? ⟨w.heap.size + 1, o', none⟩ = _ := fun o' => hb1.cell (p := ⟨w.heap.size + 1, o', none⟩) (by simp)
 refine hK _ _ hb1 ?_
 clear hK K
 try simp only [pTs, pTn, pTz, pTc]
 refine wpB_act rfl rfl (fun K hK => ?_)
 go_simp
 refine (noteNums_any b _).mono ?_
 rintro e w2 ⟨rfl, hb2⟩
 have hB2 : Below w.heap.size w w2 := Below.call (hB1) hb2 (Nat.le_refl _)
 have hS2 : w.heap.size + 2 ≤ w2.heap.size := Nat.le_trans hS1 hb2.size
 have hL2a : w.heap.size < w2.heap.size := by omega
 have hL2b : w.heap.size + 1 < w2.heap.size := by omega
 have hE2a : ∀ o', w2.cell? ⟨w.heap.size, o', none⟩ = _ := fun o' => hb2.cell (p := ⟨w.heap.size, o', none⟩) (by have := hS1; show w.heap.size < w1.heap.size; omega)
 have hE2b : ∀ o', w2.cell? ⟨w.heap.size + 1, o', none⟩ = _ := fun o' => hb2.cell (p := ⟨w.heap.size + 1, o', none⟩) (by have := hS1; show w.heap.size + 1 < w1.heap.size; omega)
 refine hK _ _ hb2 ?_
 clear hK K
 try simp only [pTs, pTn, pTz, pTc]
 iterate 3 (refine wpB_fix rfl rfl (fun W hW => by go_simp; with_reducible rfl) ?_; simp only [pTs, pTn, pTz, pTc])
 refine wpB_fix (v := ?_) rfl rfl ?_ ?_; rotate_left; (focus (intro W hW; have hWc := fun b o => hW.cell (p := ⟨b, o, none⟩); go_simp; try with_reducible rfl)); simp only [pTs, pTn, pTz, pTc]
 refine wpB_fix rfl rfl (fun W hW => by go_simp; with_reducible rfl) ?_; simp only [pTs, pTn, pTz, pTc]
 refine wpB_fix (v := ?_) rfl rfl ?_ ?_; rotate_left; (focus (intro W hW; have hWc := fun b o => hW.cell (p := ⟨b, o, none⟩); go_simp; try with_reducible rfl)); simp only [pTs, pTn, pTz, pTc]
 iterate 4 (refine wpB_fix rfl rfl (fun W hW => by go_simp; with_reducible rfl) ?_; simp only [pTs, pTn, pTz, pTc])
 refine wpB_fix (v := ?_) rfl rfl ?_ ?_; rotate_left; (focus (intro W hW; have hWc := fun b o => hW.cell (p := ⟨b, o, none⟩); go_simp; try with_reducible rfl)); simp only [pTs, pTn, pTz, pTc]
 refine wpB_fix rfl rfl (fun W hW => by go_simp; with_reducible rfl) ?_; simp only [pTs, pTn, pTz, pTc]
 refine wpB_fix (v := ?_) rfl rfl ?_ ?_; rotate_left; (focus (intro W hW; have hWc := fun b o => hW.cell (p := ⟨b, o, none⟩); go_simp; try with_reducible rfl)); simp only [pTs, pTn, pTz, pTc]
 iterate 4 (refine wpB_fix rfl rfl (fun W hW => by go_simp; with_reducible rfl) ?_; simp only [pTs, pTn, pTz, pTc])
 refine wpB_fix (v := ?_) rfl rfl ?_ ?_; rotate_left; (focus (intro W hW; have hWc := fun b o => hW.cell (p := ⟨b, o, none⟩); go_simp; try with_reducible rfl)); simp only [pTs, pTn, pTz, pTc]
 refine wpB_fix rfl rfl (fun W hW => by go_simp; with_reducible rfl) ?_; simp only [pTs, pTn, pTz, pTc]
 refine wpB_fix (v := ?_) rfl rfl ?_ ?_; rotate_left; (focus (intro W hW; have hWc := fun b o => hW.cell (p := ⟨b, o, none⟩); go_simp; try with_reducible rfl)); simp only [pTs, pTn, pTz, pTc]
 refine wpB_act rfl rfl (fun K hK => ?_)
 go_simp
 refine (HP.out _ (hB2)).mono ?_
 rintro e w3 ⟨rfl, hb3⟩
 have hB3 : Below w.heap.size w w3 := Below.call (hB2) hb3 (Nat.le_refl _)
 have hS3 : w.heap.size + 2 ≤ w3.heap.size := Nat.le_trans hS2 hb3.size
 have hL3a : w.heap.size < w3.heap.size := by omega
 have hL3b : w.heap.size + 1 < w3.heap.size := by omega
 have hE3a : ∀ o', w3.cell? ⟨w.heap.size, o', none⟩ = _ := fun o' => hb3.cell (p := ⟨w.heap.size, o', none⟩) (by have := hS2; show w.heap.size < w2.heap.size; omega)
 have hE3b : ∀ o', w3.cell? ⟨w.heap.size + 1, o', none⟩ = _ := fun o' => hb3.cell (p := ⟨w.heap.size + 1, o', none⟩) (by have := hS2; show w.heap.size + 1 < w2.heap.size; omega)
 refine hK _ _ hb3 ?_
 clear hK K
 try simp only [h3, pTs, pTn, pTz, pTc]
 iterate 3 (refine wpB_fix rfl rfl (fun W hW => by go_simp; with_reducible rfl) ?_; simp only [pTs, pTn, pTz, pTc])
 refine wpB_fix (v := ?_) rfl rfl ?_ ?_; rotate_left; (focus (intro W hW; have hWc := fun b o => hW.cell (p := ⟨b, o, none⟩); go_simp; try with_reducible rfl)); simp only [pTs, pTn, pTz, pTc]
 refine wpB_fix rfl rfl (fun W hW => by go_simp; with_reducible rfl) ?_; simp only [pTs, pTn, pTz, pTc]
 refine wpB_fix (v := ?_) rfl rfl ?_ ?_; rotate_left; (focus (intro W hW; have hWc := fun b o => hW.cell (p := ⟨b, o, none⟩); go_simp; try with_reducible rfl)); simp only [pTs, pTn, pTz, pTc]
 refine wpB_act rfl rfl (fun K hK => ?_)
 go_simp
 refine (HQ.out _ (hB3)).mono ?_
 rintro e w4 ⟨rfl, hb4⟩
 have hB4 : Below w.heap.size w w4 := Below.call (hB3) hb4 (Nat.le_refl _)
 have hS4 : w.heap.size + 2 ≤ w4.heap.size := Nat.le_trans hS3 hb4.size
 have hL4a : w.heap.size < w4.heap.size := by omega
 have hL4b : w.heap.size + 1 < w4.heap.size := by omega
 have hE4a : ∀ o', w4.cell? ⟨w.heap.size, o', none⟩ = _ := fun o' => hb4.cell (p := ⟨w.heap.size, o', none⟩) (by have := hS3; show w.heap.size < w3.heap.size; omega)
 have hE4b : ∀ o', w4.cell? ⟨w.heap.size + 1, o', none⟩ = _ := fun o' => hb4.cell (p := ⟨w.heap.size + 1, o', none⟩) (by have := hS3; show w.heap.size + 1 < w3.heap.size; omega)
 refine hK _ _ hb4 ?_
 clear hK K
 try simp only [h4, pTs, pTn, pTz, pTc]
 iterate 3 (refine wpB_fix rfl rfl (fun W hW => by go_simp; with_reducible rfl) ?_; simp only [pTs, pTn, pTz, pTc])
 refine wpB_fix (v := ?_) rfl rfl ?_ ?_; rotate_left; (focus (intro W hW; have hWc := fun b o => hW.cell (p := ⟨b, o, none⟩); go_simp; try with_reducible rfl)); simp only [pTs, pTn, pTz, pTc]
 refine wpB_fix rfl rfl (fun W hW => by go_simp; with_reducible rfl) ?_; simp only [pTs, pTn, pTz, pTc]
 refine wpB_fix (v := ?_) rfl rfl ?_ ?_; rotate_left; (focus (intro W hW; have hWc := fun b o => hW.cell (p := ⟨b, o, none⟩); go_simp; try with_reducible rfl)); simp only [pTs, pTn, pTz, pTc]
 refine wpB_act rfl rfl (fun K hK => ?_)
 go_simp
 refine (HD.out _ (hB4)).mono ?_
 rintro e w5 ⟨rfl, hb5⟩
 have hB5 : Below w.heap.size w w5 := Below.call (hB4) hb5 (Nat.le_refl _)
 have hS5 : w.heap.size + 2 ≤ w5.heap.size := Nat.le_trans hS4 hb5.size
 have hL5a : w.heap.size < w5.heap.size := by omega
 have hL5b : w.heap.size + 1 < w5.heap.size := by omega
 have hE5a : ∀ o', w5.cell? ⟨w.heap.size, o', none⟩ = _ := fun o' => hb5.cell (p := ⟨w.heap.size, o', none⟩) (by have := hS4; show w.heap.size < w4.heap.size; omega)
 have hE5b : ∀ o', w5.cell? ⟨w.heap.size + 1, o', none⟩ = _ := fun o' => hb5.cell (p := ⟨w.heap.size + 1, o', none⟩) (by have := hS4; show w.heap.size + 1 < w4.heap.size; omega)
 refine hK _ _ hb5 ?_
 clear hK K
 try simp only [h5, pTs, pTn, pTz, pTc]
 iterate 3 (refine wpB_fix rfl rfl (fun W hW => by go_simp; with_reducible rfl) ?_; simp only [pTs, pTn, pTz, pTc])
 refine wpB_fix (v := ?_) rfl rfl ?_ ?_; rotate_left; (focus (intro W hW; have hWc := fun b o => hW.cell (p := ⟨b, o, none⟩); go_simp; try with_reducible rfl)); simp only [pTs, pTn, pTz, pTc]
 refine wpB_fix rfl rfl (fun W hW => by go_simp; with_reducible rfl) ?_; simp only [pTs, pTn, pTz, pTc]
 refine wpB_fix (v := ?_) rfl rfl ?_ ?_; rotate_left; (focus (intro W hW; have hWc := fun b o => hW.cell (p := ⟨b, o, none⟩); go_simp; try with_reducible rfl)); simp only [pTs, pTn, pTz, pTc]
 refine wpB_act rfl rfl (fun K hK => ?_)
 go_simp
 refine (HI.out _ (hB5)).mono ?_
 rintro e w6 ⟨rfl, hb6⟩
 have hB6 : Below w.heap.size w w6 := Below.call (hB5) hb6 (Nat.le_refl _)
 have hS6 : w.heap.size + 2 ≤ w6.heap.size := Nat.le_trans hS5 hb6.size
 have hL6a : w.heap.size < w6.heap.size := by omega
 have hL6b : w.heap.size + 1 < w6.heap.size := by omega
 have hE6a : ∀ o', w6.cell? ⟨w.heap.size, o', none⟩ = _ := fun o' => hb6.cell (p := ⟨w.heap.size, o', none⟩) (by have := hS5; show w.heap.size < w5.heap.size; omega)
 have hE6b : ∀ o', w6.cell? ⟨w.heap.size + 1, o', none⟩ = _ := fun o' => hb6.cell (p := ⟨w.heap.size + 1, o', none⟩) (by have := hS5; show w.heap.size + 1 < w5.heap.size; omega)
 refine hK _ _ hb6 ?_
 clear hK K
 try simp only [pTs, pTn, pTz, pTc]
 iterate 2 (refine wpB_fix rfl rfl (fun W hW => by go_simp; with_reducible rfl) ?_; simp only [pTs, pTn, pTz, pTc])
 simp only [wpB]
 go_wp2
 go_ret
 exact ⟨by simp [HE.out, h0, h1, h2, h3, h4, h5], hB6⟩
theorem sameNote_any (D : Nat → Prop) (a b : Note) (w : World) (ha : okNote D w a) (hb : okNote D w b) :
  Calls Tryz.prog 66 #[.agg (encNote a), .agg (encNote b)] w fun e w' => e = .returned (.bool (decide (a.abs = b.abs))) ∧ Below w.heap.size w w' := by
 rcases h0 : (eqNums (noteNums a) (noteNums b))
 case false => exact sameNote_c0 D a b w ha hb h0
 rcases h1 : (eqSetting a.setting b.setting)
 case false => exact sameNote_c1 D a b w ha hb h0 h1
 rcases h2 : (eqRef a.ref b.ref)
 case false => exact sameNote_c2 D a b w ha hb h0 h1 h2
 rcases h3 : (decide (a.pieces.val = b.pieces.val))
 case false => exact sameNote_c3 D a b w ha hb h0 h1 h2 h3
 rcases h4 : (decide (a.panes.val = b.panes.val))
 case false => exact sameNote_c4 D a b w ha hb h0 h1 h2 h3 h4
 rcases h5 : (decide (a.data.val.map Piece.abs = b.data.val.map Piece.abs))
 case false => exact sameNote_c5 D a b w ha hb h0 h1 h2 h3 h4 h5
 exact sameNote_c6 D a b w ha hb h0 h1 h2 h3 h4 h5
end Go.Proofs.YtnmgfnpphglphaaGreat
