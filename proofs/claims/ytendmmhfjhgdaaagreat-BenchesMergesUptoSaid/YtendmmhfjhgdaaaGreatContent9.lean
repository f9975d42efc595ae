/-
  What a note's content must be for its kind, by the reference: walked.
-/
import Derived.Test.YtendmmhfjhgdaaaGreatUsed9
set_option maxHeartbeats 16000000
set_option maxRecDepth 100000
set_option linter.unusedVariables false
set_option linter.unusedSimpArgs false
namespace Go.Proofs.YtendmmhfjhgdaaaGreat
open Go.RowKit
def testR (kind : Int) (n : Note) : Bool :=
 if kind = 1 then decide ((n.data.val.length : Int) = 1) && upB validPieceB (fun a b => decide (a.id < b.id)) n.data.val
 else if kind = 2 then refItemB n.item
 else if kind = 3 then decide (1 ≤ (n.panes.val.length : Int)) && upB (fun x => inB x 1 64) (fun a b => decide (a < b)) n.panes.val
 else if kind = 4 then decide (1 ≤ (n.pieces.val.length : Int)) && decide ((n.pieces.val.length : Int) ≤ 64) && upB (fun x => inB x 1 65535) (fun a b => decide (a < b)) n.pieces.val && decide (1 ≤ n.to) && decide (n.to ≤ 8)
 else if kind = 5 then validRefB n.ref
 else if kind = 6 then (decide (1 ≤ n.pane) && decide (n.pane ≤ 64)) && (decide (n.piece = 0) && decide (1 ≤ n.colour) && decide (n.colour ≤ 16) && eqSetting n.setting ⟨0, false⟩ || (decide (1 ≤ n.piece) && decide (n.piece ≤ 65535)) && decide (n.colour = 0) && decide (0 ≤ n.setting.shift) && decide (n.setting.shift < 24))
 else if kind = 7 then decide (1 ≤ n.pane) && decide (n.pane ≤ 64)
 else if kind = 8 then (decide (1 ≤ n.piece) && decide (n.piece ≤ 65535)) && decide (1 ≤ (n.data.val.length : Int)) && decide ((n.data.val.length : Int) ≤ 4) && upB validPieceB (fun a b => decide (a.id < b.id)) n.data.val
 else false
def contentR (kind : Int) (n : Note) : Bool := decide ((usedN kind n).abs = (blankN n).abs) && testR kind n
theorem blank_ok {D : Nat → Prop} {w : World} {n : Note} (h : okNote D w n) : okNote D w (blankN n) := by
 simp only [okNote] at h ⊢
 simp only [blankN, h, I64_zero, and_self]
theorem usedN_ok {D : Nat → Prop} {w : World} {n : Note} (kind : Int) (h : okNote D w n) : okNote D w (usedN kind n) := by
 have hz := okNote_zero D w
 simp only [okNote] at h hz ⊢
 unfold usedN
 repeat' split
 all_goals simp only [h, hz, and_self]
theorem content9_no (D : Nat → Prop) (kind : Int) (n : Note) (w : World) (hok : okNote D w n) (hs : decide ((usedN kind n).abs = (blankN n).abs) = false) :
  Calls Tryz.prog 80 #[.agg (encNote n), .int .i64 kind] w fun e w' => e = .returned (.bool (contentR kind n)) ∧ Below w.heap.size w w' := by
 have HS : Hid (∀ W, Below w.heap.size w W → Calls Tryz.prog 56 #[.agg (encNote (blankN n)), .agg (encNote (usedN kind n))] W fun e w' => e = .returned (.bool (decide ((usedN kind n).abs = (blankN n).abs))) ∧ Below W.heap.size W w') := Lib.hid fun W hW => refNote_g D (blankN n) (usedN kind n) W (blank_ok (okNote.ext hok (.of_below hW))) (usedN_ok kind (okNote.ext hok (.of_below hW)))
 have HF : Hid (contentR kind n = false) := Lib.hid (by simp [contentR, hs])
 simp only [hs] at HS
 clear hok hs
 have hbA0 : BoxAt (w.alloc (.cells (encNote n) 40)) w.heap.size 40 (encNote n) := BoxAt.new _ _ _
 have hB0 : Below w.heap.size w (w.alloc (.cells (encNote n) 40)) := (Below.refl _ _).alloc (Nat.le_refl _) _
 have hbS : BoxAt ((w.alloc (.cells (encNote n) 40)).alloc (.cells (encNote n) 40)) w.heap.size 40 (encNote n) := (BoxAt.new _ _ _).alloc _
 have hbN : BoxAt ((w.alloc (.cells (encNote n) 40)).alloc (.cells (encNote n) 40)) (w.heap.size + 1) 40 (encNote n) := by have h := BoxAt.new (w.alloc (.cells (encNote n) 40)) 40 (encNote n); rwa [World.size_alloc] at h
 have hBS : Below w.heap.size w ((w.alloc (.cells (encNote n) 40)).alloc (.cells (encNote n) 40)) := ((Below.refl _ _).alloc (Nat.le_refl _) _).alloc (by simp) _
 go_enter Tryz.func80, Tryz.ntmps80
 go_wp2_with (first
  | ((with_reducible refine at_dst 10 ?_); refine wpList_loadB hbA0 rfl 40 _ rfl rfl (encNote n) (whole_cells _) Tryz.underlying40 rfl (by kernel_rfl) ?_)
  | ((with_reducible refine at_storeT 40 ?_); refine wpList_store_last (cs := encNote n) rfl 40 _ _ rfl (by simp) rfl rfl (by kernel_rfl) rfl (encNote_one _) ?_; have hbA := hbS; have hb1 := hbN; have hB := hBS)
  | ((with_reducible refine at_storeT 3 ?_); refine wpList_store_box hb1 rfl _ _ _ rfl rfl (vi 0) rfl (by kernel_rfl) rfl (one_vi _) ?_; intro w1 hb1' hT; replace hbA := hbA.turn hT (by omega); replace hB := hB.trans (hT.below (by omega)); replace hb1 := hb1'; clear hT))
 replace hb1 := hb1.eqv (cs' := encNote (blankN n)) (by simp [splice, encNote, blankN, Value.cells])
 refine wp_region_ord [(0, true), (1, true), (2, true), (3, false), (4, false), (5, true)] rfl (by kernel_rfl) (by kernel_rfl) (fun d _ _ _ _ h => by cases d <;> exact h) ?_
 refine wpB_fix (v := .agg (encNote (blankN n))) rfl rfl (fun W hW => run_load_box (encNote (blankN n)) (hb1.drew.belowAll hW) rfl (whole_cells _) Tryz.underlying40 rfl (by kernel_rfl)) ?_; simp only [pTs, pTn, pTz, pTc]
 refine wpB_fix (v := .agg (encNote n)) rfl rfl (fun W hW => run_load_box (encNote n) (hbA.drew.belowAll hW) rfl (whole_cells _) Tryz.underlying40 rfl (by kernel_rfl)) ?_; simp only [pTs, pTn, pTz, pTc]
 refine wpB_fix rfl rfl (fun W hW => by go_simp; with_reducible rfl) ?_; simp only [pTs, pTn, pTz, pTc]
 refine wpB_act rfl rfl (fun K hK => ?_)
 go_simp
 refine (used_ref kind n _).mono ?_
 rintro e w2 ⟨rfl, hb2⟩
 have hB2 := Below.call hB.drew hb2 (Nat.le_refl _)
 have hbA2 := hbA.drew.belowAll hb2
 refine hK _ _ hb2 ?_
 clear hK K
 try simp only [pTs, pTn, pTz, pTc]
 refine wpB_act rfl rfl (fun K hK => ?_)
 go_simp
 refine (HS.out _ hB2).mono ?_
 rintro e w3 ⟨rfl, hb3⟩
 have hB3 := Below.call hB2 hb3 (Nat.le_refl _)
 have hbA3 := hbA2.belowAll hb3
 refine hK _ _ hb3 ?_
 clear hK K
 try simp only [pTs, pTn, pTz, pTc]
 refine wpB_fix rfl rfl (fun W hW => by go_simp; with_reducible rfl) ?_; simp only [pTs, pTn, pTz, pTc]
 simp only [wpB]
 go_wp2
 go_ret
 exact ⟨by simp [HF.out], hB3⟩
theorem content9_1 (D : Nat → Prop) (n : Note) (w : World) (hok : okNote D w n) (hs : decide ((usedN 1 n).abs = (blankN n).abs) = true) :
  Calls Tryz.prog 80 #[.agg (encNote n), .int .i64 1] w fun e w' => e = .returned (.bool (contentR 1 n)) ∧ Below w.heap.size w w' := by
 have HS : Hid (∀ W, Below w.heap.size w W → Calls Tryz.prog 56 #[.agg (encNote (blankN n)), .agg (encNote (usedN 1 n))] W fun e w' => e = .returned (.bool (decide ((usedN 1 n).abs = (blankN n).abs))) ∧ Below W.heap.size W w') := Lib.hid fun W hW => refNote_g D (blankN n) (usedN 1 n) W (blank_ok (okNote.ext hok (.of_below hW))) (usedN_ok 1 (okNote.ext hok (.of_below hW)))
 have HG : Hid (∀ W, Below w.heap.size w W → _) := Lib.hid fun W hW => given_ref D n.data W (okNote_data (okNote.ext hok (.of_below hW)))
 have HF : Hid (contentR 1 n = (decide ((n.data.val.length : Int) = 1) && upB validPieceB (fun a b => decide (a.id < b.id)) n.data.val)) := Lib.hid (by rw [contentR, hs]; rfl)
 simp only [hs] at HS
 clear hok hs
 have hbA0 : BoxAt (w.alloc (.cells (encNote n) 40)) w.heap.size 40 (encNote n) := BoxAt.new _ _ _
 have hB0 : Below w.heap.size w (w.alloc (.cells (encNote n) 40)) := (Below.refl _ _).alloc (Nat.le_refl _) _
 have hbS : BoxAt ((w.alloc (.cells (encNote n) 40)).alloc (.cells (encNote n) 40)) w.heap.size 40 (encNote n) := (BoxAt.new _ _ _).alloc _
 have hbN : BoxAt ((w.alloc (.cells (encNote n) 40)).alloc (.cells (encNote n) 40)) (w.heap.size + 1) 40 (encNote n) := by have h := BoxAt.new (w.alloc (.cells (encNote n) 40)) 40 (encNote n); rwa [World.size_alloc] at h
 have hBS : Below w.heap.size w ((w.alloc (.cells (encNote n) 40)).alloc (.cells (encNote n) 40)) := ((Below.refl _ _).alloc (Nat.le_refl _) _).alloc (by simp) _
 go_enter Tryz.func80, Tryz.ntmps80
 go_wp2_with (first
  | ((with_reducible refine at_dst 10 ?_); refine wpList_loadB hbA0 rfl 40 _ rfl rfl (encNote n) (whole_cells _) Tryz.underlying40 rfl (by kernel_rfl) ?_)
  | ((with_reducible refine at_storeT 40 ?_); refine wpList_store_last (cs := encNote n) rfl 40 _ _ rfl (by simp) rfl rfl (by kernel_rfl) rfl (encNote_one _) ?_; have hbA := hbS; have hb1 := hbN; have hB := hBS)
  | ((with_reducible refine at_storeT 3 ?_); refine wpList_store_box hb1 rfl _ _ _ rfl rfl (vi 0) rfl (by kernel_rfl) rfl (one_vi _) ?_; intro w1 hb1' hT; replace hbA := hbA.turn hT (by omega); replace hB := hB.trans (hT.below (by omega)); replace hb1 := hb1'; clear hT))
 replace hb1 := hb1.eqv (cs' := encNote (blankN n)) (by simp [splice, encNote, blankN, Value.cells])
 refine wp_region_ord [(0, true), (1, true), (2, true), (3, false), (4, false), (5, true)] rfl (by kernel_rfl) (by kernel_rfl) (fun d _ _ _ _ h => by cases d <;> exact h) ?_
 refine wpB_fix (v := .agg (encNote (blankN n))) rfl rfl (fun W hW => run_load_box (encNote (blankN n)) (hb1.drew.belowAll hW) rfl (whole_cells _) Tryz.underlying40 rfl (by kernel_rfl)) ?_; simp only [pTs, pTn, pTz, pTc]
 refine wpB_fix (v := .agg (encNote n)) rfl rfl (fun W hW => run_load_box (encNote n) (hbA.drew.belowAll hW) rfl (whole_cells _) Tryz.underlying40 rfl (by kernel_rfl)) ?_; simp only [pTs, pTn, pTz, pTc]
 refine wpB_fix rfl rfl (fun W hW => by go_simp; with_reducible rfl) ?_; simp only [pTs, pTn, pTz, pTc]
 refine wpB_act rfl rfl (fun K hK => ?_)
 go_simp
 refine (used_ref 1 n _).mono ?_
 rintro e w2 ⟨rfl, hb2⟩
 have hB2 := Below.call hB.drew hb2 (Nat.le_refl _)
 have hbA2 := hbA.drew.belowAll hb2
 refine hK _ _ hb2 ?_
 clear hK K
 try simp only [pTs, pTn, pTz, pTc]
 refine wpB_act rfl rfl (fun K hK => ?_)
 go_simp
 refine (HS.out _ hB2).mono ?_
 rintro e w3 ⟨rfl, hb3⟩
 have hB3 := Below.call hB2 hb3 (Nat.le_refl _)
 have hbA3 := hbA2.belowAll hb3
 refine hK _ _ hb3 ?_
 clear hK K
 try simp only [pTs, pTn, pTz, pTc]
 refine wpB_fix rfl rfl (fun W hW => by go_simp; with_reducible rfl) ?_; simp only [pTs, pTn, pTz, pTc]
 simp only [wpB]
 have c6 : w3.cell? ⟨w.heap.size, 6, none⟩ = some (vi n.piece) := (hbA3.cell 6).trans rfl
 have c7 : w3.cell? ⟨w.heap.size, 7, none⟩ = some (vi n.pane) := (hbA3.cell 7).trans rfl
 have c8 : w3.cell? ⟨w.heap.size, 8, none⟩ = some (vi n.colour) := (hbA3.cell 8).trans rfl
 have c9 : w3.cell? ⟨w.heap.size, 9, none⟩ = some (vi n.to) := (hbA3.cell 9).trans rfl
 have c10 : w3.cell? ⟨w.heap.size, 10, none⟩ = some (vi n.setting.shift) := (hbA3.cell 10).trans rfl
 have c11 : w3.cell? ⟨w.heap.size, 11, none⟩ = some (.bool n.setting.back) := (hbA3.cell 11).trans rfl
 have c12 : w3.cell? ⟨w.heap.size, 12, none⟩ = some (vi n.ref.bench) := (hbA3.cell 12).trans rfl
 have c13 : w3.cell? ⟨w.heap.size, 13, none⟩ = some (vi n.ref.num) := (hbA3.cell 13).trans rfl
 have c14 : w3.cell? ⟨w.heap.size, 14, none⟩ = some (.slice n.pieces.a n.pieces.val.length n.pieces.cap) := (hbA3.cell 14).trans rfl
 have c15 : w3.cell? ⟨w.heap.size, 15, none⟩ = some (.slice n.panes.a n.panes.val.length n.panes.cap) := (hbA3.cell 15).trans rfl
 have c16 : w3.cell? ⟨w.heap.size, 16, none⟩ = some (.slice n.data.a n.data.val.length n.data.cap) := (hbA3.cell 16).trans rfl
 go_wp2_with (first
  | (go_at_call 129; refine (HG.out _ hB3).mono ?_; rintro e w4 ⟨rfl, hb4⟩; have hB4 := Below.call hB3 hb4 (Nat.le_refl _); have hbA4 := hbA3.belowAll hb4; have d9 : w4.cell? ⟨w.heap.size, 9, none⟩ = some (vi n.to) := (hbA4.cell 9).trans rfl))
 all_goals go_ret
 all_goals refine ⟨?_, by first | exact hB4 | exact hB3⟩
 all_goals first
  | (simp [HF.out, *]; done)
  | (simp [HF.out, *]; intros; omega)
theorem content9_2 (D : Nat → Prop) (n : Note) (w : World) (hok : okNote D w n) (hs : decide ((usedN 2 n).abs = (blankN n).abs) = true) :
  Calls Tryz.prog 80 #[.agg (encNote n), .int .i64 2] w fun e w' => e = .returned (.bool (contentR 2 n)) ∧ Below w.heap.size w w' := by
 have HS : Hid (∀ W, Below w.heap.size w W → Calls Tryz.prog 56 #[.agg (encNote (blankN n)), .agg (encNote (usedN 2 n))] W fun e w' => e = .returned (.bool (decide ((usedN 2 n).abs = (blankN n).abs))) ∧ Below W.heap.size W w') := Lib.hid fun W hW => refNote_g D (blankN n) (usedN 2 n) W (blank_ok (okNote.ext hok (.of_below hW))) (usedN_ok 2 (okNote.ext hok (.of_below hW)))
 have HF : Hid (contentR 2 n = (refItemB n.item)) := Lib.hid (by rw [contentR, hs]; rfl)
 simp only [hs] at HS
 clear hok hs
 have hbA0 : BoxAt (w.alloc (.cells (encNote n) 40)) w.heap.size 40 (encNote n) := BoxAt.new _ _ _
 have hB0 : Below w.heap.size w (w.alloc (.cells (encNote n) 40)) := (Below.refl _ _).alloc (Nat.le_refl _) _
 have hbS : BoxAt ((w.alloc (.cells (encNote n) 40)).alloc (.cells (encNote n) 40)) w.heap.size 40 (encNote n) := (BoxAt.new _ _ _).alloc _
 have hbN : BoxAt ((w.alloc (.cells (encNote n) 40)).alloc (.cells (encNote n) 40)) (w.heap.size + 1) 40 (encNote n) := by have h := BoxAt.new (w.alloc (.cells (encNote n) 40)) 40 (encNote n); rwa [World.size_alloc] at h
 have hBS : Below w.heap.size w ((w.alloc (.cells (encNote n) 40)).alloc (.cells (encNote n) 40)) := ((Below.refl _ _).alloc (Nat.le_refl _) _).alloc (by simp) _
 go_enter Tryz.func80, Tryz.ntmps80
 go_wp2_with (first
  | ((with_reducible refine at_dst 10 ?_); refine wpList_loadB hbA0 rfl 40 _ rfl rfl (encNote n) (whole_cells _) Tryz.underlying40 rfl (by kernel_rfl) ?_)
  | ((with_reducible refine at_storeT 40 ?_); refine wpList_store_last (cs := encNote n) rfl 40 _ _ rfl (by simp) rfl rfl (by kernel_rfl) rfl (encNote_one _) ?_; have hbA := hbS; have hb1 := hbN; have hB := hBS)
  | ((with_reducible refine at_storeT 3 ?_); refine wpList_store_box hb1 rfl _ _ _ rfl rfl (vi 0) rfl (by kernel_rfl) rfl (one_vi _) ?_; intro w1 hb1' hT; replace hbA := hbA.turn hT (by omega); replace hB := hB.trans (hT.below (by omega)); replace hb1 := hb1'; clear hT))
 replace hb1 := hb1.eqv (cs' := encNote (blankN n)) (by simp [splice, encNote, blankN, Value.cells])
 refine wp_region_ord [(0, true), (1, true), (2, true), (3, false), (4, false), (5, true)] rfl (by kernel_rfl) (by kernel_rfl) (fun d _ _ _ _ h => by cases d <;> exact h) ?_
 refine wpB_fix (v := .agg (encNote (blankN n))) rfl rfl (fun W hW => run_load_box (encNote (blankN n)) (hb1.drew.belowAll hW) rfl (whole_cells _) Tryz.underlying40 rfl (by kernel_rfl)) ?_; simp only [pTs, pTn, pTz, pTc]
 refine wpB_fix (v := .agg (encNote n)) rfl rfl (fun W hW => run_load_box (encNote n) (hbA.drew.belowAll hW) rfl (whole_cells _) Tryz.underlying40 rfl (by kernel_rfl)) ?_; simp only [pTs, pTn, pTz, pTc]
 refine wpB_fix rfl rfl (fun W hW => by go_simp; with_reducible rfl) ?_; simp only [pTs, pTn, pTz, pTc]
 refine wpB_act rfl rfl (fun K hK => ?_)
 go_simp
 refine (used_ref 2 n _).mono ?_
 rintro e w2 ⟨rfl, hb2⟩
 have hB2 := Below.call hB.drew hb2 (Nat.le_refl _)
 have hbA2 := hbA.drew.belowAll hb2
 refine hK _ _ hb2 ?_
 clear hK K
 try simp only [pTs, pTn, pTz, pTc]
 refine wpB_act rfl rfl (fun K hK => ?_)
 go_simp
 refine (HS.out _ hB2).mono ?_
 rintro e w3 ⟨rfl, hb3⟩
 have hB3 := Below.call hB2 hb3 (Nat.le_refl _)
 have hbA3 := hbA2.belowAll hb3
 refine hK _ _ hb3 ?_
 clear hK K
 try simp only [pTs, pTn, pTz, pTc]
 refine wpB_fix rfl rfl (fun W hW => by go_simp; with_reducible rfl) ?_; simp only [pTs, pTn, pTz, pTc]
 simp only [wpB]
 have c6 : w3.cell? ⟨w.heap.size, 6, none⟩ = some (vi n.piece) := (hbA3.cell 6).trans rfl
 have c7 : w3.cell? ⟨w.heap.size, 7, none⟩ = some (vi n.pane) := (hbA3.cell 7).trans rfl
 have c8 : w3.cell? ⟨w.heap.size, 8, none⟩ = some (vi n.colour) := (hbA3.cell 8).trans rfl
 have c9 : w3.cell? ⟨w.heap.size, 9, none⟩ = some (vi n.to) := (hbA3.cell 9).trans rfl
 have c10 : w3.cell? ⟨w.heap.size, 10, none⟩ = some (vi n.setting.shift) := (hbA3.cell 10).trans rfl
 have c11 : w3.cell? ⟨w.heap.size, 11, none⟩ = some (.bool n.setting.back) := (hbA3.cell 11).trans rfl
 have c12 : w3.cell? ⟨w.heap.size, 12, none⟩ = some (vi n.ref.bench) := (hbA3.cell 12).trans rfl
 have c13 : w3.cell? ⟨w.heap.size, 13, none⟩ = some (vi n.ref.num) := (hbA3.cell 13).trans rfl
 have c14 : w3.cell? ⟨w.heap.size, 14, none⟩ = some (.slice n.pieces.a n.pieces.val.length n.pieces.cap) := (hbA3.cell 14).trans rfl
 have c15 : w3.cell? ⟨w.heap.size, 15, none⟩ = some (.slice n.panes.a n.panes.val.length n.panes.cap) := (hbA3.cell 15).trans rfl
 have c16 : w3.cell? ⟨w.heap.size, 16, none⟩ = some (.slice n.data.a n.data.val.length n.data.cap) := (hbA3.cell 16).trans rfl
 go_wp2_with (first
  | ((with_reducible refine at_dst 54 ?_); refine wpList_loadB hbA3 rfl 38 _ rfl rfl (encItem n.item) (encNote_item n) Tryz.underlying38 rfl (by kernel_rfl) ?_)
  | (go_at_call 130; refine (item_ref n.item _).mono ?_; rintro e w4 ⟨rfl, hb4⟩; have hB4 := Below.call hB3 hb4 (Nat.le_refl _)))
 all_goals go_ret
 all_goals refine ⟨?_, by first | exact hB4 | exact hB3⟩
 all_goals first
  | (simp [HF.out, *]; done)
  | (simp [HF.out, *]; intros; omega)
theorem content9_3 (D : Nat → Prop) (n : Note) (w : World) (hok : okNote D w n) (hs : decide ((usedN 3 n).abs = (blankN n).abs) = true) :
  Calls Tryz.prog 80 #[.agg (encNote n), .int .i64 3] w fun e w' => e = .returned (.bool (contentR 3 n)) ∧ Below w.heap.size w w' := by
 have HS : Hid (∀ W, Below w.heap.size w W → Calls Tryz.prog 56 #[.agg (encNote (blankN n)), .agg (encNote (usedN 3 n))] W fun e w' => e = .returned (.bool (decide ((usedN 3 n).abs = (blankN n).abs))) ∧ Below W.heap.size W w') := Lib.hid fun W hW => refNote_g D (blankN n) (usedN 3 n) W (blank_ok (okNote.ext hok (.of_below hW))) (usedN_ok 3 (okNote.ext hok (.of_below hW)))
 have HG : Hid (∀ W, Below w.heap.size w W → _) := Lib.hid fun W hW => rising_ref D n.panes 64 W (okNote_panes (okNote.ext hok (.of_below hW)))
 have HF : Hid (contentR 3 n = (decide (1 ≤ (n.panes.val.length : Int)) && upB (fun x => inB x 1 64) (fun a b => decide (a < b)) n.panes.val)) := Lib.hid (by rw [contentR, hs]; rfl)
 simp only [hs] at HS
 clear hok hs
 have hbA0 : BoxAt (w.alloc (.cells (encNote n) 40)) w.heap.size 40 (encNote n) := BoxAt.new _ _ _
 have hB0 : Below w.heap.size w (w.alloc (.cells (encNote n) 40)) := (Below.refl _ _).alloc (Nat.le_refl _) _
 have hbS : BoxAt ((w.alloc (.cells (encNote n) 40)).alloc (.cells (encNote n) 40)) w.heap.size 40 (encNote n) := (BoxAt.new _ _ _).alloc _
 have hbN : BoxAt ((w.alloc (.cells (encNote n) 40)).alloc (.cells (encNote n) 40)) (w.heap.size + 1) 40 (encNote n) := by have h := BoxAt.new (w.alloc (.cells (encNote n) 40)) 40 (encNote n); rwa [World.size_alloc] at h
 have hBS : Below w.heap.size w ((w.alloc (.cells (encNote n) 40)).alloc (.cells (encNote n) 40)) := ((Below.refl _ _).alloc (Nat.le_refl _) _).alloc (by simp) _
 go_enter Tryz.func80, Tryz.ntmps80
 go_wp2_with (first
  | ((with_reducible refine at_dst 10 ?_); refine wpList_loadB hbA0 rfl 40 _ rfl rfl (encNote n) (whole_cells _) Tryz.underlying40 rfl (by kernel_rfl) ?_)
  | ((with_reducible refine at_storeT 40 ?_); refine wpList_store_last (cs := encNote n) rfl 40 _ _ rfl (by simp) rfl rfl (by kernel_rfl) rfl (encNote_one _) ?_; have hbA := hbS; have hb1 := hbN; have hB := hBS)
  | ((with_reducible refine at_storeT 3 ?_); refine wpList_store_box hb1 rfl _ _ _ rfl rfl (vi 0) rfl (by kernel_rfl) rfl (one_vi _) ?_; intro w1 hb1' hT; replace hbA := hbA.turn hT (by omega); replace hB := hB.trans (hT.below (by omega)); replace hb1 := hb1'; clear hT))
 replace hb1 := hb1.eqv (cs' := encNote (blankN n)) (by simp [splice, encNote, blankN, Value.cells])
 refine wp_region_ord [(0, true), (1, true), (2, true), (3, false), (4, false), (5, true)] rfl (by kernel_rfl) (by kernel_rfl) (fun d _ _ _ _ h => by cases d <;> exact h) ?_
 refine wpB_fix (v := .agg (encNote (blankN n))) rfl rfl (fun W hW => run_load_box (encNote (blankN n)) (hb1.drew.belowAll hW) rfl (whole_cells _) Tryz.underlying40 rfl (by kernel_rfl)) ?_; simp only [pTs, pTn, pTz, pTc]
 refine wpB_fix (v := .agg (encNote n)) rfl rfl (fun W hW => run_load_box (encNote n) (hbA.drew.belowAll hW) rfl (whole_cells _) Tryz.underlying40 rfl (by kernel_rfl)) ?_; simp only [pTs, pTn, pTz, pTc]
 refine wpB_fix rfl rfl (fun W hW => by go_simp; with_reducible rfl) ?_; simp only [pTs, pTn, pTz, pTc]
 refine wpB_act rfl rfl (fun K hK => ?_)
 go_simp
 refine (used_ref 3 n _).mono ?_
 rintro e w2 ⟨rfl, hb2⟩
 have hB2 := Below.call hB.drew hb2 (Nat.le_refl _)
 have hbA2 := hbA.drew.belowAll hb2
 refine hK _ _ hb2 ?_
 clear hK K
 try simp only [pTs, pTn, pTz, pTc]
 refine wpB_act rfl rfl (fun K hK => ?_)
 go_simp
 refine (HS.out _ hB2).mono ?_
 rintro e w3 ⟨rfl, hb3⟩
 have hB3 := Below.call hB2 hb3 (Nat.le_refl _)
 have hbA3 := hbA2.belowAll hb3
 refine hK _ _ hb3 ?_
 clear hK K
 try simp only [pTs, pTn, pTz, pTc]
 refine wpB_fix rfl rfl (fun W hW => by go_simp; with_reducible rfl) ?_; simp only [pTs, pTn, pTz, pTc]
 simp only [wpB]
 have c6 : w3.cell? ⟨w.heap.size, 6, none⟩ = some (vi n.piece) := (hbA3.cell 6).trans rfl
 have c7 : w3.cell? ⟨w.heap.size, 7, none⟩ = some (vi n.pane) := (hbA3.cell 7).trans rfl
 have c8 : w3.cell? ⟨w.heap.size, 8, none⟩ = some (vi n.colour) := (hbA3.cell 8).trans rfl
 have c9 : w3.cell? ⟨w.heap.size, 9, none⟩ = some (vi n.to) := (hbA3.cell 9).trans rfl
 have c10 : w3.cell? ⟨w.heap.size, 10, none⟩ = some (vi n.setting.shift) := (hbA3.cell 10).trans rfl
 have c11 : w3.cell? ⟨w.heap.size, 11, none⟩ = some (.bool n.setting.back) := (hbA3.cell 11).trans rfl
 have c12 : w3.cell? ⟨w.heap.size, 12, none⟩ = some (vi n.ref.bench) := (hbA3.cell 12).trans rfl
 have c13 : w3.cell? ⟨w.heap.size, 13, none⟩ = some (vi n.ref.num) := (hbA3.cell 13).trans rfl
 have c14 : w3.cell? ⟨w.heap.size, 14, none⟩ = some (.slice n.pieces.a n.pieces.val.length n.pieces.cap) := (hbA3.cell 14).trans rfl
 have c15 : w3.cell? ⟨w.heap.size, 15, none⟩ = some (.slice n.panes.a n.panes.val.length n.panes.cap) := (hbA3.cell 15).trans rfl
 have c16 : w3.cell? ⟨w.heap.size, 16, none⟩ = some (.slice n.data.a n.data.val.length n.data.cap) := (hbA3.cell 16).trans rfl
 go_wp2_with (first
  | (go_at_call 131; refine (HG.out _ hB3).mono ?_; rintro e w4 ⟨rfl, hb4⟩; have hB4 := Below.call hB3 hb4 (Nat.le_refl _); have hbA4 := hbA3.belowAll hb4; have d9 : w4.cell? ⟨w.heap.size, 9, none⟩ = some (vi n.to) := (hbA4.cell 9).trans rfl))
 all_goals go_ret
 all_goals refine ⟨?_, by first | exact hB4 | exact hB3⟩
 all_goals first
  | (simp [HF.out, *]; done)
  | (simp [HF.out, *]; intros; omega)
theorem content9_4 (D : Nat → Prop) (n : Note) (w : World) (hok : okNote D w n) (hs : decide ((usedN 4 n).abs = (blankN n).abs) = true) :
  Calls Tryz.prog 80 #[.agg (encNote n), .int .i64 4] w fun e w' => e = .returned (.bool (contentR 4 n)) ∧ Below w.heap.size w w' := by
 have HS : Hid (∀ W, Below w.heap.size w W → Calls Tryz.prog 56 #[.agg (encNote (blankN n)), .agg (encNote (usedN 4 n))] W fun e w' => e = .returned (.bool (decide ((usedN 4 n).abs = (blankN n).abs))) ∧ Below W.heap.size W w') := Lib.hid fun W hW => refNote_g D (blankN n) (usedN 4 n) W (blank_ok (okNote.ext hok (.of_below hW))) (usedN_ok 4 (okNote.ext hok (.of_below hW)))
 have HG : Hid (∀ W, Below w.heap.size w W → _) := Lib.hid fun W hW => rising_ref D n.pieces 65535 W (okNote_pieces (okNote.ext hok (.of_below hW)))
 have HF : Hid (contentR 4 n = (decide (1 ≤ (n.pieces.val.length : Int)) && decide ((n.pieces.val.length : Int) ≤ 64) && upB (fun x => inB x 1 65535) (fun a b => decide (a < b)) n.pieces.val && decide (1 ≤ n.to) && decide (n.to ≤ 8))) := Lib.hid (by rw [contentR, hs]; rfl)
 simp only [hs] at HS
 clear hok hs
 have hbA0 : BoxAt (w.alloc (.cells (encNote n) 40)) w.heap.size 40 (encNote n) := BoxAt.new _ _ _
 have hB0 : Below w.heap.size w (w.alloc (.cells (encNote n) 40)) := (Below.refl _ _).alloc (Nat.le_refl _) _
 have hbS : BoxAt ((w.alloc (.cells (encNote n) 40)).alloc (.cells (encNote n) 40)) w.heap.size 40 (encNote n) := (BoxAt.new _ _ _).alloc _
 have hbN : BoxAt ((w.alloc (.cells (encNote n) 40)).alloc (.cells (encNote n) 40)) (w.heap.size + 1) 40 (encNote n) := by have h := BoxAt.new (w.alloc (.cells (encNote n) 40)) 40 (encNote n); rwa [World.size_alloc] at h
 have hBS : Below w.heap.size w ((w.alloc (.cells (encNote n) 40)).alloc (.cells (encNote n) 40)) := ((Below.refl _ _).alloc (Nat.le_refl _) _).alloc (by simp) _
 go_enter Tryz.func80, Tryz.ntmps80
 go_wp2_with (first
  | ((with_reducible refine at_dst 10 ?_); refine wpList_loadB hbA0 rfl 40 _ rfl rfl (encNote n) (whole_cells _) Tryz.underlying40 rfl (by kernel_rfl) ?_)
  | ((with_reducible refine at_storeT 40 ?_); refine wpList_store_last (cs := encNote n) rfl 40 _ _ rfl (by simp) rfl rfl (by kernel_rfl) rfl (encNote_one _) ?_; have hbA := hbS; have hb1 := hbN; have hB := hBS)
  | ((with_reducible refine at_storeT 3 ?_); refine wpList_store_box hb1 rfl _ _ _ rfl rfl (vi 0) rfl (by kernel_rfl) rfl (one_vi _) ?_; intro w1 hb1' hT; replace hbA := hbA.turn hT (by omega); replace hB := hB.trans (hT.below (by omega)); replace hb1 := hb1'; clear hT))
 replace hb1 := hb1.eqv (cs' := encNote (blankN n)) (by simp [splice, encNote, blankN, Value.cells])
 refine wp_region_ord [(0, true), (1, true), (2, true), (3, false), (4, false), (5, true)] rfl (by kernel_rfl) (by kernel_rfl) (fun d _ _ _ _ h => by cases d <;> exact h) ?_
 refine wpB_fix (v := .agg (encNote (blankN n))) rfl rfl (fun W hW => run_load_box (encNote (blankN n)) (hb1.drew.belowAll hW) rfl (whole_cells _) Tryz.underlying40 rfl (by kernel_rfl)) ?_; simp only [pTs, pTn, pTz, pTc]
 refine wpB_fix (v := .agg (encNote n)) rfl rfl (fun W hW => run_load_box (encNote n) (hbA.drew.belowAll hW) rfl (whole_cells _) Tryz.underlying40 rfl (by kernel_rfl)) ?_; simp only [pTs, pTn, pTz, pTc]
 refine wpB_fix rfl rfl (fun W hW => by go_simp; with_reducible rfl) ?_; simp only [pTs, pTn, pTz, pTc]
 refine wpB_act rfl rfl (fun K hK => ?_)
 go_simp
 refine (used_ref 4 n _).mono ?_
 rintro e w2 ⟨rfl, hb2⟩
 have hB2 := Below.call hB.drew hb2 (Nat.le_refl _)
 have hbA2 := hbA.drew.belowAll hb2
 refine hK _ _ hb2 ?_
 clear hK K
 try simp only [pTs, pTn, pTz, pTc]
 refine wpB_act rfl rfl (fun K hK => ?_)
 go_simp
 refine (HS.out _ hB2).mono ?_
 rintro e w3 ⟨rfl, hb3⟩
 have hB3 := Below.call hB2 hb3 (Nat.le_refl _)
 have hbA3 := hbA2.belowAll hb3
 refine hK _ _ hb3 ?_
 clear hK K
 try simp only [pTs, pTn, pTz, pTc]
 refine wpB_fix rfl rfl (fun W hW => by go_simp; with_reducible rfl) ?_; simp only [pTs, pTn, pTz, pTc]
 simp only [wpB]
 have c6 : w3.cell? ⟨w.heap.size, 6, none⟩ = some (vi n.piece) := (hbA3.cell 6).trans rfl
 have c7 : w3.cell? ⟨w.heap.size, 7, none⟩ = some (vi n.pane) := (hbA3.cell 7).trans rfl
 have c8 : w3.cell? ⟨w.heap.size, 8, none⟩ = some (vi n.colour) := (hbA3.cell 8).trans rfl
 have c9 : w3.cell? ⟨w.heap.size, 9, none⟩ = some (vi n.to) := (hbA3.cell 9).trans rfl
 have c10 : w3.cell? ⟨w.heap.size, 10, none⟩ = some (vi n.setting.shift) := (hbA3.cell 10).trans rfl
 have c11 : w3.cell? ⟨w.heap.size, 11, none⟩ = some (.bool n.setting.back) := (hbA3.cell 11).trans rfl
 have c12 : w3.cell? ⟨w.heap.size, 12, none⟩ = some (vi n.ref.bench) := (hbA3.cell 12).trans rfl
 have c13 : w3.cell? ⟨w.heap.size, 13, none⟩ = some (vi n.ref.num) := (hbA3.cell 13).trans rfl
 have c14 : w3.cell? ⟨w.heap.size, 14, none⟩ = some (.slice n.pieces.a n.pieces.val.length n.pieces.cap) := (hbA3.cell 14).trans rfl
 have c15 : w3.cell? ⟨w.heap.size, 15, none⟩ = some (.slice n.panes.a n.panes.val.length n.panes.cap) := (hbA3.cell 15).trans rfl
 have c16 : w3.cell? ⟨w.heap.size, 16, none⟩ = some (.slice n.data.a n.data.val.length n.data.cap) := (hbA3.cell 16).trans rfl
 go_wp2_with (first
  | (go_at_call 131; refine (HG.out _ hB3).mono ?_; rintro e w4 ⟨rfl, hb4⟩; have hB4 := Below.call hB3 hb4 (Nat.le_refl _); have hbA4 := hbA3.belowAll hb4; have d9 : w4.cell? ⟨w.heap.size, 9, none⟩ = some (vi n.to) := (hbA4.cell 9).trans rfl))
 all_goals go_ret
 all_goals refine ⟨?_, by first | exact hB4 | exact hB3⟩
 all_goals first
  | (simp [HF.out, *]; done)
  | (simp [HF.out, *]; intros; omega)
theorem content9_5 (D : Nat → Prop) (n : Note) (w : World) (hok : okNote D w n) (hs : decide ((usedN 5 n).abs = (blankN n).abs) = true) :
  Calls Tryz.prog 80 #[.agg (encNote n), .int .i64 5] w fun e w' => e = .returned (.bool (contentR 5 n)) ∧ Below w.heap.size w w' := by
 have HS : Hid (∀ W, Below w.heap.size w W → Calls Tryz.prog 56 #[.agg (encNote (blankN n)), .agg (encNote (usedN 5 n))] W fun e w' => e = .returned (.bool (decide ((usedN 5 n).abs = (blankN n).abs))) ∧ Below W.heap.size W w') := Lib.hid fun W hW => refNote_g D (blankN n) (usedN 5 n) W (blank_ok (okNote.ext hok (.of_below hW))) (usedN_ok 5 (okNote.ext hok (.of_below hW)))
 have HF : Hid (contentR 5 n = (validRefB n.ref)) := Lib.hid (by rw [contentR, hs]; rfl)
 simp only [hs] at HS
 clear hok hs
 have hbA0 : BoxAt (w.alloc (.cells (encNote n) 40)) w.heap.size 40 (encNote n) := BoxAt.new _ _ _
 have hB0 : Below w.heap.size w (w.alloc (.cells (encNote n) 40)) := (Below.refl _ _).alloc (Nat.le_refl _) _
 have hbS : BoxAt ((w.alloc (.cells (encNote n) 40)).alloc (.cells (encNote n) 40)) w.heap.size 40 (encNote n) := (BoxAt.new _ _ _).alloc _
 have hbN : BoxAt ((w.alloc (.cells (encNote n) 40)).alloc (.cells (encNote n) 40)) (w.heap.size + 1) 40 (encNote n) := by have h := BoxAt.new (w.alloc (.cells (encNote n) 40)) 40 (encNote n); rwa [World.size_alloc] at h
 have hBS : Below w.heap.size w ((w.alloc (.cells (encNote n) 40)).alloc (.cells (encNote n) 40)) := ((Below.refl _ _).alloc (Nat.le_refl _) _).alloc (by simp) _
 go_enter Tryz.func80, Tryz.ntmps80
 go_wp2_with (first
  | ((with_reducible refine at_dst 10 ?_); refine wpList_loadB hbA0 rfl 40 _ rfl rfl (encNote n) (whole_cells _) Tryz.underlying40 rfl (by kernel_rfl) ?_)
  | ((with_reducible refine at_storeT 40 ?_); refine wpList_store_last (cs := encNote n) rfl 40 _ _ rfl (by simp) rfl rfl (by kernel_rfl) rfl (encNote_one _) ?_; have hbA := hbS; have hb1 := hbN; have hB := hBS)
  | ((with_reducible refine at_storeT 3 ?_); refine wpList_store_box hb1 rfl _ _ _ rfl rfl (vi 0) rfl (by kernel_rfl) rfl (one_vi _) ?_; intro w1 hb1' hT; replace hbA := hbA.turn hT (by omega); replace hB := hB.trans (hT.below (by omega)); replace hb1 := hb1'; clear hT))
 replace hb1 := hb1.eqv (cs' := encNote (blankN n)) (by simp [splice, encNote, blankN, Value.cells])
 refine wp_region_ord [(0, true), (1, true), (2, true), (3, false), (4, false), (5, true)] rfl (by kernel_rfl) (by kernel_rfl) (fun d _ _ _ _ h => by cases d <;> exact h) ?_
 refine wpB_fix (v := .agg (encNote (blankN n))) rfl rfl (fun W hW => run_load_box (encNote (blankN n)) (hb1.drew.belowAll hW) rfl (whole_cells _) Tryz.underlying40 rfl (by kernel_rfl)) ?_; simp only [pTs, pTn, pTz, pTc]
 refine wpB_fix (v := .agg (encNote n)) rfl rfl (fun W hW => run_load_box (encNote n) (hbA.drew.belowAll hW) rfl (whole_cells _) Tryz.underlying40 rfl (by kernel_rfl)) ?_; simp only [pTs, pTn, pTz, pTc]
 refine wpB_fix rfl rfl (fun W hW => by go_simp; with_reducible rfl) ?_; simp only [pTs, pTn, pTz, pTc]
 refine wpB_act rfl rfl (fun K hK => ?_)
 go_simp
 refine (used_ref 5 n _).mono ?_
 rintro e w2 ⟨rfl, hb2⟩
 have hB2 := Below.call hB.drew hb2 (Nat.le_refl _)
 have hbA2 := hbA.drew.belowAll hb2
 refine hK _ _ hb2 ?_
 clear hK K
 try simp only [pTs, pTn, pTz, pTc]
 refine wpB_act rfl rfl (fun K hK => ?_)
 go_simp
 refine (HS.out _ hB2).mono ?_
 rintro e w3 ⟨rfl, hb3⟩
 have hB3 := Below.call hB2 hb3 (Nat.le_refl _)
 have hbA3 := hbA2.belowAll hb3
 refine hK _ _ hb3 ?_
 clear hK K
 try simp only [pTs, pTn, pTz, pTc]
 refine wpB_fix rfl rfl (fun W hW => by go_simp; with_reducible rfl) ?_; simp only [pTs, pTn, pTz, pTc]
 simp only [wpB]
 have c6 : w3.cell? ⟨w.heap.size, 6, none⟩ = some (vi n.piece) := (hbA3.cell 6).trans rfl
 have c7 : w3.cell? ⟨w.heap.size, 7, none⟩ = some (vi n.pane) := (hbA3.cell 7).trans rfl
 have c8 : w3.cell? ⟨w.heap.size, 8, none⟩ = some (vi n.colour) := (hbA3.cell 8).trans rfl
 have c9 : w3.cell? ⟨w.heap.size, 9, none⟩ = some (vi n.to) := (hbA3.cell 9).trans rfl
 have c10 : w3.cell? ⟨w.heap.size, 10, none⟩ = some (vi n.setting.shift) := (hbA3.cell 10).trans rfl
 have c11 : w3.cell? ⟨w.heap.size, 11, none⟩ = some (.bool n.setting.back) := (hbA3.cell 11).trans rfl
 have c12 : w3.cell? ⟨w.heap.size, 12, none⟩ = some (vi n.ref.bench) := (hbA3.cell 12).trans rfl
 have c13 : w3.cell? ⟨w.heap.size, 13, none⟩ = some (vi n.ref.num) := (hbA3.cell 13).trans rfl
 have c14 : w3.cell? ⟨w.heap.size, 14, none⟩ = some (.slice n.pieces.a n.pieces.val.length n.pieces.cap) := (hbA3.cell 14).trans rfl
 have c15 : w3.cell? ⟨w.heap.size, 15, none⟩ = some (.slice n.panes.a n.panes.val.length n.panes.cap) := (hbA3.cell 15).trans rfl
 have c16 : w3.cell? ⟨w.heap.size, 16, none⟩ = some (.slice n.data.a n.data.val.length n.data.cap) := (hbA3.cell 16).trans rfl
 go_wp2_with (first
  | ((with_reducible refine at_dst 97 ?_); refine wpList_loadB hbA3 rfl 31 _ rfl rfl (encRef n.ref) (encNote_ref n) Tryz.underlying31 rfl (by kernel_rfl) ?_)
  | (go_at_call 79; refine (ref_ref n.ref _).mono ?_; rintro e w4 ⟨rfl, hb4⟩; have hB4 := Below.call hB3 hb4 (Nat.le_refl _)))
 all_goals go_ret
 all_goals refine ⟨?_, by first | exact hB4 | exact hB3⟩
 all_goals first
  | (simp [HF.out, *]; done)
  | (simp [HF.out, *]; intros; omega)
theorem content9_6 (D : Nat → Prop) (n : Note) (w : World) (hok : okNote D w n) (hs : decide ((usedN 6 n).abs = (blankN n).abs) = true) :
  Calls Tryz.prog 80 #[.agg (encNote n), .int .i64 6] w fun e w' => e = .returned (.bool (contentR 6 n)) ∧ Below w.heap.size w w' := by
 have HS : Hid (∀ W, Below w.heap.size w W → Calls Tryz.prog 56 #[.agg (encNote (blankN n)), .agg (encNote (usedN 6 n))] W fun e w' => e = .returned (.bool (decide ((usedN 6 n).abs = (blankN n).abs))) ∧ Below W.heap.size W w') := Lib.hid fun W hW => refNote_g D (blankN n) (usedN 6 n) W (blank_ok (okNote.ext hok (.of_below hW))) (usedN_ok 6 (okNote.ext hok (.of_below hW)))
 have HF : Hid (contentR 6 n = ((decide (1 ≤ n.pane) && decide (n.pane ≤ 64)) && (decide (n.piece = 0) && decide (1 ≤ n.colour) && decide (n.colour ≤ 16) && eqSetting n.setting ⟨0, false⟩ || (decide (1 ≤ n.piece) && decide (n.piece ≤ 65535)) && decide (n.colour = 0) && decide (0 ≤ n.setting.shift) && decide (n.setting.shift < 24)))) := Lib.hid (by rw [contentR, hs]; rfl)
 simp only [hs] at HS
 clear hok hs
 have hbA0 : BoxAt (w.alloc (.cells (encNote n) 40)) w.heap.size 40 (encNote n) := BoxAt.new _ _ _
 have hB0 : Below w.heap.size w (w.alloc (.cells (encNote n) 40)) := (Below.refl _ _).alloc (Nat.le_refl _) _
 have hbS : BoxAt ((w.alloc (.cells (encNote n) 40)).alloc (.cells (encNote n) 40)) w.heap.size 40 (encNote n) := (BoxAt.new _ _ _).alloc _
 have hbN : BoxAt ((w.alloc (.cells (encNote n) 40)).alloc (.cells (encNote n) 40)) (w.heap.size + 1) 40 (encNote n) := by have h := BoxAt.new (w.alloc (.cells (encNote n) 40)) 40 (encNote n); rwa [World.size_alloc] at h
 have hBS : Below w.heap.size w ((w.alloc (.cells (encNote n) 40)).alloc (.cells (encNote n) 40)) := ((Below.refl _ _).alloc (Nat.le_refl _) _).alloc (by simp) _
 go_enter Tryz.func80, Tryz.ntmps80
 go_wp2_with (first
  | ((with_reducible refine at_dst 10 ?_); refine wpList_loadB hbA0 rfl 40 _ rfl rfl (encNote n) (whole_cells _) Tryz.underlying40 rfl (by kernel_rfl) ?_)
  | ((with_reducible refine at_storeT 40 ?_); refine wpList_store_last (cs := encNote n) rfl 40 _ _ rfl (by simp) rfl rfl (by kernel_rfl) rfl (encNote_one _) ?_; have hbA := hbS; have hb1 := hbN; have hB := hBS)
  | ((with_reducible refine at_storeT 3 ?_); refine wpList_store_box hb1 rfl _ _ _ rfl rfl (vi 0) rfl (by kernel_rfl) rfl (one_vi _) ?_; intro w1 hb1' hT; replace hbA := hbA.turn hT (by omega); replace hB := hB.trans (hT.below (by omega)); replace hb1 := hb1'; clear hT))
 replace hb1 := hb1.eqv (cs' := encNote (blankN n)) (by simp [splice, encNote, blankN, Value.cells])
 refine wp_region_ord [(0, true), (1, true), (2, true), (3, false), (4, false), (5, true)] rfl (by kernel_rfl) (by kernel_rfl) (fun d _ _ _ _ h => by cases d <;> exact h) ?_
 refine wpB_fix (v := .agg (encNote (blankN n))) rfl rfl (fun W hW => run_load_box (encNote (blankN n)) (hb1.drew.belowAll hW) rfl (whole_cells _) Tryz.underlying40 rfl (by kernel_rfl)) ?_; simp only [pTs, pTn, pTz, pTc]
 refine wpB_fix (v := .agg (encNote n)) rfl rfl (fun W hW => run_load_box (encNote n) (hbA.drew.belowAll hW) rfl (whole_cells _) Tryz.underlying40 rfl (by kernel_rfl)) ?_; simp only [pTs, pTn, pTz, pTc]
 refine wpB_fix rfl rfl (fun W hW => by go_simp; with_reducible rfl) ?_; simp only [pTs, pTn, pTz, pTc]
 refine wpB_act rfl rfl (fun K hK => ?_)
 go_simp
 refine (used_ref 6 n _).mono ?_
 rintro e w2 ⟨rfl, hb2⟩
 have hB2 := Below.call hB.drew hb2 (Nat.le_refl _)
 have hbA2 := hbA.drew.belowAll hb2
 refine hK _ _ hb2 ?_
 clear hK K
 try simp only [pTs, pTn, pTz, pTc]
 refine wpB_act rfl rfl (fun K hK => ?_)
 go_simp
 refine (HS.out _ hB2).mono ?_
 rintro e w3 ⟨rfl, hb3⟩
 have hB3 := Below.call hB2 hb3 (Nat.le_refl _)
 have hbA3 := hbA2.belowAll hb3
 refine hK _ _ hb3 ?_
 clear hK K
 try simp only [pTs, pTn, pTz, pTc]
 refine wpB_fix rfl rfl (fun W hW => by go_simp; with_reducible rfl) ?_; simp only [pTs, pTn, pTz, pTc]
 simp only [wpB]
 have c6 : w3.cell? ⟨w.heap.size, 6, none⟩ = some (vi n.piece) := (hbA3.cell 6).trans rfl
 have c7 : w3.cell? ⟨w.heap.size, 7, none⟩ = some (vi n.pane) := (hbA3.cell 7).trans rfl
 have c8 : w3.cell? ⟨w.heap.size, 8, none⟩ = some (vi n.colour) := (hbA3.cell 8).trans rfl
 have c9 : w3.cell? ⟨w.heap.size, 9, none⟩ = some (vi n.to) := (hbA3.cell 9).trans rfl
 have c10 : w3.cell? ⟨w.heap.size, 10, none⟩ = some (vi n.setting.shift) := (hbA3.cell 10).trans rfl
 have c11 : w3.cell? ⟨w.heap.size, 11, none⟩ = some (.bool n.setting.back) := (hbA3.cell 11).trans rfl
 have c12 : w3.cell? ⟨w.heap.size, 12, none⟩ = some (vi n.ref.bench) := (hbA3.cell 12).trans rfl
 have c13 : w3.cell? ⟨w.heap.size, 13, none⟩ = some (vi n.ref.num) := (hbA3.cell 13).trans rfl
 have c14 : w3.cell? ⟨w.heap.size, 14, none⟩ = some (.slice n.pieces.a n.pieces.val.length n.pieces.cap) := (hbA3.cell 14).trans rfl
 have c15 : w3.cell? ⟨w.heap.size, 15, none⟩ = some (.slice n.panes.a n.panes.val.length n.panes.cap) := (hbA3.cell 15).trans rfl
 have c16 : w3.cell? ⟨w.heap.size, 16, none⟩ = some (.slice n.data.a n.data.val.length n.data.cap) := (hbA3.cell 16).trans rfl
 go_wp2_with (first
  | ((with_reducible refine at_dst 116 ?_); refine wpList_loadB hbA3 rfl 29 _ rfl rfl (encSetting n.setting) (encNote_setting n) Tryz.underlying29 rfl (by kernel_rfl) ?_))
 all_goals go_ret
 all_goals refine ⟨?_, by first | exact hB4 | exact hB3⟩
 all_goals first
  | (simp [HF.out, *]; done)
  | (simp [HF.out, *]; intros; omega)
theorem content9_7 (D : Nat → Prop) (n : Note) (w : World) (hok : okNote D w n) (hs : decide ((usedN 7 n).abs = (blankN n).abs) = true) :
  Calls Tryz.prog 80 #[.agg (encNote n), .int .i64 7] w fun e w' => e = .returned (.bool (contentR 7 n)) ∧ Below w.heap.size w w' := by
 have HS : Hid (∀ W, Below w.heap.size w W → Calls Tryz.prog 56 #[.agg (encNote (blankN n)), .agg (encNote (usedN 7 n))] W fun e w' => e = .returned (.bool (decide ((usedN 7 n).abs = (blankN n).abs))) ∧ Below W.heap.size W w') := Lib.hid fun W hW => refNote_g D (blankN n) (usedN 7 n) W (blank_ok (okNote.ext hok (.of_below hW))) (usedN_ok 7 (okNote.ext hok (.of_below hW)))
 have HF : Hid (contentR 7 n = (decide (1 ≤ n.pane) && decide (n.pane ≤ 64))) := Lib.hid (by rw [contentR, hs]; rfl)
 simp only [hs] at HS
 clear hok hs
 have hbA0 : BoxAt (w.alloc (.cells (encNote n) 40)) w.heap.size 40 (encNote n) := BoxAt.new _ _ _
 have hB0 : Below w.heap.size w (w.alloc (.cells (encNote n) 40)) := (Below.refl _ _).alloc (Nat.le_refl _) _
 have hbS : BoxAt ((w.alloc (.cells (encNote n) 40)).alloc (.cells (encNote n) 40)) w.heap.size 40 (encNote n) := (BoxAt.new _ _ _).alloc _
 have hbN : BoxAt ((w.alloc (.cells (encNote n) 40)).alloc (.cells (encNote n) 40)) (w.heap.size + 1) 40 (encNote n) := by have h := BoxAt.new (w.alloc (.cells (encNote n) 40)) 40 (encNote n); rwa [World.size_alloc] at h
 have hBS : Below w.heap.size w ((w.alloc (.cells (encNote n) 40)).alloc (.cells (encNote n) 40)) := ((Below.refl _ _).alloc (Nat.le_refl _) _).alloc (by simp) _
 go_enter Tryz.func80, Tryz.ntmps80
 go_wp2_with (first
  | ((with_reducible refine at_dst 10 ?_); refine wpList_loadB hbA0 rfl 40 _ rfl rfl (encNote n) (whole_cells _) Tryz.underlying40 rfl (by kernel_rfl) ?_)
  | ((with_reducible refine at_storeT 40 ?_); refine wpList_store_last (cs := encNote n) rfl 40 _ _ rfl (by simp) rfl rfl (by kernel_rfl) rfl (encNote_one _) ?_; have hbA := hbS; have hb1 := hbN; have hB := hBS)
  | ((with_reducible refine at_storeT 3 ?_); refine wpList_store_box hb1 rfl _ _ _ rfl rfl (vi 0) rfl (by kernel_rfl) rfl (one_vi _) ?_; intro w1 hb1' hT; replace hbA := hbA.turn hT (by omega); replace hB := hB.trans (hT.below (by omega)); replace hb1 := hb1'; clear hT))
 replace hb1 := hb1.eqv (cs' := encNote (blankN n)) (by simp [splice, encNote, blankN, Value.cells])
 refine wp_region_ord [(0, true), (1, true), (2, true), (3, false), (4, false), (5, true)] rfl (by kernel_rfl) (by kernel_rfl) (fun d _ _ _ _ h => by cases d <;> exact h) ?_
 refine wpB_fix (v := .agg (encNote (blankN n))) rfl rfl (fun W hW => run_load_box (encNote (blankN n)) (hb1.drew.belowAll hW) rfl (whole_cells _) Tryz.underlying40 rfl (by kernel_rfl)) ?_; simp only [pTs, pTn, pTz, pTc]
 refine wpB_fix (v := .agg (encNote n)) rfl rfl (fun W hW => run_load_box (encNote n) (hbA.drew.belowAll hW) rfl (whole_cells _) Tryz.underlying40 rfl (by kernel_rfl)) ?_; simp only [pTs, pTn, pTz, pTc]
 refine wpB_fix rfl rfl (fun W hW => by go_simp; with_reducible rfl) ?_; simp only [pTs, pTn, pTz, pTc]
 refine wpB_act rfl rfl (fun K hK => ?_)
 go_simp
 refine (used_ref 7 n _).mono ?_
 rintro e w2 ⟨rfl, hb2⟩
 have hB2 := Below.call hB.drew hb2 (Nat.le_refl _)
 have hbA2 := hbA.drew.belowAll hb2
 refine hK _ _ hb2 ?_
 clear hK K
 try simp only [pTs, pTn, pTz, pTc]
 refine wpB_act rfl rfl (fun K hK => ?_)
 go_simp
 refine (HS.out _ hB2).mono ?_
 rintro e w3 ⟨rfl, hb3⟩
 have hB3 := Below.call hB2 hb3 (Nat.le_refl _)
 have hbA3 := hbA2.belowAll hb3
 refine hK _ _ hb3 ?_
 clear hK K
 try simp only [pTs, pTn, pTz, pTc]
 refine wpB_fix rfl rfl (fun W hW => by go_simp; with_reducible rfl) ?_; simp only [pTs, pTn, pTz, pTc]
 simp only [wpB]
 have c6 : w3.cell? ⟨w.heap.size, 6, none⟩ = some (vi n.piece) := (hbA3.cell 6).trans rfl
 have c7 : w3.cell? ⟨w.heap.size, 7, none⟩ = some (vi n.pane) := (hbA3.cell 7).trans rfl
 have c8 : w3.cell? ⟨w.heap.size, 8, none⟩ = some (vi n.colour) := (hbA3.cell 8).trans rfl
 have c9 : w3.cell? ⟨w.heap.size, 9, none⟩ = some (vi n.to) := (hbA3.cell 9).trans rfl
 have c10 : w3.cell? ⟨w.heap.size, 10, none⟩ = some (vi n.setting.shift) := (hbA3.cell 10).trans rfl
 have c11 : w3.cell? ⟨w.heap.size, 11, none⟩ = some (.bool n.setting.back) := (hbA3.cell 11).trans rfl
 have c12 : w3.cell? ⟨w.heap.size, 12, none⟩ = some (vi n.ref.bench) := (hbA3.cell 12).trans rfl
 have c13 : w3.cell? ⟨w.heap.size, 13, none⟩ = some (vi n.ref.num) := (hbA3.cell 13).trans rfl
 have c14 : w3.cell? ⟨w.heap.size, 14, none⟩ = some (.slice n.pieces.a n.pieces.val.length n.pieces.cap) := (hbA3.cell 14).trans rfl
 have c15 : w3.cell? ⟨w.heap.size, 15, none⟩ = some (.slice n.panes.a n.panes.val.length n.panes.cap) := (hbA3.cell 15).trans rfl
 have c16 : w3.cell? ⟨w.heap.size, 16, none⟩ = some (.slice n.data.a n.data.val.length n.data.cap) := (hbA3.cell 16).trans rfl
 go_wp2
 all_goals go_ret
 all_goals refine ⟨?_, by first | exact hB4 | exact hB3⟩
 all_goals first
  | (simp [HF.out, *]; done)
  | (simp [HF.out, *]; intros; omega)
theorem content9_8 (D : Nat → Prop) (n : Note) (w : World) (hok : okNote D w n) (hs : decide ((usedN 8 n).abs = (blankN n).abs) = true) :
  Calls Tryz.prog 80 #[.agg (encNote n), .int .i64 8] w fun e w' => e = .returned (.bool (contentR 8 n)) ∧ Below w.heap.size w w' := by
 have HS : Hid (∀ W, Below w.heap.size w W → Calls Tryz.prog 56 #[.agg (encNote (blankN n)), .agg (encNote (usedN 8 n))] W fun e w' => e = .returned (.bool (decide ((usedN 8 n).abs = (blankN n).abs))) ∧ Below W.heap.size W w') := Lib.hid fun W hW => refNote_g D (blankN n) (usedN 8 n) W (blank_ok (okNote.ext hok (.of_below hW))) (usedN_ok 8 (okNote.ext hok (.of_below hW)))
 have HG : Hid (∀ W, Below w.heap.size w W → _) := Lib.hid fun W hW => given_ref D n.data W (okNote_data (okNote.ext hok (.of_below hW)))
 have HF : Hid (contentR 8 n = ((decide (1 ≤ n.piece) && decide (n.piece ≤ 65535)) && decide (1 ≤ (n.data.val.length : Int)) && decide ((n.data.val.length : Int) ≤ 4) && upB validPieceB (fun a b => decide (a.id < b.id)) n.data.val)) := Lib.hid (by rw [contentR, hs]; rfl)
 simp only [hs] at HS
 clear hok hs
 have hbA0 : BoxAt (w.alloc (.cells (encNote n) 40)) w.heap.size 40 (encNote n) := BoxAt.new _ _ _
 have hB0 : Below w.heap.size w (w.alloc (.cells (encNote n) 40)) := (Below.refl _ _).alloc (Nat.le_refl _) _
 have hbS : BoxAt ((w.alloc (.cells (encNote n) 40)).alloc (.cells (encNote n) 40)) w.heap.size 40 (encNote n) := (BoxAt.new _ _ _).alloc _
 have hbN : BoxAt ((w.alloc (.cells (encNote n) 40)).alloc (.cells (encNote n) 40)) (w.heap.size + 1) 40 (encNote n) := by have h := BoxAt.new (w.alloc (.cells (encNote n) 40)) 40 (encNote n); rwa [World.size_alloc] at h
 have hBS : Below w.heap.size w ((w.alloc (.cells (encNote n) 40)).alloc (.cells (encNote n) 40)) := ((Below.refl _ _).alloc (Nat.le_refl _) _).alloc (by simp) _
 go_enter Tryz.func80, Tryz.ntmps80
 go_wp2_with (first
  | ((with_reducible refine at_dst 10 ?_); refine wpList_loadB hbA0 rfl 40 _ rfl rfl (encNote n) (whole_cells _) Tryz.underlying40 rfl (by kernel_rfl) ?_)
  | ((with_reducible refine at_storeT 40 ?_); refine wpList_store_last (cs := encNote n) rfl 40 _ _ rfl (by simp) rfl rfl (by kernel_rfl) rfl (encNote_one _) ?_; have hbA := hbS; have hb1 := hbN; have hB := hBS)
  | ((with_reducible refine at_storeT 3 ?_); refine wpList_store_box hb1 rfl _ _ _ rfl rfl (vi 0) rfl (by kernel_rfl) rfl (one_vi _) ?_; intro w1 hb1' hT; replace hbA := hbA.turn hT (by omega); replace hB := hB.trans (hT.below (by omega)); replace hb1 := hb1'; clear hT))
 replace hb1 := hb1.eqv (cs' := encNote (blankN n)) (by simp [splice, encNote, blankN, Value.cells])
 refine wp_region_ord [(0, true), (1, true), (2, true), (3, false), (4, false), (5, true)] rfl (by kernel_rfl) (by kernel_rfl) (fun d _ _ _ _ h => by cases d <;> exact h) ?_
 refine wpB_fix (v := .agg (encNote (blankN n))) rfl rfl (fun W hW => run_load_box (encNote (blankN n)) (hb1.drew.belowAll hW) rfl (whole_cells _) Tryz.underlying40 rfl (by kernel_rfl)) ?_; simp only [pTs, pTn, pTz, pTc]
 refine wpB_fix (v := .agg (encNote n)) rfl rfl (fun W hW => run_load_box (encNote n) (hbA.drew.belowAll hW) rfl (whole_cells _) Tryz.underlying40 rfl (by kernel_rfl)) ?_; simp only [pTs, pTn, pTz, pTc]
 refine wpB_fix rfl rfl (fun W hW => by go_simp; with_reducible rfl) ?_; simp only [pTs, pTn, pTz, pTc]
 refine wpB_act rfl rfl (fun K hK => ?_)
 go_simp
 refine (used_ref 8 n _).mono ?_
 rintro e w2 ⟨rfl, hb2⟩
 have hB2 := Below.call hB.drew hb2 (Nat.le_refl _)
 have hbA2 := hbA.drew.belowAll hb2
 refine hK _ _ hb2 ?_
 clear hK K
 try simp only [pTs, pTn, pTz, pTc]
 refine wpB_act rfl rfl (fun K hK => ?_)
 go_simp
 refine (HS.out _ hB2).mono ?_
 rintro e w3 ⟨rfl, hb3⟩
 have hB3 := Below.call hB2 hb3 (Nat.le_refl _)
 have hbA3 := hbA2.belowAll hb3
 refine hK _ _ hb3 ?_
 clear hK K
 try simp only [pTs, pTn, pTz, pTc]
 refine wpB_fix rfl rfl (fun W hW => by go_simp; with_reducible rfl) ?_; simp only [pTs, pTn, pTz, pTc]
 simp only [wpB]
 have c6 : w3.cell? ⟨w.heap.size, 6, none⟩ = some (vi n.piece) := (hbA3.cell 6).trans rfl
 have c7 : w3.cell? ⟨w.heap.size, 7, none⟩ = some (vi n.pane) := (hbA3.cell 7).trans rfl
 have c8 : w3.cell? ⟨w.heap.size, 8, none⟩ = some (vi n.colour) := (hbA3.cell 8).trans rfl
 have c9 : w3.cell? ⟨w.heap.size, 9, none⟩ = some (vi n.to) := (hbA3.cell 9).trans rfl
 have c10 : w3.cell? ⟨w.heap.size, 10, none⟩ = some (vi n.setting.shift) := (hbA3.cell 10).trans rfl
 have c11 : w3.cell? ⟨w.heap.size, 11, none⟩ = some (.bool n.setting.back) := (hbA3.cell 11).trans rfl
 have c12 : w3.cell? ⟨w.heap.size, 12, none⟩ = some (vi n.ref.bench) := (hbA3.cell 12).trans rfl
 have c13 : w3.cell? ⟨w.heap.size, 13, none⟩ = some (vi n.ref.num) := (hbA3.cell 13).trans rfl
 have c14 : w3.cell? ⟨w.heap.size, 14, none⟩ = some (.slice n.pieces.a n.pieces.val.length n.pieces.cap) := (hbA3.cell 14).trans rfl
 have c15 : w3.cell? ⟨w.heap.size, 15, none⟩ = some (.slice n.panes.a n.panes.val.length n.panes.cap) := (hbA3.cell 15).trans rfl
 have c16 : w3.cell? ⟨w.heap.size, 16, none⟩ = some (.slice n.data.a n.data.val.length n.data.cap) := (hbA3.cell 16).trans rfl
 go_wp2_with (first
  | (go_at_call 129; refine (HG.out _ hB3).mono ?_; rintro e w4 ⟨rfl, hb4⟩; have hB4 := Below.call hB3 hb4 (Nat.le_refl _); have hbA4 := hbA3.belowAll hb4; have d9 : w4.cell? ⟨w.heap.size, 9, none⟩ = some (vi n.to) := (hbA4.cell 9).trans rfl))
 all_goals go_ret
 all_goals refine ⟨?_, by first | exact hB4 | exact hB3⟩
 all_goals first
  | (simp [HF.out, *]; done)
  | (simp [HF.out, *]; intros; omega)
theorem content9_else (D : Nat → Prop) (kind : Int) (n : Note) (w : World) (hok : okNote D w n) (hs : decide ((usedN kind n).abs = (blankN n).abs) = true) (h1 : ¬ kind = 1) (h2 : ¬ kind = 2) (h3 : ¬ kind = 3) (h4 : ¬ kind = 4) (h5 : ¬ kind = 5) (h6 : ¬ kind = 6) (h7 : ¬ kind = 7) (h8 : ¬ kind = 8) :
  Calls Tryz.prog 80 #[.agg (encNote n), .int .i64 kind] w fun e w' => e = .returned (.bool (contentR kind n)) ∧ Below w.heap.size w w' := by
 have HS : Hid (∀ W, Below w.heap.size w W → Calls Tryz.prog 56 #[.agg (encNote (blankN n)), .agg (encNote (usedN kind n))] W fun e w' => e = .returned (.bool (decide ((usedN kind n).abs = (blankN n).abs))) ∧ Below W.heap.size W w') := Lib.hid fun W hW => refNote_g D (blankN n) (usedN kind n) W (blank_ok (okNote.ext hok (.of_below hW))) (usedN_ok kind (okNote.ext hok (.of_below hW)))
 have HF : Hid (contentR kind n = false) := Lib.hid (by simp [contentR, testR, h1, h2, h3, h4, h5, h6, h7, h8])
 simp only [hs] at HS
 clear hok hs
 have hbA0 : BoxAt (w.alloc (.cells (encNote n) 40)) w.heap.size 40 (encNote n) := BoxAt.new _ _ _
 have hB0 : Below w.heap.size w (w.alloc (.cells (encNote n) 40)) := (Below.refl _ _).alloc (Nat.le_refl _) _
 have hbS : BoxAt ((w.alloc (.cells (encNote n) 40)).alloc (.cells (encNote n) 40)) w.heap.size 40 (encNote n) := (BoxAt.new _ _ _).alloc _
 have hbN : BoxAt ((w.alloc (.cells (encNote n) 40)).alloc (.cells (encNote n) 40)) (w.heap.size + 1) 40 (encNote n) := by have h := BoxAt.new (w.alloc (.cells (encNote n) 40)) 40 (encNote n); rwa [World.size_alloc] at h
 have hBS : Below w.heap.size w ((w.alloc (.cells (encNote n) 40)).alloc (.cells (encNote n) 40)) := ((Below.refl _ _).alloc (Nat.le_refl _) _).alloc (by simp) _
 go_enter Tryz.func80, Tryz.ntmps80
 go_wp2_with (first
  | ((with_reducible refine at_dst 10 ?_); refine wpList_loadB hbA0 rfl 40 _ rfl rfl (encNote n) (whole_cells _) Tryz.underlying40 rfl (by kernel_rfl) ?_)
  | ((with_reducible refine at_storeT 40 ?_); refine wpList_store_last (cs := encNote n) rfl 40 _ _ rfl (by simp) rfl rfl (by kernel_rfl) rfl (encNote_one _) ?_; have hbA := hbS; have hb1 := hbN; have hB := hBS)
  | ((with_reducible refine at_storeT 3 ?_); refine wpList_store_box hb1 rfl _ _ _ rfl rfl (vi 0) rfl (by kernel_rfl) rfl (one_vi _) ?_; intro w1 hb1' hT; replace hbA := hbA.turn hT (by omega); replace hB := hB.trans (hT.below (by omega)); replace hb1 := hb1'; clear hT))
 replace hb1 := hb1.eqv (cs' := encNote (blankN n)) (by simp [splice, encNote, blankN, Value.cells])
 refine wp_region_ord [(0, true), (1, true), (2, true), (3, false), (4, false), (5, true)] rfl (by kernel_rfl) (by kernel_rfl) (fun d _ _ _ _ h => by cases d <;> exact h) ?_
 refine wpB_fix (v := .agg (encNote (blankN n))) rfl rfl (fun W hW => run_load_box (encNote (blankN n)) (hb1.drew.belowAll hW) rfl (whole_cells _) Tryz.underlying40 rfl (by kernel_rfl)) ?_; simp only [pTs, pTn, pTz, pTc]
 refine wpB_fix (v := .agg (encNote n)) rfl rfl (fun W hW => run_load_box (encNote n) (hbA.drew.belowAll hW) rfl (whole_cells _) Tryz.underlying40 rfl (by kernel_rfl)) ?_; simp only [pTs, pTn, pTz, pTc]
 refine wpB_fix rfl rfl (fun W hW => by go_simp; with_reducible rfl) ?_; simp only [pTs, pTn, pTz, pTc]
 refine wpB_act rfl rfl (fun K hK => ?_)
 go_simp
 refine (used_ref kind n _).mono ?_
 rintro e w2 ⟨rfl, hb2⟩
 have hB2 := Below.call hB.drew hb2 (Nat.le_refl _)
 have hbA2 := hbA.drew.belowAll hb2
 refine hK _ _ hb2 ?_
 clear hK K
 try simp only [pTs, pTn, pTz, pTc]
 refine wpB_act rfl rfl (fun K hK => ?_)
 go_simp
 refine (HS.out _ hB2).mono ?_
 rintro e w3 ⟨rfl, hb3⟩
 have hB3 := Below.call hB2 hb3 (Nat.le_refl _)
 have hbA3 := hbA2.belowAll hb3
 refine hK _ _ hb3 ?_
 clear hK K
 try simp only [pTs, pTn, pTz, pTc]
 refine wpB_fix rfl rfl (fun W hW => by go_simp; with_reducible rfl) ?_; simp only [pTs, pTn, pTz, pTc]
 simp only [wpB]
 have c6 : w3.cell? ⟨w.heap.size, 6, none⟩ = some (vi n.piece) := (hbA3.cell 6).trans rfl
 have c7 : w3.cell? ⟨w.heap.size, 7, none⟩ = some (vi n.pane) := (hbA3.cell 7).trans rfl
 have c8 : w3.cell? ⟨w.heap.size, 8, none⟩ = some (vi n.colour) := (hbA3.cell 8).trans rfl
 have c9 : w3.cell? ⟨w.heap.size, 9, none⟩ = some (vi n.to) := (hbA3.cell 9).trans rfl
 have c10 : w3.cell? ⟨w.heap.size, 10, none⟩ = some (vi n.setting.shift) := (hbA3.cell 10).trans rfl
 have c11 : w3.cell? ⟨w.heap.size, 11, none⟩ = some (.bool n.setting.back) := (hbA3.cell 11).trans rfl
 have c12 : w3.cell? ⟨w.heap.size, 12, none⟩ = some (vi n.ref.bench) := (hbA3.cell 12).trans rfl
 have c13 : w3.cell? ⟨w.heap.size, 13, none⟩ = some (vi n.ref.num) := (hbA3.cell 13).trans rfl
 have c14 : w3.cell? ⟨w.heap.size, 14, none⟩ = some (.slice n.pieces.a n.pieces.val.length n.pieces.cap) := (hbA3.cell 14).trans rfl
 have c15 : w3.cell? ⟨w.heap.size, 15, none⟩ = some (.slice n.panes.a n.panes.val.length n.panes.cap) := (hbA3.cell 15).trans rfl
 have c16 : w3.cell? ⟨w.heap.size, 16, none⟩ = some (.slice n.data.a n.data.val.length n.data.cap) := (hbA3.cell 16).trans rfl
 go_wp2
 all_goals go_ret
 all_goals exact ⟨by simp [HF.out], hB3⟩
theorem content_ref (D : Nat → Prop) (kind : Int) (n : Note) (w : World) (hok : okNote D w n) :
  Calls Tryz.prog 80 #[.agg (encNote n), .int .i64 kind] w fun e w' => e = .returned (.bool (contentR kind n)) ∧ Below w.heap.size w w' := by
 cases hs : decide ((usedN kind n).abs = (blankN n).abs)
 ·exact content9_no D kind n w hok hs
 by_cases h1 : kind = 1
 ·subst h1; exact content9_1 D n w hok hs
 by_cases h2 : kind = 2
 ·subst h2; exact content9_2 D n w hok hs
 by_cases h3 : kind = 3
 ·subst h3; exact content9_3 D n w hok hs
 by_cases h4 : kind = 4
 ·subst h4; exact content9_4 D n w hok hs
 by_cases h5 : kind = 5
 ·subst h5; exact content9_5 D n w hok hs
 by_cases h6 : kind = 6
 ·subst h6; exact content9_6 D n w hok hs
 by_cases h7 : kind = 7
 ·subst h7; exact content9_7 D n w hok hs
 by_cases h8 : kind = 8
 ·subst h8; exact content9_8 D n w hok hs
 exact content9_else D kind n w hok hs h1 h2 h3 h4 h5 h6 h7 h8
end Go.Proofs.YtendmmhfjhgdaaaGreat
