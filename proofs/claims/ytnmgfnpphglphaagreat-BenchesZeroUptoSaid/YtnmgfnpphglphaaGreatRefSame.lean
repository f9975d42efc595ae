/-
  What the reference calls the same, whatever the two are: ints, pieces, items, notes: walked.
-/
import Derived.Test.YtnmgfnpphglphaaGreatSet
import Derived.Test.YtnmgfnpphglphaaGreatBox
import Derived.Deep.QuietTactic
import Derived.BigQuiet
set_option maxHeartbeats 16000000
set_option maxRecDepth 100000
set_option linter.unusedVariables false
set_option linter.unusedSimpArgs false
namespace Go.Proofs.YtnmgfnpphglphaaGreat
open Go.RowKit
theorem refInts_len (a a2 : Option Addr) (l c l2 c2 : Nat) (w : World) (h : l ≠ l2) :
  Calls Tryz.prog 47 #[.slice a l c, .slice a2 l2 c2] w fun e w' => e = .returned (.bool false) ∧ Below w.heap.size w w' := by
 have hne : (((l : Int)) != (l2 : Int)) = true := by simp; omega
 go_enter Tryz.func47, Tryz.ntmps47
 go_wp2
 go_ret
 exact ⟨by simp, Below.refl _ _⟩
theorem refPieces_len (a a2 : Option Addr) (l c l2 c2 : Nat) (w : World) (h : l ≠ l2) :
  Calls Tryz.prog 48 #[.slice a l c, .slice a2 l2 c2] w fun e w' => e = .returned (.bool false) ∧ Below w.heap.size w w' := by
 have hne : (((l : Int)) != (l2 : Int)) = true := by simp; omega
 go_enter Tryz.func48, Tryz.ntmps48
 go_wp2
 go_ret
 exact ⟨by simp, Below.refl _ _⟩
theorem refItem_diff (a b : Item) (w : World) (hd : ¬ (a.id = b.id ∧ a.kind = b.kind ∧ a.year = b.year ∧ a.film = b.film ∧ a.piece = b.piece ∧ a.lead = b.lead ∧ a.slack = b.slack ∧ a.count = b.count)) :
  Calls Tryz.prog 49 #[.agg (encItem a), .agg (encItem b)] w fun e w' => e = .returned (.bool false) ∧ Below w.heap.size w w' := by
 by_cases c0 : a.id = b.id
 by_cases c1 : a.kind = b.kind
 by_cases c2 : a.year = b.year
 by_cases c3 : a.film = b.film
 by_cases c4 : a.piece = b.piece
 by_cases c5 : a.lead = b.lead
 by_cases c6 : a.slack = b.slack
 by_cases c7 : a.count = b.count
 ·exact absurd ⟨c0, c1, c2, c3, c4, c5, c6, c7⟩ hd
 all_goals have m7 : eqSpan a.count b.count = decide (a.count = b.count) := rfl
 all_goals have n7 : eqSpan b.count b.count = true := by simp [eqSpan]
 all_goals
  clear hd
  go_enter Tryz.func49, Tryz.ntmps49
  go_wp2
  go_ret
  exact ⟨by simp, ((Below.refl _ _).alloc (Nat.le_refl _) _).alloc (by simp) _⟩
theorem refNote_diff (a b : Note) (w : World) (hd : ¬ (a.bench = b.bench ∧ a.num = b.num ∧ a.clock = b.clock ∧ a.year = b.year ∧ a.kind = b.kind ∧ a.fix = b.fix ∧ a.piece = b.piece ∧ a.pane = b.pane ∧ a.colour = b.colour ∧ a.to = b.to ∧ a.setting = b.setting ∧ a.ref = b.ref)) :
  Calls Tryz.prog 23 #[.agg (encNote a), .agg (encNote b)] w fun e w' => e = .returned (.bool false) ∧ Below w.heap.size w w' := by
 by_cases c0 : a.bench = b.bench
 by_cases c1 : a.num = b.num
 by_cases c2 : a.clock = b.clock
 by_cases c3 : a.year = b.year
 by_cases c4 : a.kind = b.kind
 by_cases c5 : a.fix = b.fix
 by_cases c6 : a.piece = b.piece
 by_cases c7 : a.pane = b.pane
 by_cases c8 : a.colour = b.colour
 by_cases c9 : a.to = b.to
 by_cases c10 : a.setting = b.setting
 by_cases c11 : a.ref = b.ref
 ·exact absurd ⟨c0, c1, c2, c3, c4, c5, c6, c7, c8, c9, c10, c11⟩ hd
 all_goals have m10 : eqSetting a.setting b.setting = decide (a.setting = b.setting) := rfl
 all_goals have n10 : eqSetting b.setting b.setting = true := by simp [eqSetting]
 all_goals have m11 : eqRef a.ref b.ref = decide (a.ref = b.ref) := rfl
 all_goals have n11 : eqRef b.ref b.ref = true := by simp [eqRef]
 all_goals
  clear hd
  go_enter Tryz.func23, Tryz.ntmps23
  go_wp2
  go_ret
  exact ⟨by simp, ((Below.refl _ _).alloc (Nat.le_refl _) _).alloc (by simp) _⟩
theorem refNote_p (i1 i2 i3 i4 i5 i6 i7 i8 i9 i10 : Int) (i11 : Setting) (i12 : Ref) (ga1 ga2 ma1 ma2 da1 da2 : Option Addr) (gc1 gc2 mc1 mc2 dc1 dc2 : Nat) (gv1 gv2 mv1 mv2 : List Int) (dv1 dv2 : List Piece) (x1 x2 : Item) (w : World)
  (HP : Hid (∀ W, Below w.heap.size w W → Calls Tryz.prog 47 #[.slice ga1 gv1.length gc1, .slice ga2 gv2.length gc2] W fun e w' => e = .returned (.bool false) ∧ Below W.heap.size W w')) :
  Calls Tryz.prog 23 #[.agg (encNote ⟨i1, i2, i3, i4, i5, i6, i7, i8, i9, i10, i11, i12, ⟨ga1, gc1, gv1⟩, ⟨ma1, mc1, mv1⟩, ⟨da1, dc1, dv1⟩, x1⟩), .agg (encNote ⟨i1, i2, i3, i4, i5, i6, i7, i8, i9, i10, i11, i12, ⟨ga2, gc2, gv2⟩, ⟨ma2, mc2, mv2⟩, ⟨da2, dc2, dv2⟩, x2⟩)] w fun e w' => e = .returned (.bool false) ∧ Below w.heap.size w w' := by
 have hse : eqSetting i11 i11 = true := by simp [eqSetting]
 have hre : eqRef i12 i12 = true := by simp [eqRef]
 have hbA : BoxAt ((w.alloc (.cells (encNote ⟨i1, i2, i3, i4, i5, i6, i7, i8, i9, i10, i11, i12, ⟨ga1, gc1, gv1⟩, ⟨ma1, mc1, mv1⟩, ⟨da1, dc1, dv1⟩, x1⟩) 43)).alloc (.cells (encNote ⟨i1, i2, i3, i4, i5, i6, i7, i8, i9, i10, i11, i12, ⟨ga2, gc2, gv2⟩, ⟨ma2, mc2, mv2⟩, ⟨da2, dc2, dv2⟩, x2⟩) 43)) w.heap.size 43 (encNote ⟨i1, i2, i3, i4, i5, i6, i7, i8, i9, i10, i11, i12, ⟨ga1, gc1, gv1⟩, ⟨ma1, mc1, mv1⟩, ⟨da1, dc1, dv1⟩, x1⟩) := (BoxAt.new _ _ _).alloc _
 have hbB : BoxAt ((w.alloc (.cells (encNote ⟨i1, i2, i3, i4, i5, i6, i7, i8, i9, i10, i11, i12, ⟨ga1, gc1, gv1⟩, ⟨ma1, mc1, mv1⟩, ⟨da1, dc1, dv1⟩, x1⟩) 43)).alloc (.cells (encNote ⟨i1, i2, i3, i4, i5, i6, i7, i8, i9, i10, i11, i12, ⟨ga2, gc2, gv2⟩, ⟨ma2, mc2, mv2⟩, ⟨da2, dc2, dv2⟩, x2⟩) 43)) (w.heap.size + 1) 43 (encNote ⟨i1, i2, i3, i4, i5, i6, i7, i8, i9, i10, i11, i12, ⟨ga2, gc2, gv2⟩, ⟨ma2, mc2, mv2⟩, ⟨da2, dc2, dv2⟩, x2⟩) := by have h := BoxAt.new (w.alloc (.cells (encNote ⟨i1, i2, i3, i4, i5, i6, i7, i8, i9, i10, i11, i12, ⟨ga1, gc1, gv1⟩, ⟨ma1, mc1, mv1⟩, ⟨da1, dc1, dv1⟩, x1⟩) 43)) 43 (encNote ⟨i1, i2, i3, i4, i5, i6, i7, i8, i9, i10, i11, i12, ⟨ga2, gc2, gv2⟩, ⟨ma2, mc2, mv2⟩, ⟨da2, dc2, dv2⟩, x2⟩); rw [World.size_alloc] at h; exact h
 have hB : Below w.heap.size w ((w.alloc (.cells (encNote ⟨i1, i2, i3, i4, i5, i6, i7, i8, i9, i10, i11, i12, ⟨ga1, gc1, gv1⟩, ⟨ma1, mc1, mv1⟩, ⟨da1, dc1, dv1⟩, x1⟩) 43)).alloc (.cells (encNote ⟨i1, i2, i3, i4, i5, i6, i7, i8, i9, i10, i11, i12, ⟨ga2, gc2, gv2⟩, ⟨ma2, mc2, mv2⟩, ⟨da2, dc2, dv2⟩, x2⟩) 43)) := ((Below.refl _ _).alloc (Nat.le_refl _) _).alloc (by simp) _
 go_enter Tryz.func23, Tryz.ntmps23
 go_wp2_with (first
  | (go_at_call 47; (with_reducible refine (HP.out _ hB).mono ?_); rintro e w3 ⟨rfl, hb3⟩; replace hbA := hbA.belowAll hb3; replace hbB := hbB.belowAll hb3; replace hB := Below.call hB hb3 (Nat.le_refl _); have hq3 : w3.cell? ⟨w.heap.size, 15, none⟩ = some (.slice ma1 mv1.length mc1) := (hbA.cell 15).trans rfl; have hr3 : w3.cell? ⟨w.heap.size + 1, 15, none⟩ = some (.slice ma2 mv2.length mc2) := (hbB.cell 15).trans rfl)
  | (go_at_call 47; (with_reducible refine (HQ.out _ hB).mono ?_); rintro e w4 ⟨rfl, hb4⟩; replace hbA := hbA.belowAll hb4; replace hbB := hbB.belowAll hb4; replace hB := Below.call hB hb4 (Nat.le_refl _); have hq4 : w4.cell? ⟨w.heap.size, 16, none⟩ = some (.slice da1 dv1.length dc1) := (hbA.cell 16).trans rfl; have hr4 : w4.cell? ⟨w.heap.size + 1, 16, none⟩ = some (.slice da2 dv2.length dc2) := (hbB.cell 16).trans rfl)
  | (go_at_call 48; (with_reducible refine (HD.out _ hB).mono ?_); rintro e w5 ⟨rfl, hb5⟩; replace hbA := hbA.belowAll hb5; replace hbB := hbB.belowAll hb5; replace hB := Below.call hB hb5 (Nat.le_refl _))
  | (go_at_call 49; (with_reducible refine (HX.out _ hB).mono ?_); rintro e w6 ⟨rfl, hb6⟩; replace hbA := hbA.belowAll hb6; replace hbB := hbB.belowAll hb6; replace hB := Below.call hB hb6 (Nat.le_refl _))
  | ((with_reducible refine at_dst 106 ?_); refine wpList_loadB hbA rfl 41 _ rfl rfl (encItem x1) (encNote_item (⟨i1, i2, i3, i4, i5, i6, i7, i8, i9, i10, i11, i12, ⟨ga1, gc1, gv1⟩, ⟨ma1, mc1, mv1⟩, ⟨da1, dc1, dv1⟩, x1⟩ : Note)) Tryz.underlying41 rfl (by kernel_rfl) ?_)
  | ((with_reducible refine at_dst 108 ?_); refine wpList_loadB hbB rfl 41 _ rfl rfl (encItem x2) (encNote_item (⟨i1, i2, i3, i4, i5, i6, i7, i8, i9, i10, i11, i12, ⟨ga2, gc2, gv2⟩, ⟨ma2, mc2, mv2⟩, ⟨da2, dc2, dv2⟩, x2⟩ : Note)) Tryz.underlying41 rfl (by kernel_rfl) ?_))
 go_ret
 exact ⟨by simp, hB⟩
theorem refNote_n (i1 i2 i3 i4 i5 i6 i7 i8 i9 i10 : Int) (i11 : Setting) (i12 : Ref) (ga1 ga2 ma1 ma2 da1 da2 : Option Addr) (gc1 gc2 mc1 mc2 dc1 dc2 : Nat) (gv1 gv2 mv1 mv2 : List Int) (dv1 dv2 : List Piece) (x1 x2 : Item) (w : World)
  (HP : Hid (∀ W, Below w.heap.size w W → Calls Tryz.prog 47 #[.slice ga1 gv1.length gc1, .slice ga2 gv2.length gc2] W fun e w' => e = .returned (.bool true) ∧ Below W.heap.size W w'))
  (HQ : Hid (∀ W, Below w.heap.size w W → Calls Tryz.prog 47 #[.slice ma1 mv1.length mc1, .slice ma2 mv2.length mc2] W fun e w' => e = .returned (.bool false) ∧ Below W.heap.size W w')) :
  Calls Tryz.prog 23 #[.agg (encNote ⟨i1, i2, i3, i4, i5, i6, i7, i8, i9, i10, i11, i12, ⟨ga1, gc1, gv1⟩, ⟨ma1, mc1, mv1⟩, ⟨da1, dc1, dv1⟩, x1⟩), .agg (encNote ⟨i1, i2, i3, i4, i5, i6, i7, i8, i9, i10, i11, i12, ⟨ga2, gc2, gv2⟩, ⟨ma2, mc2, mv2⟩, ⟨da2, dc2, dv2⟩, x2⟩)] w fun e w' => e = .returned (.bool false) ∧ Below w.heap.size w w' := by
 have hse : eqSetting i11 i11 = true := by simp [eqSetting]
 have hre : eqRef i12 i12 = true := by simp [eqRef]
 have hbA : BoxAt ((w.alloc (.cells (encNote ⟨i1, i2, i3, i4, i5, i6, i7, i8, i9, i10, i11, i12, ⟨ga1, gc1, gv1⟩, ⟨ma1, mc1, mv1⟩, ⟨da1, dc1, dv1⟩, x1⟩) 43)).alloc (.cells (encNote ⟨i1, i2, i3, i4, i5, i6, i7, i8, i9, i10, i11, i12, ⟨ga2, gc2, gv2⟩, ⟨ma2, mc2, mv2⟩, ⟨da2, dc2, dv2⟩, x2⟩) 43)) w.heap.size 43 (encNote ⟨i1, i2, i3, i4, i5, i6, i7, i8, i9, i10, i11, i12, ⟨ga1, gc1, gv1⟩, ⟨ma1, mc1, mv1⟩, ⟨da1, dc1, dv1⟩, x1⟩) := (BoxAt.new _ _ _).alloc _
 have hbB : BoxAt ((w.alloc (.cells (encNote ⟨i1, i2, i3, i4, i5, i6, i7, i8, i9, i10, i11, i12, ⟨ga1, gc1, gv1⟩, ⟨ma1, mc1, mv1⟩, ⟨da1, dc1, dv1⟩, x1⟩) 43)).alloc (.cells (encNote ⟨i1, i2, i3, i4, i5, i6, i7, i8, i9, i10, i11, i12, ⟨ga2, gc2, gv2⟩, ⟨ma2, mc2, mv2⟩, ⟨da2, dc2, dv2⟩, x2⟩) 43)) (w.heap.size + 1) 43 (encNote ⟨i1, i2, i3, i4, i5, i6, i7, i8, i9, i10, i11, i12, ⟨ga2, gc2, gv2⟩, ⟨ma2, mc2, mv2⟩, ⟨da2, dc2, dv2⟩, x2⟩) := by have h := BoxAt.new (w.alloc (.cells (encNote ⟨i1, i2, i3, i4, i5, i6, i7, i8, i9, i10, i11, i12, ⟨ga1, gc1, gv1⟩, ⟨ma1, mc1, mv1⟩, ⟨da1, dc1, dv1⟩, x1⟩) 43)) 43 (encNote ⟨i1, i2, i3, i4, i5, i6, i7, i8, i9, i10, i11, i12, ⟨ga2, gc2, gv2⟩, ⟨ma2, mc2, mv2⟩, ⟨da2, dc2, dv2⟩, x2⟩); rw [World.size_alloc] at h; exact h
 have hB : Below w.heap.size w ((w.alloc (.cells (encNote ⟨i1, i2, i3, i4, i5, i6, i7, i8, i9, i10, i11, i12, ⟨ga1, gc1, gv1⟩, ⟨ma1, mc1, mv1⟩, ⟨da1, dc1, dv1⟩, x1⟩) 43)).alloc (.cells (encNote ⟨i1, i2, i3, i4, i5, i6, i7, i8, i9, i10, i11, i12, ⟨ga2, gc2, gv2⟩, ⟨ma2, mc2, mv2⟩, ⟨da2, dc2, dv2⟩, x2⟩) 43)) := ((Below.refl _ _).alloc (Nat.le_refl _) _).alloc (by simp) _
 go_enter Tryz.func23, Tryz.ntmps23
 go_wp2_with (first
  | (go_at_call 47; (with_reducible refine (HP.out _ hB).mono ?_); rintro e w3 ⟨rfl, hb3⟩; replace hbA := hbA.belowAll hb3; replace hbB := hbB.belowAll hb3; replace hB := Below.call hB hb3 (Nat.le_refl _); have hq3 : w3.cell? ⟨w.heap.size, 15, none⟩ = some (.slice ma1 mv1.length mc1) := (hbA.cell 15).trans rfl; have hr3 : w3.cell? ⟨w.heap.size + 1, 15, none⟩ = some (.slice ma2 mv2.length mc2) := (hbB.cell 15).trans rfl)
  | (go_at_call 47; (with_reducible refine (HQ.out _ hB).mono ?_); rintro e w4 ⟨rfl, hb4⟩; replace hbA := hbA.belowAll hb4; replace hbB := hbB.belowAll hb4; replace hB := Below.call hB hb4 (Nat.le_refl _); have hq4 : w4.cell? ⟨w.heap.size, 16, none⟩ = some (.slice da1 dv1.length dc1) := (hbA.cell 16).trans rfl; have hr4 : w4.cell? ⟨w.heap.size + 1, 16, none⟩ = some (.slice da2 dv2.length dc2) := (hbB.cell 16).trans rfl)
  | (go_at_call 48; (with_reducible refine (HD.out _ hB).mono ?_); rintro e w5 ⟨rfl, hb5⟩; replace hbA := hbA.belowAll hb5; replace hbB := hbB.belowAll hb5; replace hB := Below.call hB hb5 (Nat.le_refl _))
  | (go_at_call 49; (with_reducible refine (HX.out _ hB).mono ?_); rintro e w6 ⟨rfl, hb6⟩; replace hbA := hbA.belowAll hb6; replace hbB := hbB.belowAll hb6; replace hB := Below.call hB hb6 (Nat.le_refl _))
  | ((with_reducible refine at_dst 106 ?_); refine wpList_loadB hbA rfl 41 _ rfl rfl (encItem x1) (encNote_item (⟨i1, i2, i3, i4, i5, i6, i7, i8, i9, i10, i11, i12, ⟨ga1, gc1, gv1⟩, ⟨ma1, mc1, mv1⟩, ⟨da1, dc1, dv1⟩, x1⟩ : Note)) Tryz.underlying41 rfl (by kernel_rfl) ?_)
  | ((with_reducible refine at_dst 108 ?_); refine wpList_loadB hbB rfl 41 _ rfl rfl (encItem x2) (encNote_item (⟨i1, i2, i3, i4, i5, i6, i7, i8, i9, i10, i11, i12, ⟨ga2, gc2, gv2⟩, ⟨ma2, mc2, mv2⟩, ⟨da2, dc2, dv2⟩, x2⟩ : Note)) Tryz.underlying41 rfl (by kernel_rfl) ?_))
 go_ret
 exact ⟨by simp, hB⟩
theorem refNote_q (i1 i2 i3 i4 i5 i6 i7 i8 i9 i10 : Int) (i11 : Setting) (i12 : Ref) (ga1 ga2 ma1 ma2 da1 da2 : Option Addr) (gc1 gc2 mc1 mc2 dc1 dc2 : Nat) (gv1 gv2 mv1 mv2 : List Int) (dv1 dv2 : List Piece) (x1 x2 : Item) (w : World)
  (HP : Hid (∀ W, Below w.heap.size w W → Calls Tryz.prog 47 #[.slice ga1 gv1.length gc1, .slice ga2 gv2.length gc2] W fun e w' => e = .returned (.bool true) ∧ Below W.heap.size W w'))
  (HQ : Hid (∀ W, Below w.heap.size w W → Calls Tryz.prog 47 #[.slice ma1 mv1.length mc1, .slice ma2 mv2.length mc2] W fun e w' => e = .returned (.bool true) ∧ Below W.heap.size W w'))
  (HD : Hid (∀ W, Below w.heap.size w W → Calls Tryz.prog 48 #[.slice da1 dv1.length dc1, .slice da2 dv2.length dc2] W fun e w' => e = .returned (.bool false) ∧ Below W.heap.size W w')) :
  Calls Tryz.prog 23 #[.agg (encNote ⟨i1, i2, i3, i4, i5, i6, i7, i8, i9, i10, i11, i12, ⟨ga1, gc1, gv1⟩, ⟨ma1, mc1, mv1⟩, ⟨da1, dc1, dv1⟩, x1⟩), .agg (encNote ⟨i1, i2, i3, i4, i5, i6, i7, i8, i9, i10, i11, i12, ⟨ga2, gc2, gv2⟩, ⟨ma2, mc2, mv2⟩, ⟨da2, dc2, dv2⟩, x2⟩)] w fun e w' => e = .returned (.bool false) ∧ Below w.heap.size w w' := by
 have hse : eqSetting i11 i11 = true := by simp [eqSetting]
 have hre : eqRef i12 i12 = true := by simp [eqRef]
 have hbA : BoxAt ((w.alloc (.cells (encNote ⟨i1, i2, i3, i4, i5, i6, i7, i8, i9, i10, i11, i12, ⟨ga1, gc1, gv1⟩, ⟨ma1, mc1, mv1⟩, ⟨da1, dc1, dv1⟩, x1⟩) 43)).alloc (.cells (encNote ⟨i1, i2, i3, i4, i5, i6, i7, i8, i9, i10, i11, i12, ⟨ga2, gc2, gv2⟩, ⟨ma2, mc2, mv2⟩, ⟨da2, dc2, dv2⟩, x2⟩) 43)) w.heap.size 43 (encNote ⟨i1, i2, i3, i4, i5, i6, i7, i8, i9, i10, i11, i12, ⟨ga1, gc1, gv1⟩, ⟨ma1, mc1, mv1⟩, ⟨da1, dc1, dv1⟩, x1⟩) := (BoxAt.new _ _ _).alloc _
 have hbB : BoxAt ((w.alloc (.cells (encNote ⟨i1, i2, i3, i4, i5, i6, i7, i8, i9, i10, i11, i12, ⟨ga1, gc1, gv1⟩, ⟨ma1, mc1, mv1⟩, ⟨da1, dc1, dv1⟩, x1⟩) 43)).alloc (.cells (encNote ⟨i1, i2, i3, i4, i5, i6, i7, i8, i9, i10, i11, i12, ⟨ga2, gc2, gv2⟩, ⟨ma2, mc2, mv2⟩, ⟨da2, dc2, dv2⟩, x2⟩) 43)) (w.heap.size + 1) 43 (encNote ⟨i1, i2, i3, i4, i5, i6, i7, i8, i9, i10, i11, i12, ⟨ga2, gc2, gv2⟩, ⟨ma2, mc2, mv2⟩, ⟨da2, dc2, dv2⟩, x2⟩) := by have h := BoxAt.new (w.alloc (.cells (encNote ⟨i1, i2, i3, i4, i5, i6, i7, i8, i9, i10, i11, i12, ⟨ga1, gc1, gv1⟩, ⟨ma1, mc1, mv1⟩, ⟨da1, dc1, dv1⟩, x1⟩) 43)) 43 (encNote ⟨i1, i2, i3, i4, i5, i6, i7, i8, i9, i10, i11, i12, ⟨ga2, gc2, gv2⟩, ⟨ma2, mc2, mv2⟩, ⟨da2, dc2, dv2⟩, x2⟩); rw [World.size_alloc] at h; exact h
 have hB : Below w.heap.size w ((w.alloc (.cells (encNote ⟨i1, i2, i3, i4, i5, i6, i7, i8, i9, i10, i11, i12, ⟨ga1, gc1, gv1⟩, ⟨ma1, mc1, mv1⟩, ⟨da1, dc1, dv1⟩, x1⟩) 43)).alloc (.cells (encNote ⟨i1, i2, i3, i4, i5, i6, i7, i8, i9, i10, i11, i12, ⟨ga2, gc2, gv2⟩, ⟨ma2, mc2, mv2⟩, ⟨da2, dc2, dv2⟩, x2⟩) 43)) := ((Below.refl _ _).alloc (Nat.le_refl _) _).alloc (by simp) _
 go_enter Tryz.func23, Tryz.ntmps23
 go_wp2_with (first
  | (go_at_call 47; (with_reducible refine (HP.out _ hB).mono ?_); rintro e w3 ⟨rfl, hb3⟩; replace hbA := hbA.belowAll hb3; replace hbB := hbB.belowAll hb3; replace hB := Below.call hB hb3 (Nat.le_refl _); have hq3 : w3.cell? ⟨w.heap.size, 15, none⟩ = some (.slice ma1 mv1.length mc1) := (hbA.cell 15).trans rfl; have hr3 : w3.cell? ⟨w.heap.size + 1, 15, none⟩ = some (.slice ma2 mv2.length mc2) := (hbB.cell 15).trans rfl)
  | (go_at_call 47; (with_reducible refine (HQ.out _ hB).mono ?_); rintro e w4 ⟨rfl, hb4⟩; replace hbA := hbA.belowAll hb4; replace hbB := hbB.belowAll hb4; replace hB := Below.call hB hb4 (Nat.le_refl _); have hq4 : w4.cell? ⟨w.heap.size, 16, none⟩ = some (.slice da1 dv1.length dc1) := (hbA.cell 16).trans rfl; have hr4 : w4.cell? ⟨w.heap.size + 1, 16, none⟩ = some (.slice da2 dv2.length dc2) := (hbB.cell 16).trans rfl)
  | (go_at_call 48; (with_reducible refine (HD.out _ hB).mono ?_); rintro e w5 ⟨rfl, hb5⟩; replace hbA := hbA.belowAll hb5; replace hbB := hbB.belowAll hb5; replace hB := Below.call hB hb5 (Nat.le_refl _))
  | (go_at_call 49; (with_reducible refine (HX.out _ hB).mono ?_); rintro e w6 ⟨rfl, hb6⟩; replace hbA := hbA.belowAll hb6; replace hbB := hbB.belowAll hb6; replace hB := Below.call hB hb6 (Nat.le_refl _))
  | ((with_reducible refine at_dst 106 ?_); refine wpList_loadB hbA rfl 41 _ rfl rfl (encItem x1) (encNote_item (⟨i1, i2, i3, i4, i5, i6, i7, i8, i9, i10, i11, i12, ⟨ga1, gc1, gv1⟩, ⟨ma1, mc1, mv1⟩, ⟨da1, dc1, dv1⟩, x1⟩ : Note)) Tryz.underlying41 rfl (by kernel_rfl) ?_)
  | ((with_reducible refine at_dst 108 ?_); refine wpList_loadB hbB rfl 41 _ rfl rfl (encItem x2) (encNote_item (⟨i1, i2, i3, i4, i5, i6, i7, i8, i9, i10, i11, i12, ⟨ga2, gc2, gv2⟩, ⟨ma2, mc2, mv2⟩, ⟨da2, dc2, dv2⟩, x2⟩ : Note)) Tryz.underlying41 rfl (by kernel_rfl) ?_))
 go_ret
 exact ⟨by simp, hB⟩
theorem refNote_x (i1 i2 i3 i4 i5 i6 i7 i8 i9 i10 : Int) (i11 : Setting) (i12 : Ref) (ga1 ga2 ma1 ma2 da1 da2 : Option Addr) (gc1 gc2 mc1 mc2 dc1 dc2 : Nat) (gv1 gv2 mv1 mv2 : List Int) (dv1 dv2 : List Piece) (x1 x2 : Item) (w : World) (ib : Bool)
  (HP : Hid (∀ W, Below w.heap.size w W → Calls Tryz.prog 47 #[.slice ga1 gv1.length gc1, .slice ga2 gv2.length gc2] W fun e w' => e = .returned (.bool true) ∧ Below W.heap.size W w'))
  (HQ : Hid (∀ W, Below w.heap.size w W → Calls Tryz.prog 47 #[.slice ma1 mv1.length mc1, .slice ma2 mv2.length mc2] W fun e w' => e = .returned (.bool true) ∧ Below W.heap.size W w'))
  (HD : Hid (∀ W, Below w.heap.size w W → Calls Tryz.prog 48 #[.slice da1 dv1.length dc1, .slice da2 dv2.length dc2] W fun e w' => e = .returned (.bool true) ∧ Below W.heap.size W w'))
  (HX : Hid (∀ W, Below w.heap.size w W → Calls Tryz.prog 49 #[.agg (encItem x1), .agg (encItem x2)] W fun e w' => e = .returned (.bool ib) ∧ Below W.heap.size W w')) :
  Calls Tryz.prog 23 #[.agg (encNote ⟨i1, i2, i3, i4, i5, i6, i7, i8, i9, i10, i11, i12, ⟨ga1, gc1, gv1⟩, ⟨ma1, mc1, mv1⟩, ⟨da1, dc1, dv1⟩, x1⟩), .agg (encNote ⟨i1, i2, i3, i4, i5, i6, i7, i8, i9, i10, i11, i12, ⟨ga2, gc2, gv2⟩, ⟨ma2, mc2, mv2⟩, ⟨da2, dc2, dv2⟩, x2⟩)] w fun e w' => e = .returned (.bool ib) ∧ Below w.heap.size w w' := by
 have hse : eqSetting i11 i11 = true := by simp [eqSetting]
 have hre : eqRef i12 i12 = true := by simp [eqRef]
 have hbA : BoxAt ((w.alloc (.cells (encNote ⟨i1, i2, i3, i4, i5, i6, i7, i8, i9, i10, i11, i12, ⟨ga1, gc1, gv1⟩, ⟨ma1, mc1, mv1⟩, ⟨da1, dc1, dv1⟩, x1⟩) 43)).alloc (.cells (encNote ⟨i1, i2, i3, i4, i5, i6, i7, i8, i9, i10, i11, i12, ⟨ga2, gc2, gv2⟩, ⟨ma2, mc2, mv2⟩, ⟨da2, dc2, dv2⟩, x2⟩) 43)) w.heap.size 43 (encNote ⟨i1, i2, i3, i4, i5, i6, i7, i8, i9, i10, i11, i12, ⟨ga1, gc1, gv1⟩, ⟨ma1, mc1, mv1⟩, ⟨da1, dc1, dv1⟩, x1⟩) := (BoxAt.new _ _ _).alloc _
 have hbB : BoxAt ((w.alloc (.cells (encNote ⟨i1, i2, i3, i4, i5, i6, i7, i8, i9, i10, i11, i12, ⟨ga1, gc1, gv1⟩, ⟨ma1, mc1, mv1⟩, ⟨da1, dc1, dv1⟩, x1⟩) 43)).alloc (.cells (encNote ⟨i1, i2, i3, i4, i5, i6, i7, i8, i9, i10, i11, i12, ⟨ga2, gc2, gv2⟩, ⟨ma2, mc2, mv2⟩, ⟨da2, dc2, dv2⟩, x2⟩) 43)) (w.heap.size + 1) 43 (encNote ⟨i1, i2, i3, i4, i5, i6, i7, i8, i9, i10, i11, i12, ⟨ga2, gc2, gv2⟩, ⟨ma2, mc2, mv2⟩, ⟨da2, dc2, dv2⟩, x2⟩) := by have h := BoxAt.new (w.alloc (.cells (encNote ⟨i1, i2, i3, i4, i5, i6, i7, i8, i9, i10, i11, i12, ⟨ga1, gc1, gv1⟩, ⟨ma1, mc1, mv1⟩, ⟨da1, dc1, dv1⟩, x1⟩) 43)) 43 (encNote ⟨i1, i2, i3, i4, i5, i6, i7, i8, i9, i10, i11, i12, ⟨ga2, gc2, gv2⟩, ⟨ma2, mc2, mv2⟩, ⟨da2, dc2, dv2⟩, x2⟩); rw [World.size_alloc] at h; exact h
 have hB : Below w.heap.size w ((w.alloc (.cells (encNote ⟨i1, i2, i3, i4, i5, i6, i7, i8, i9, i10, i11, i12, ⟨ga1, gc1, gv1⟩, ⟨ma1, mc1, mv1⟩, ⟨da1, dc1, dv1⟩, x1⟩) 43)).alloc (.cells (encNote ⟨i1, i2, i3, i4, i5, i6, i7, i8, i9, i10, i11, i12, ⟨ga2, gc2, gv2⟩, ⟨ma2, mc2, mv2⟩, ⟨da2, dc2, dv2⟩, x2⟩) 43)) := ((Below.refl _ _).alloc (Nat.le_refl _) _).alloc (by simp) _
 go_enter Tryz.func23, Tryz.ntmps23
 go_wp2_with (first
  | (go_at_call 47; (with_reducible refine (HP.out _ hB).mono ?_); rintro e w3 ⟨rfl, hb3⟩; replace hbA := hbA.belowAll hb3; replace hbB := hbB.belowAll hb3; replace hB := Below.call hB hb3 (Nat.le_refl _); have hq3 : w3.cell? ⟨w.heap.size, 15, none⟩ = some (.slice ma1 mv1.length mc1) := (hbA.cell 15).trans rfl; have hr3 : w3.cell? ⟨w.heap.size + 1, 15, none⟩ = some (.slice ma2 mv2.length mc2) := (hbB.cell 15).trans rfl)
  | (go_at_call 47; (with_reducible refine (HQ.out _ hB).mono ?_); rintro e w4 ⟨rfl, hb4⟩; replace hbA := hbA.belowAll hb4; replace hbB := hbB.belowAll hb4; replace hB := Below.call hB hb4 (Nat.le_refl _); have hq4 : w4.cell? ⟨w.heap.size, 16, none⟩ = some (.slice da1 dv1.length dc1) := (hbA.cell 16).trans rfl; have hr4 : w4.cell? ⟨w.heap.size + 1, 16, none⟩ = some (.slice da2 dv2.length dc2) := (hbB.cell 16).trans rfl)
  | (go_at_call 48; (with_reducible refine (HD.out _ hB).mono ?_); rintro e w5 ⟨rfl, hb5⟩; replace hbA := hbA.belowAll hb5; replace hbB := hbB.belowAll hb5; replace hB := Below.call hB hb5 (Nat.le_refl _))
  | (go_at_call 49; (with_reducible refine (HX.out _ hB).mono ?_); rintro e w6 ⟨rfl, hb6⟩; replace hbA := hbA.belowAll hb6; replace hbB := hbB.belowAll hb6; replace hB := Below.call hB hb6 (Nat.le_refl _))
  | ((with_reducible refine at_dst 106 ?_); refine wpList_loadB hbA rfl 41 _ rfl rfl (encItem x1) (encNote_item (⟨i1, i2, i3, i4, i5, i6, i7, i8, i9, i10, i11, i12, ⟨ga1, gc1, gv1⟩, ⟨ma1, mc1, mv1⟩, ⟨da1, dc1, dv1⟩, x1⟩ : Note)) Tryz.underlying41 rfl (by kernel_rfl) ?_)
  | ((with_reducible refine at_dst 108 ?_); refine wpList_loadB hbB rfl 41 _ rfl rfl (encItem x2) (encNote_item (⟨i1, i2, i3, i4, i5, i6, i7, i8, i9, i10, i11, i12, ⟨ga2, gc2, gv2⟩, ⟨ma2, mc2, mv2⟩, ⟨da2, dc2, dv2⟩, x2⟩ : Note)) Tryz.underlying41 rfl (by kernel_rfl) ?_))
 go_ret
 exact ⟨by simp, hB⟩
theorem take_step {α : Type} {s t : List α} {k : Nat} {x : α} (h : t.take k = s.take k) (hx : s[k]? = some x) (hy : t[k]? = some x) : t.take (k + 1) = s.take (k + 1) := by
 rw [List.take_add_one, List.take_add_one, h, hx, hy]
theorem take_all {α : Type} {s t : List α} {k : Nat} (h : t.take k = s.take k) (hl : t.length = s.length) (hk : k = s.length) : t = s := by
 rw [hk, List.take_length, ← hl, List.take_length] at h; exact h
theorem ne_at {α : Type} {s t : List α} {k : Nat} {x y : α} (hx : s[k]? = some x) (hy : t[k]? = some y) (hne : ¬ x = y) : ¬ t = s := by
 rintro rfl; exact hne (Option.some.inj (hx.symm.trans hy))
theorem refInts_g (D : Nat → Prop) (s t : Sl Int) (w : World) (hs : s.OK 1 encInt okInt D w) (ht : t.OK 1 encInt okInt D w) :
  Calls Tryz.prog 47 #[.slice s.a s.val.length s.cap, .slice t.a t.val.length t.cap] w fun e w' => e = .returned (.bool (decide (t.val = s.val))) ∧ Below w.heap.size w w' := by
 by_cases hlen : t.val.length = s.val.length
 rotate_left
 ·rw [decide_eq_false (fun e => hlen (by rw [e]))]
  exact refInts_len _ _ _ _ _ _ w (fun e => hlen e.symm)
 have hroom := hs.room
 have HS := Lib.hid hs
 have HT := Lib.hid ht
 clear hs ht
 obtain ⟨a, cap, val⟩ := s
 obtain ⟨a2, cap2, val2⟩ := t
 simp only at hlen hroom ⊢
 have HL := Lib.hid hlen
 have hb0 : (((val.length : Int)) != (val2.length : Int)) = false := by simp; omega
 clear hlen
 go_enter Tryz.func47, Tryz.ntmps47
 go_wp2
 go_loopw [5] (fun i wr => ∃ k : Nat, k ≤ val.length ∧ i = .int .i64 k ∧ Hid (val2.take k = val.take k) ∧ Below w.heap.size w wr) (fun i _ => val.length - (intOf i).toNat)
 case atStart => exact ⟨0, Nat.zero_le _, rfl, Lib.hid (by simp), Below.refl _ _⟩
 case round =>
  obtain ⟨k, hk, rfl, hz, hB⟩ := hrel
  by_cases hlt : k < val.length
  ·have hlt2 : k < val2.length := by have := HL.out; omega
   have hi1 : (k : Int) < (val.length : Int) := by omega
   have hi2 : (k : Int) < (val2.length : Int) := by omega
   obtain ⟨x, hx⟩ : ∃ x, val[k]? = some x := ⟨_, List.getElem?_eq_getElem hlt⟩
   obtain ⟨y, hy⟩ : ∃ y, val2[k]? = some y := ⟨_, List.getElem?_eq_getElem hlt2⟩
   obtain ⟨b, o, rfl, hb, _, _, hcell⟩ := HS.out.at hx
   obtain ⟨b2, o2, rfl, hb2, _, _, hcell2⟩ := HT.out.at hy
   have hBB := Ext.of_below (D := fun _ => False) hB
   have hc0 : wr.cell? ⟨b, o + k, none⟩ = some (vi x) := by rw [hBB.cell hb id]; exact (by simpa [encInt] using hcell 0 (show (0 : Nat) < 1 by decide))
   have hd0 : wr.cell? ⟨b2, o2 + k, none⟩ = some (vi y) := by rw [hBB.cell hb2 id]; exact (by simpa [encInt] using hcell2 0 (show (0 : Nat) < 1 by decide))
   have HX := Lib.hid hx
   have HY := Lib.hid hy
   clear hx hy hcell hcell2 hBB
   by_cases hxy : x = y
   ·subst hxy
    have hxx : (x != x) = false := by simp
    go_wp2
    go_quiet (fail)
    go_wp2
    go_roundw
    case rel => exact ⟨k + 1, by omega, by go_num, Lib.hid (take_step hz.out HX.out HY.out), ⟨hB.os, hB.tape, hB.output, hB.size, hB.block⟩⟩
    case measure => simp [intOf]; omega
   ·have hxx : (x != y) = true := by simpa using hxy
    have HN := Lib.hid (ne_at HX.out HY.out hxy)
    clear hxy
    go_wp2
    go_quiet (fail)
    go_wp2
    go_ret
    exact ⟨by simp [HN.out], ⟨hB.os, hB.tape, hB.output, hB.size, hB.block⟩⟩
  ·have HE := Lib.hid (take_all hz.out HL.out (by omega))
   go_wp2
   go_ret
   exact ⟨by simp [HE.out], hB⟩
theorem refPiece_diff (a b : Piece) (w : World) (hd : ¬ (a.id = b.id ∧ a.colour = b.colour ∧ a.reverse = b.reverse ∧ a.made = b.made ∧ a.swell = b.swell)) :
  Calls Tryz.prog 105 #[.agg (encPiece a), .agg (encPiece b)] w fun e w' => e = .returned (.bool false) ∧ Below w.heap.size w w' := by
 by_cases c0 : a.id = b.id
 by_cases c1 : a.colour = b.colour
 by_cases c2 : a.reverse = b.reverse
 by_cases c3 : a.made = b.made
 by_cases c4 : a.swell = b.swell
 ·exact absurd ⟨c0, c1, c2, c3, c4⟩ hd
 all_goals
  clear hd
  go_enter Tryz.func105, Tryz.ntmps105
  go_wp2
  go_ret
  exact ⟨by simp, ((Below.refl _ _).alloc (Nat.le_refl _) _).alloc (by simp) _⟩
theorem refPiece_lens (D : Nat → Prop) (i1 i2 i3 i4 i5 : Int) (ga1 ga2 ma1 ma2 : Option Addr) (gc1 gc2 mc1 mc2 : Nat) (gv1 gv2 : List Gauge) (mv1 mv2 : List Mark) (w : World) (hg1 : Sl.OK 5 encGauge okGauge D w ⟨ga1, gc1, gv1⟩) (hg2 : Sl.OK 5 encGauge okGauge D w ⟨ga2, gc2, gv2⟩) (hm1 : Sl.OK 3 encMark okMark D w ⟨ma1, mc1, mv1⟩) (hm2 : Sl.OK 3 encMark okMark D w ⟨ma2, mc2, mv2⟩) (hd : ¬ (gv2.length = gv1.length ∧ mv2.length = mv1.length)) :
  Calls Tryz.prog 105 #[.agg (encPiece ⟨i1, i2, i3, i4, i5, ⟨ga1, gc1, gv1⟩, ⟨ma1, mc1, mv1⟩⟩), .agg (encPiece ⟨i1, i2, i3, i4, i5, ⟨ga2, gc2, gv2⟩, ⟨ma2, mc2, mv2⟩⟩)] w fun e w' => e = .returned (.bool false) ∧ Below w.heap.size w w' := by
 have hB : Below w.heap.size w ((w.alloc (.cells (encPiece ⟨i1, i2, i3, i4, i5, ⟨ga1, gc1, gv1⟩, ⟨ma1, mc1, mv1⟩⟩) 93)).alloc (.cells (encPiece ⟨i1, i2, i3, i4, i5, ⟨ga2, gc2, gv2⟩, ⟨ma2, mc2, mv2⟩⟩) 93)) := ((Below.refl _ _).alloc (Nat.le_refl _) _).alloc (by simp) _
 clear hg1 hg2 hm1 hm2
 by_cases h1 : gv2.length = gv1.length
 ·have m1 : (((gv1.length : Int)) != (gv2.length : Int)) = false := by simp; omega
  have m2 : (((mv1.length : Int)) != (mv2.length : Int)) = true := by simp; intro e; exact hd ⟨h1, by omega⟩
  clear hd h1
  go_enter Tryz.func105, Tryz.ntmps105
  go_wp2
  go_ret
  exact ⟨by simp, hB⟩
 ·have m1 : (((gv1.length : Int)) != (gv2.length : Int)) = true := by simp; omega
  clear hd h1
  go_enter Tryz.func105, Tryz.ntmps105
  go_wp2
  go_ret
  exact ⟨by simp, hB⟩
theorem refPiece_loops (D : Nat → Prop) (i1 i2 i3 i4 i5 : Int) (ga1 ga2 ma1 ma2 : Option Addr) (gc1 gc2 mc1 mc2 : Nat) (gv1 gv2 : List Gauge) (mv1 mv2 : List Mark) (w : World) (hg1 : Sl.OK 5 encGauge okGauge D w ⟨ga1, gc1, gv1⟩) (hg2 : Sl.OK 5 encGauge okGauge D w ⟨ga2, gc2, gv2⟩) (hm1 : Sl.OK 3 encMark okMark D w ⟨ma1, mc1, mv1⟩) (hm2 : Sl.OK 3 encMark okMark D w ⟨ma2, mc2, mv2⟩) (hl1 : gv2.length = gv1.length) (hl2 : mv2.length = mv1.length) :
  Calls Tryz.prog 105 #[.agg (encPiece ⟨i1, i2, i3, i4, i5, ⟨ga1, gc1, gv1⟩, ⟨ma1, mc1, mv1⟩⟩), .agg (encPiece ⟨i1, i2, i3, i4, i5, ⟨ga2, gc2, gv2⟩, ⟨ma2, mc2, mv2⟩⟩)] w fun e w' => e = .returned (.bool (decide (gv2 = gv1 ∧ mv2 = mv1))) ∧ Below w.heap.size w w' := by
 have HG1 := Lib.hid hg1
 have HG2 := Lib.hid hg2
 have HM1 := Lib.hid hm1
 have HM2 := Lib.hid hm2
 have hr1 : gv1.length ≤ 4294967296 := hg1.room
 have hr2 : mv1.length ≤ 4294967296 := hm1.room
 clear hg1 hg2 hm1 hm2
 have HL1 := Lib.hid hl1
 have HL2 := Lib.hid hl2
 have m1 : (((gv1.length : Int)) != (gv2.length : Int)) = false := by simp; omega
 have m2 : (((mv1.length : Int)) != (mv2.length : Int)) = false := by simp; omega
 clear hl1 hl2
 have hbA : BoxAt ((w.alloc (.cells (encPiece ⟨i1, i2, i3, i4, i5, ⟨ga1, gc1, gv1⟩, ⟨ma1, mc1, mv1⟩⟩) 93)).alloc (.cells (encPiece ⟨i1, i2, i3, i4, i5, ⟨ga2, gc2, gv2⟩, ⟨ma2, mc2, mv2⟩⟩) 93)) w.heap.size 93 (encPiece ⟨i1, i2, i3, i4, i5, ⟨ga1, gc1, gv1⟩, ⟨ma1, mc1, mv1⟩⟩) := (BoxAt.new _ _ _).alloc _
 have hbB : BoxAt ((w.alloc (.cells (encPiece ⟨i1, i2, i3, i4, i5, ⟨ga1, gc1, gv1⟩, ⟨ma1, mc1, mv1⟩⟩) 93)).alloc (.cells (encPiece ⟨i1, i2, i3, i4, i5, ⟨ga2, gc2, gv2⟩, ⟨ma2, mc2, mv2⟩⟩) 93)) (w.heap.size + 1) 93 (encPiece ⟨i1, i2, i3, i4, i5, ⟨ga2, gc2, gv2⟩, ⟨ma2, mc2, mv2⟩⟩) := by have h := BoxAt.new (w.alloc (.cells (encPiece ⟨i1, i2, i3, i4, i5, ⟨ga1, gc1, gv1⟩, ⟨ma1, mc1, mv1⟩⟩) 93)) 93 (encPiece ⟨i1, i2, i3, i4, i5, ⟨ga2, gc2, gv2⟩, ⟨ma2, mc2, mv2⟩⟩); rw [World.size_alloc] at h; exact h
 have hB : Below w.heap.size w ((w.alloc (.cells (encPiece ⟨i1, i2, i3, i4, i5, ⟨ga1, gc1, gv1⟩, ⟨ma1, mc1, mv1⟩⟩) 93)).alloc (.cells (encPiece ⟨i1, i2, i3, i4, i5, ⟨ga2, gc2, gv2⟩, ⟨ma2, mc2, mv2⟩⟩) 93)) := ((Below.refl _ _).alloc (Nat.le_refl _) _).alloc (by simp) _
 go_enter Tryz.func105, Tryz.ntmps105
 go_wp2
 go_loopw [5] (fun i wr => ∃ k : Nat, k ≤ gv1.length ∧ i = .int .i64 k ∧ Hid (gv2.take k = gv1.take k) ∧ BoxAt wr w.heap.size 93 (encPiece ⟨i1, i2, i3, i4, i5, ⟨ga1, gc1, gv1⟩, ⟨ma1, mc1, mv1⟩⟩) ∧ BoxAt wr (w.heap.size + 1) 93 (encPiece ⟨i1, i2, i3, i4, i5, ⟨ga2, gc2, gv2⟩, ⟨ma2, mc2, mv2⟩⟩) ∧ Below w.heap.size w wr) (fun i _ => gv1.length - (intOf i).toNat)
 case atStart => exact ⟨0, Nat.zero_le _, rfl, Lib.hid (by simp), hbA, hbB, hB⟩
 case round =>
  clear hbA hbB hB
  obtain ⟨k, hk, rfl, hz, hbA, hbB, hB⟩ := hrel
  have hcA : wr.cell? ⟨w.heap.size, 5, none⟩ = some (.slice ga1 gv1.length gc1) := (hbA.cell 5).trans rfl
  have hcB : wr.cell? ⟨w.heap.size + 1, 5, none⟩ = some (.slice ga2 gv2.length gc2) := (hbB.cell 5).trans rfl
  by_cases hlt : k < gv1.length
  ·have hlt2 : k < gv2.length := by have := (HL1).out; omega
   obtain ⟨x, hx⟩ : ∃ x, gv1[k]? = some x := ⟨_, List.getElem?_eq_getElem hlt⟩
   obtain ⟨y, hy⟩ : ∃ y, gv2[k]? = some y := ⟨_, List.getElem?_eq_getElem hlt2⟩
   have hi1 : (k : Int) < (gv1.length : Int) := by omega
   have hi2 : (k : Int) < (gv2.length : Int) := by omega
   obtain ⟨b, o, rfl, hb, _, _, hcell⟩ := (HG1.out).at hx
   obtain ⟨b2, o2, rfl, hb2, _, _, hcell2⟩ := (HG2.out).at hy
   have HC : Hid (∀ j, j < (encGauge x).size → wr.cell? ⟨b, o + k * 5 + j, none⟩ = (encGauge x)[j]?) := Lib.hid fun j hj => by rw [hB.cell (p := ⟨b, o + k * 5 + j, none⟩) hb]; exact hcell j hj
   have HC2 : Hid (∀ j, j < (encGauge y).size → wr.cell? ⟨b2, o2 + k * 5 + j, none⟩ = (encGauge y)[j]?) := Lib.hid fun j hj => by rw [hB.cell (p := ⟨b2, o2 + k * 5 + j, none⟩) hb2]; exact hcell2 j hj
   have hl1 : b < wr.heap.size := Nat.lt_of_lt_of_le hb hB.size
   have hl2 : b2 < wr.heap.size := Nat.lt_of_lt_of_le hb2 hB.size
   have HX := Lib.hid hx
   have HY := Lib.hid hy
   clear hx hy hcell hcell2 hb hb2
   by_cases hxy : x = y
   ·have heq : eqGauge x y = true := by simp [eqGauge, hxy]
    have hz2 : Hid (gv2.take (k + 1) = gv1.take (k + 1)) := Lib.hid (take_step hz.out HX.out (by rw [hxy]; exact HY.out))
    clear hxy
    go_wp2
    refine wp_region_ord [(0, true), (1, true), (2, true), (3, true), (4, true), (5, true), (6, true), (7, true), (8, true), (9, true), (10, true)] rfl (by kernel_rfl) (by kernel_rfl) (fun d _ _ _ _ h => by cases d <;> exact h) ?_
    refine wpB_fix rfl rfl (fun W hW => by go_simp; with_reducible rfl) ?_; simp only [pTs, pTn, pTz, pTc]
    refine wpB_fix (v := .slice (some ⟨b, o, none⟩) gv1.length gc1) rfl rfl (fun W hW => by have e : W.cell? ⟨w.heap.size, 5, none⟩ = some (.slice (some ⟨b, o, none⟩) gv1.length gc1) := ((hbA.drew.belowAll hW).cell 5).trans rfl; go_simp) ?_; simp only [pTs, pTn, pTz, pTc]
    iterate 2 (refine wpB_fix rfl rfl (fun W hW => by go_simp; with_reducible rfl) ?_; simp only [pTs, pTn, pTz, pTc])
    refine wpB_fix (v := .agg (encGauge x)) rfl rfl (fun W hW => run_load_mem (encGauge x) rfl (fun j hj => (hW.cell (p := ⟨b, o + k * 5 + j, none⟩) hl1).trans (HC.out j hj)) Tryz.underlying89 rfl (by kernel_rfl)) ?_; simp only [pTs, pTn, pTz, pTc]
    refine wpB_fix rfl rfl (fun W hW => by go_simp; with_reducible rfl) ?_; simp only [pTs, pTn, pTz, pTc]
    refine wpB_fix (v := .slice (some ⟨b2, o2, none⟩) gv2.length gc2) rfl rfl (fun W hW => by have e : W.cell? ⟨w.heap.size + 1, 5, none⟩ = some (.slice (some ⟨b2, o2, none⟩) gv2.length gc2) := ((hbB.drew.belowAll hW).cell 5).trans rfl; go_simp) ?_; simp only [pTs, pTn, pTz, pTc]
    iterate 2 (refine wpB_fix rfl rfl (fun W hW => by go_simp; with_reducible rfl) ?_; simp only [pTs, pTn, pTz, pTc])
    refine wpB_fix (v := .agg (encGauge y)) rfl rfl (fun W hW => run_load_mem (encGauge y) rfl (fun j hj => (hW.cell (p := ⟨b2, o2 + k * 5 + j, none⟩) hl2).trans (HC2.out j hj)) Tryz.underlying89 rfl (by kernel_rfl)) ?_; simp only [pTs, pTn, pTz, pTc]
    refine wpB_fix rfl rfl (fun W hW => by go_simp; with_reducible rfl) ?_; simp only [pTs, pTn, pTz, pTc]
    simp only [wpB]
    go_wp2
    go_roundw
    case rel => exact ⟨k + 1, by omega, by go_num, hz2, hbA.drew, hbB.drew, hB.drew⟩
    case measure => simp [intOf]; omega
   ·have heq : eqGauge x y = false := by simp [eqGauge, hxy]
    have HN := Lib.hid (ne_at HX.out HY.out hxy)
    clear hxy
    go_wp2
    refine wp_region_ord [(0, true), (1, true), (2, true), (3, true), (4, true), (5, true), (6, true), (7, true), (8, true), (9, true), (10, true)] rfl (by kernel_rfl) (by kernel_rfl) (fun d _ _ _ _ h => by cases d <;> exact h) ?_
    refine wpB_fix rfl rfl (fun W hW => by go_simp; with_reducible rfl) ?_; simp only [pTs, pTn, pTz, pTc]
    refine wpB_fix (v := .slice (some ⟨b, o, none⟩) gv1.length gc1) rfl rfl (fun W hW => by have e : W.cell? ⟨w.heap.size, 5, none⟩ = some (.slice (some ⟨b, o, none⟩) gv1.length gc1) := ((hbA.drew.belowAll hW).cell 5).trans rfl; go_simp) ?_; simp only [pTs, pTn, pTz, pTc]
    iterate 2 (refine wpB_fix rfl rfl (fun W hW => by go_simp; with_reducible rfl) ?_; simp only [pTs, pTn, pTz, pTc])
    refine wpB_fix (v := .agg (encGauge x)) rfl rfl (fun W hW => run_load_mem (encGauge x) rfl (fun j hj => (hW.cell (p := ⟨b, o + k * 5 + j, none⟩) hl1).trans (HC.out j hj)) Tryz.underlying89 rfl (by kernel_rfl)) ?_; simp only [pTs, pTn, pTz, pTc]
    refine wpB_fix rfl rfl (fun W hW => by go_simp; with_reducible rfl) ?_; simp only [pTs, pTn, pTz, pTc]
    refine wpB_fix (v := .slice (some ⟨b2, o2, none⟩) gv2.length gc2) rfl rfl (fun W hW => by have e : W.cell? ⟨w.heap.size + 1, 5, none⟩ = some (.slice (some ⟨b2, o2, none⟩) gv2.length gc2) := ((hbB.drew.belowAll hW).cell 5).trans rfl; go_simp) ?_; simp only [pTs, pTn, pTz, pTc]
    iterate 2 (refine wpB_fix rfl rfl (fun W hW => by go_simp; with_reducible rfl) ?_; simp only [pTs, pTn, pTz, pTc])
    refine wpB_fix (v := .agg (encGauge y)) rfl rfl (fun W hW => run_load_mem (encGauge y) rfl (fun j hj => (hW.cell (p := ⟨b2, o2 + k * 5 + j, none⟩) hl2).trans (HC2.out j hj)) Tryz.underlying89 rfl (by kernel_rfl)) ?_; simp only [pTs, pTn, pTz, pTc]
    refine wpB_fix rfl rfl (fun W hW => by go_simp; with_reducible rfl) ?_; simp only [pTs, pTn, pTz, pTc]
    simp only [wpB]
    go_wp2
    go_ret
    exact ⟨by simp [HN.out], hB.drew⟩
  ·go_wp2
   have HE1 := Lib.hid (take_all hz.out HL1.out (by omega))
   go_loopw [6] (fun i wr => ∃ k : Nat, k ≤ mv1.length ∧ i = .int .i64 k ∧ Hid (mv2.take k = mv1.take k) ∧ BoxAt wr w.heap.size 93 (encPiece ⟨i1, i2, i3, i4, i5, ⟨ga1, gc1, gv1⟩, ⟨ma1, mc1, mv1⟩⟩) ∧ BoxAt wr (w.heap.size + 1) 93 (encPiece ⟨i1, i2, i3, i4, i5, ⟨ga2, gc2, gv2⟩, ⟨ma2, mc2, mv2⟩⟩) ∧ Below w.heap.size w wr) (fun i _ => mv1.length - (intOf i).toNat)
   case atStart => exact ⟨0, Nat.zero_le _, rfl, Lib.hid (by simp), hbA, hbB, hB⟩
   case round =>
    clear hbA hbB hB
    obtain ⟨k, hk, rfl, hz, hbA, hbB, hB⟩ := hrel
    have hcA : wr.cell? ⟨w.heap.size, 6, none⟩ = some (.slice ma1 mv1.length mc1) := (hbA.cell 6).trans rfl
    have hcB : wr.cell? ⟨w.heap.size + 1, 6, none⟩ = some (.slice ma2 mv2.length mc2) := (hbB.cell 6).trans rfl
    by_cases hlt : k < mv1.length
    ·have hlt2 : k < mv2.length := by have := (HL2).out; omega
     obtain ⟨x, hx⟩ : ∃ x, mv1[k]? = some x := ⟨_, List.getElem?_eq_getElem hlt⟩
     obtain ⟨y, hy⟩ : ∃ y, mv2[k]? = some y := ⟨_, List.getElem?_eq_getElem hlt2⟩
     have hi1 : (k : Int) < (mv1.length : Int) := by omega
     have hi2 : (k : Int) < (mv2.length : Int) := by omega
     obtain ⟨b, o, rfl, hb, _, _, hcell⟩ := (HM1.out).at hx
     obtain ⟨b2, o2, rfl, hb2, _, _, hcell2⟩ := (HM2.out).at hy
     have HC : Hid (∀ j, j < (encMark x).size → wr.cell? ⟨b, o + k * 3 + j, none⟩ = (encMark x)[j]?) := Lib.hid fun j hj => by rw [hB.cell (p := ⟨b, o + k * 3 + j, none⟩) hb]; exact hcell j hj
     have HC2 : Hid (∀ j, j < (encMark y).size → wr.cell? ⟨b2, o2 + k * 3 + j, none⟩ = (encMark y)[j]?) := Lib.hid fun j hj => by rw [hB.cell (p := ⟨b2, o2 + k * 3 + j, none⟩) hb2]; exact hcell2 j hj
     have hl1 : b < wr.heap.size := Nat.lt_of_lt_of_le hb hB.size
     have hl2 : b2 < wr.heap.size := Nat.lt_of_lt_of_le hb2 hB.size
     have HX := Lib.hid hx
     have HY := Lib.hid hy
     clear hx hy hcell hcell2 hb hb2
     by_cases hxy : x = y
     ·have heq : eqMark x y = true := by simp [eqMark, hxy]
      have hz2 : Hid (mv2.take (k + 1) = mv1.take (k + 1)) := Lib.hid (take_step hz.out HX.out (by rw [hxy]; exact HY.out))
      clear hxy
      go_wp2
      refine wp_region_ord [(0, true), (1, true), (2, true), (3, true), (4, true), (5, true), (6, true), (7, true), (8, true), (9, true), (10, true)] rfl (by kernel_rfl) (by kernel_rfl) (fun d _ _ _ _ h => by cases d <;> exact h) ?_
      refine wpB_fix rfl rfl (fun W hW => by go_simp; with_reducible rfl) ?_; simp only [pTs, pTn, pTz, pTc]
      refine wpB_fix (v := .slice (some ⟨b, o, none⟩) mv1.length mc1) rfl rfl (fun W hW => by have e : W.cell? ⟨w.heap.size, 6, none⟩ = some (.slice (some ⟨b, o, none⟩) mv1.length mc1) := ((hbA.drew.belowAll hW).cell 6).trans rfl; go_simp) ?_; simp only [pTs, pTn, pTz, pTc]
      iterate 2 (refine wpB_fix rfl rfl (fun W hW => by go_simp; with_reducible rfl) ?_; simp only [pTs, pTn, pTz, pTc])
      refine wpB_fix (v := .agg (encMark x)) rfl rfl (fun W hW => run_load_mem (encMark x) rfl (fun j hj => (hW.cell (p := ⟨b, o + k * 3 + j, none⟩) hl1).trans (HC.out j hj)) Tryz.underlying174 rfl (by kernel_rfl)) ?_; simp only [pTs, pTn, pTz, pTc]
      refine wpB_fix rfl rfl (fun W hW => by go_simp; with_reducible rfl) ?_; simp only [pTs, pTn, pTz, pTc]
      refine wpB_fix (v := .slice (some ⟨b2, o2, none⟩) mv2.length mc2) rfl rfl (fun W hW => by have e : W.cell? ⟨w.heap.size + 1, 6, none⟩ = some (.slice (some ⟨b2, o2, none⟩) mv2.length mc2) := ((hbB.drew.belowAll hW).cell 6).trans rfl; go_simp) ?_; simp only [pTs, pTn, pTz, pTc]
      iterate 2 (refine wpB_fix rfl rfl (fun W hW => by go_simp; with_reducible rfl) ?_; simp only [pTs, pTn, pTz, pTc])
      refine wpB_fix (v := .agg (encMark y)) rfl rfl (fun W hW => run_load_mem (encMark y) rfl (fun j hj => (hW.cell (p := ⟨b2, o2 + k * 3 + j, none⟩) hl2).trans (HC2.out j hj)) Tryz.underlying174 rfl (by kernel_rfl)) ?_; simp only [pTs, pTn, pTz, pTc]
      refine wpB_fix rfl rfl (fun W hW => by go_simp; with_reducible rfl) ?_; simp only [pTs, pTn, pTz, pTc]
      simp only [wpB]
      go_wp2
      go_roundw
      case rel => exact ⟨k + 1, by omega, by go_num, hz2, hbA.drew, hbB.drew, hB.drew⟩
      case measure => simp [intOf]; omega
     ·have heq : eqMark x y = false := by simp [eqMark, hxy]
      have HN := Lib.hid (ne_at HX.out HY.out hxy)
      clear hxy
      go_wp2
      refine wp_region_ord [(0, true), (1, true), (2, true), (3, true), (4, true), (5, true), (6, true), (7, true), (8, true), (9, true), (10, true)] rfl (by kernel_rfl) (by kernel_rfl) (fun d _ _ _ _ h => by cases d <;> exact h) ?_
      refine wpB_fix rfl rfl (fun W hW => by go_simp; with_reducible rfl) ?_; simp only [pTs, pTn, pTz, pTc]
      refine wpB_fix (v := .slice (some ⟨b, o, none⟩) mv1.length mc1) rfl rfl (fun W hW => by have e : W.cell? ⟨w.heap.size, 6, none⟩ = some (.slice (some ⟨b, o, none⟩) mv1.length mc1) := ((hbA.drew.belowAll hW).cell 6).trans rfl; go_simp) ?_; simp only [pTs, pTn, pTz, pTc]
      iterate 2 (refine wpB_fix rfl rfl (fun W hW => by go_simp; with_reducible rfl) ?_; simp only [pTs, pTn, pTz, pTc])
      refine wpB_fix (v := .agg (encMark x)) rfl rfl (fun W hW => run_load_mem (encMark x) rfl (fun j hj => (hW.cell (p := ⟨b, o + k * 3 + j, none⟩) hl1).trans (HC.out j hj)) Tryz.underlying174 rfl (by kernel_rfl)) ?_; simp only [pTs, pTn, pTz, pTc]
      refine wpB_fix rfl rfl (fun W hW => by go_simp; with_reducible rfl) ?_; simp only [pTs, pTn, pTz, pTc]
      refine wpB_fix (v := .slice (some ⟨b2, o2, none⟩) mv2.length mc2) rfl rfl (fun W hW => by have e : W.cell? ⟨w.heap.size + 1, 6, none⟩ = some (.slice (some ⟨b2, o2, none⟩) mv2.length mc2) := ((hbB.drew.belowAll hW).cell 6).trans rfl; go_simp) ?_; simp only [pTs, pTn, pTz, pTc]
      iterate 2 (refine wpB_fix rfl rfl (fun W hW => by go_simp; with_reducible rfl) ?_; simp only [pTs, pTn, pTz, pTc])
      refine wpB_fix (v := .agg (encMark y)) rfl rfl (fun W hW => run_load_mem (encMark y) rfl (fun j hj => (hW.cell (p := ⟨b2, o2 + k * 3 + j, none⟩) hl2).trans (HC2.out j hj)) Tryz.underlying174 rfl (by kernel_rfl)) ?_; simp only [pTs, pTn, pTz, pTc]
      refine wpB_fix rfl rfl (fun W hW => by go_simp; with_reducible rfl) ?_; simp only [pTs, pTn, pTz, pTc]
      simp only [wpB]
      go_wp2
      go_ret
      exact ⟨by simp [HN.out], hB.drew⟩
    ·go_wp2
     have HE2 := Lib.hid (take_all hz.out HL2.out (by omega))
     go_ret
     exact ⟨by simp [HE1.out, HE2.out], hB⟩
theorem refPiece_g (D : Nat → Prop) (a b : Piece) (w : World) (ha : okPiece D w a) (hb : okPiece D w b) :
  Calls Tryz.prog 105 #[.agg (encPiece a), .agg (encPiece b)] w fun e w' => e = .returned (.bool (decide (b.abs = a.abs))) ∧ Below w.heap.size w w' := by
 by_cases hs : a.id = b.id ∧ a.colour = b.colour ∧ a.reverse = b.reverse ∧ a.made = b.made ∧ a.swell = b.swell
 rotate_left
 ·rw [decide_eq_false (fun e => hs ⟨(show b.abs.id = a.abs.id from by rw [e]).symm, (show b.abs.colour = a.abs.colour from by rw [e]).symm, (show b.abs.reverse = a.abs.reverse from by rw [e]).symm, (show b.abs.made = a.abs.made from by rw [e]).symm, (show b.abs.swell = a.abs.swell from by rw [e]).symm⟩)]
  exact refPiece_diff a b w hs
 obtain ⟨c0, c1, c2, c3, c4⟩ := hs
 have HEQ : decide (b.abs = a.abs) = decide (b.gauges.val = a.gauges.val ∧ b.marks.val = a.marks.val) := by
  rw [Bool.eq_iff_iff]; simp [Piece.abs, c0, c1, c2, c3, c4]
 rw [HEQ]
 obtain ⟨_, _, _, _, _, g1, m1⟩ := ha
 obtain ⟨_, _, _, _, _, g2, m2⟩ := hb
 clear HEQ
 obtain ⟨i1, i2, i3, i4, i5, ⟨ga1, gc1, gv1⟩, ⟨ma1, mc1, mv1⟩⟩ := a
 obtain ⟨j1, j2, j3, j4, j5, ⟨ga2, gc2, gv2⟩, ⟨ma2, mc2, mv2⟩⟩ := b
 simp only at c0 c1 c2 c3 c4 ⊢
 subst c0 c1 c2 c3 c4
 by_cases hl : gv2.length = gv1.length ∧ mv2.length = mv1.length
 ·exact refPiece_loops D _ _ _ _ _ _ _ _ _ _ _ _ _ _ _ _ _ w g1 g2 m1 m2 hl.1 hl.2
 ·rw [decide_eq_false (fun e => hl ⟨by rw [e.1], by rw [e.2]⟩)]
  exact refPiece_lens D _ _ _ _ _ _ _ _ _ _ _ _ _ _ _ _ _ w g1 g2 m1 m2 hl
theorem refPieces_g (D : Nat → Prop) (s t : Sl Piece) (w : World) (hs : s.OK 7 encPiece okPiece D w) (ht : t.OK 7 encPiece okPiece D w) :
  Calls Tryz.prog 48 #[.slice s.a s.val.length s.cap, .slice t.a t.val.length t.cap] w fun e w' => e = .returned (.bool (decide (t.val.map Piece.abs = s.val.map Piece.abs))) ∧ Below w.heap.size w w' := by
 by_cases hlen : t.val.length = s.val.length
 rotate_left
 ·rw [decide_eq_false (fun e => hlen (by have := congrArg List.length e; simpa using this))]
  exact refPieces_len _ _ _ _ _ _ w (fun e => hlen e.symm)
 have hroom := hs.room
 have HS := Lib.hid hs
 have HT := Lib.hid ht
 clear hs ht
 obtain ⟨a, cap, val⟩ := s
 obtain ⟨a2, cap2, val2⟩ := t
 simp only at hlen hroom ⊢
 have HL := Lib.hid hlen
 have hne : (((val.length : Int)) != (val2.length : Int)) = false := by simp; omega
 clear hlen
 go_enter Tryz.func48, Tryz.ntmps48
 go_wp2
 go_loopw [5] (fun i wr => ∃ k : Nat, k ≤ val.length ∧ i = .int .i64 k ∧ Hid ((val2.map Piece.abs).take k = (val.map Piece.abs).take k) ∧ Below w.heap.size w wr) (fun i _ => val.length - (intOf i).toNat)
 case atStart => exact ⟨0, Nat.zero_le _, rfl, Lib.hid (by simp), Below.refl _ _⟩
 case round =>
  obtain ⟨k, hk, rfl, hz, hB⟩ := hrel
  by_cases hlt : k < val.length
  ·have hlt2 : k < val2.length := by have := HL.out; omega
   obtain ⟨x, hx⟩ : ∃ x, val[k]? = some x := ⟨_, List.getElem?_eq_getElem hlt⟩
   obtain ⟨y, hy⟩ : ∃ y, val2[k]? = some y := ⟨_, List.getElem?_eq_getElem hlt2⟩
   have HX : Hid ((val.map Piece.abs)[k]? = some x.abs) := Lib.hid (by rw [List.getElem?_map, hx]; rfl)
   have HY : Hid ((val2.map Piece.abs)[k]? = some y.abs) := Lib.hid (by rw [List.getElem?_map, hy]; rfl)
   have hi1 : (k : Int) < (val.length : Int) := by omega
   have hi2 : (k : Int) < (val2.length : Int) := by omega
   obtain ⟨b, o, rfl, hb, _, hokx, hcell⟩ := HS.out.at hx
   obtain ⟨b2, o2, rfl, hb2, _, hoky, hcell2⟩ := HT.out.at hy
   have HC : Hid (∀ j, j < (encPiece x).size → wr.cell? ⟨b, o + k * 7 + j, none⟩ = (encPiece x)[j]?) := Lib.hid fun j hj => by rw [hB.cell (p := ⟨b, o + k * 7 + j, none⟩) hb]; exact hcell j hj
   have HC2 : Hid (∀ j, j < (encPiece y).size → wr.cell? ⟨b2, o2 + k * 7 + j, none⟩ = (encPiece y)[j]?) := Lib.hid fun j hj => by rw [hB.cell (p := ⟨b2, o2 + k * 7 + j, none⟩) hb2]; exact hcell2 j hj
   have HCL : Hid (∀ W, Below wr.heap.size wr W → Calls Tryz.prog 105 #[.agg (encPiece x), .agg (encPiece y)] W fun e w' => e = .returned (.bool (decide (y.abs = x.abs))) ∧ Below W.heap.size W w') := Lib.hid fun W hW =>
    refPiece_g D x y W (okPiece.ext hokx ((Ext.of_below hB).trans (Ext.of_below hW))) (okPiece.ext hoky ((Ext.of_below hB).trans (Ext.of_below hW)))
   have hl1 : b < wr.heap.size := Nat.lt_of_lt_of_le hb hB.size
   have hl2 : b2 < wr.heap.size := Nat.lt_of_lt_of_le hb2 hB.size
   clear hx hy hcell hcell2 hb hb2 hokx hoky
   by_cases hxy : y.abs = x.abs
   ·rw [decide_eq_true hxy] at HCL
    have hz2 : Hid ((val2.map Piece.abs).take (k + 1) = (val.map Piece.abs).take (k + 1)) := Lib.hid (take_step hz.out HX.out (by rw [← hxy]; exact HY.out))
    clear hxy
    go_wp2
    refine wp_region_ord [(0, true), (1, true), (2, true), (3, true), (4, true), (5, true), (6, true), (7, true), (8, false), (9, true)] rfl (by kernel_rfl) (by kernel_rfl) (fun d _ _ _ _ h => by cases d <;> exact h) ?_
    iterate 3 (refine wpB_fix rfl rfl (fun W hW => by go_simp; with_reducible rfl) ?_; simp only [pTs, pTn, pTz, pTc])
    refine wpB_fix (v := .agg (encPiece x)) rfl rfl (fun W hW => run_load_mem (encPiece x) rfl (fun j hj => (hW.cell (p := ⟨b, o + k * 7 + j, none⟩) hl1).trans (HC.out j hj)) Tryz.underlying93 rfl (by kernel_rfl)) ?_; simp only [pTs, pTn, pTz, pTc]
    iterate 3 (refine wpB_fix rfl rfl (fun W hW => by go_simp; with_reducible rfl) ?_; simp only [pTs, pTn, pTz, pTc])
    refine wpB_fix (v := .agg (encPiece y)) rfl rfl (fun W hW => run_load_mem (encPiece y) rfl (fun j hj => (hW.cell (p := ⟨b2, o2 + k * 7 + j, none⟩) hl2).trans (HC2.out j hj)) Tryz.underlying93 rfl (by kernel_rfl)) ?_; simp only [pTs, pTn, pTz, pTc]
    refine wpB_act rfl rfl (fun K hK => ?_)
    go_simp
    refine (HCL.out _ ((Below.refl _ _).drew)).mono ?_
    rintro e w1 ⟨rfl, hb1⟩
    have hB1 : Below w.heap.size w w1 := Below.call hB.drew hb1 (Nat.le_refl _)
    refine hK _ _ hb1 ?_
    clear hK K
    try simp only [pTs, pTn, pTz, pTc]
    refine wpB_fix rfl rfl (fun W hW => by go_simp; with_reducible rfl) ?_; simp only [pTs, pTn, pTz, pTc]
    simp only [wpB]
    go_wp2
    go_roundw
    case rel => exact ⟨k + 1, by omega, by go_num, hz2, hB1⟩
    case measure => simp [intOf]; omega
   ·rw [decide_eq_false hxy] at HCL
    have HN := Lib.hid (ne_at HX.out HY.out (fun e => hxy e.symm))
    clear hxy
    go_wp2
    refine wp_region_ord [(0, true), (1, true), (2, true), (3, true), (4, true), (5, true), (6, true), (7, true), (8, false), (9, true)] rfl (by kernel_rfl) (by kernel_rfl) (fun d _ _ _ _ h => by cases d <;> exact h) ?_
    iterate 3 (refine wpB_fix rfl rfl (fun W hW => by go_simp; with_reducible rfl) ?_; simp only [pTs, pTn, pTz, pTc])
    refine wpB_fix (v := .agg (encPiece x)) rfl rfl (fun W hW => run_load_mem (encPiece x) rfl (fun j hj => (hW.cell (p := ⟨b, o + k * 7 + j, none⟩) hl1).trans (HC.out j hj)) Tryz.underlying93 rfl (by kernel_rfl)) ?_; simp only [pTs, pTn, pTz, pTc]
    iterate 3 (refine wpB_fix rfl rfl (fun W hW => by go_simp; with_reducible rfl) ?_; simp only [pTs, pTn, pTz, pTc])
    refine wpB_fix (v := .agg (encPiece y)) rfl rfl (fun W hW => run_load_mem (encPiece y) rfl (fun j hj => (hW.cell (p := ⟨b2, o2 + k * 7 + j, none⟩) hl2).trans (HC2.out j hj)) Tryz.underlying93 rfl (by kernel_rfl)) ?_; simp only [pTs, pTn, pTz, pTc]
    refine wpB_act rfl rfl (fun K hK => ?_)
    go_simp
    refine (HCL.out _ ((Below.refl _ _).drew)).mono ?_
    rintro e w1 ⟨rfl, hb1⟩
    have hB1 : Below w.heap.size w w1 := Below.call hB.drew hb1 (Nat.le_refl _)
    refine hK _ _ hb1 ?_
    clear hK K
    try simp only [pTs, pTn, pTz, pTc]
    refine wpB_fix rfl rfl (fun W hW => by go_simp; with_reducible rfl) ?_; simp only [pTs, pTn, pTz, pTc]
    simp only [wpB]
    go_wp2
    go_ret
    exact ⟨by simp [HN.out], hB1⟩
  ·have HE := Lib.hid (take_all hz.out (by simpa using HL.out) (by simp; omega))
   go_wp2
   go_ret
   exact ⟨by simp [HE.out], hB⟩
theorem refItem_gp (i1 i2 i3 i4 i5 i6 i7 : Int) (i8 : Span) (ga1 ga2 ma1 ma2 ha1 ha2 : Option Addr) (gc1 gc2 mc1 mc2 hc1 hc2 : Nat) (gv1 gv2 mv1 mv2 : List Int) (hv1 hv2 : List Sight) (w : World)
  (HP : Hid (∀ W, Below w.heap.size w W → Calls Tryz.prog 47 #[.slice ga1 gv1.length gc1, .slice ga2 gv2.length gc2] W fun e w' => e = .returned (.bool false) ∧ Below W.heap.size W w'))
  (nb : Bool)
  (HQ : Hid (∀ W, Below w.heap.size w W → Calls Tryz.prog 47 #[.slice ma1 mv1.length mc1, .slice ma2 mv2.length mc2] W fun e w' => e = .returned (.bool nb) ∧ Below W.heap.size W w')) :
  Calls Tryz.prog 49 #[.agg (encItem ⟨i1, i2, i3, i4, i5, i6, i7, ⟨ga1, gc1, gv1⟩, ⟨ma1, mc1, mv1⟩, i8, ⟨ha1, hc1, hv1⟩⟩), .agg (encItem ⟨i1, i2, i3, i4, i5, i6, i7, ⟨ga2, gc2, gv2⟩, ⟨ma2, mc2, mv2⟩, i8, ⟨ha2, hc2, hv2⟩⟩)] w fun e w' => e = .returned (.bool false) ∧ Below w.heap.size w w' := by
 have hsp : eqSpan i8 i8 = true := by simp [eqSpan]
 have hbA : BoxAt ((w.alloc (.cells (encItem ⟨i1, i2, i3, i4, i5, i6, i7, ⟨ga1, gc1, gv1⟩, ⟨ma1, mc1, mv1⟩, i8, ⟨ha1, hc1, hv1⟩⟩) 41)).alloc (.cells (encItem ⟨i1, i2, i3, i4, i5, i6, i7, ⟨ga2, gc2, gv2⟩, ⟨ma2, mc2, mv2⟩, i8, ⟨ha2, hc2, hv2⟩⟩) 41)) w.heap.size 41 (encItem ⟨i1, i2, i3, i4, i5, i6, i7, ⟨ga1, gc1, gv1⟩, ⟨ma1, mc1, mv1⟩, i8, ⟨ha1, hc1, hv1⟩⟩) := (BoxAt.new _ _ _).alloc _
 have hbB : BoxAt ((w.alloc (.cells (encItem ⟨i1, i2, i3, i4, i5, i6, i7, ⟨ga1, gc1, gv1⟩, ⟨ma1, mc1, mv1⟩, i8, ⟨ha1, hc1, hv1⟩⟩) 41)).alloc (.cells (encItem ⟨i1, i2, i3, i4, i5, i6, i7, ⟨ga2, gc2, gv2⟩, ⟨ma2, mc2, mv2⟩, i8, ⟨ha2, hc2, hv2⟩⟩) 41)) (w.heap.size + 1) 41 (encItem ⟨i1, i2, i3, i4, i5, i6, i7, ⟨ga2, gc2, gv2⟩, ⟨ma2, mc2, mv2⟩, i8, ⟨ha2, hc2, hv2⟩⟩) := by have h := BoxAt.new (w.alloc (.cells (encItem ⟨i1, i2, i3, i4, i5, i6, i7, ⟨ga1, gc1, gv1⟩, ⟨ma1, mc1, mv1⟩, i8, ⟨ha1, hc1, hv1⟩⟩) 41)) 41 (encItem ⟨i1, i2, i3, i4, i5, i6, i7, ⟨ga2, gc2, gv2⟩, ⟨ma2, mc2, mv2⟩, i8, ⟨ha2, hc2, hv2⟩⟩); rw [World.size_alloc] at h; exact h
 have hB : Below w.heap.size w ((w.alloc (.cells (encItem ⟨i1, i2, i3, i4, i5, i6, i7, ⟨ga1, gc1, gv1⟩, ⟨ma1, mc1, mv1⟩, i8, ⟨ha1, hc1, hv1⟩⟩) 41)).alloc (.cells (encItem ⟨i1, i2, i3, i4, i5, i6, i7, ⟨ga2, gc2, gv2⟩, ⟨ma2, mc2, mv2⟩, i8, ⟨ha2, hc2, hv2⟩⟩) 41)) := ((Below.refl _ _).alloc (Nat.le_refl _) _).alloc (by simp) _
 go_enter Tryz.func49, Tryz.ntmps49
 go_wp2_with (first
  | (go_at_call 47; (with_reducible refine (HP.out _ hB).mono ?_); rintro e w3 ⟨rfl, hb3⟩; replace hbA := hbA.belowAll hb3; replace hbB := hbB.belowAll hb3; replace hB := Below.call hB hb3 (Nat.le_refl _); have hq1 : w3.cell? ⟨w.heap.size, 8, none⟩ = some (.slice ma1 mv1.length mc1) := (hbA.cell 8).trans rfl; have hq2 : w3.cell? ⟨w.heap.size + 1, 8, none⟩ = some (.slice ma2 mv2.length mc2) := (hbB.cell 8).trans rfl)
  | (go_at_call 47; (with_reducible refine (HQ.out _ hB).mono ?_); rintro e w4 ⟨rfl, hb4⟩; replace hbA := hbA.belowAll hb4; replace hbB := hbB.belowAll hb4; replace hB := Below.call hB hb4 (Nat.le_refl _); have hq3 : w4.cell? ⟨w.heap.size, 11, none⟩ = some (.slice ha1 hv1.length hc1) := (hbA.cell 11).trans rfl; have hq4 : w4.cell? ⟨w.heap.size + 1, 11, none⟩ = some (.slice ha2 hv2.length hc2) := (hbB.cell 11).trans rfl))
 go_ret
 exact ⟨by simp, hB⟩
theorem refItem_gn (i1 i2 i3 i4 i5 i6 i7 : Int) (i8 : Span) (ga1 ga2 ma1 ma2 ha1 ha2 : Option Addr) (gc1 gc2 mc1 mc2 hc1 hc2 : Nat) (gv1 gv2 mv1 mv2 : List Int) (hv1 hv2 : List Sight) (w : World)
  (HP : Hid (∀ W, Below w.heap.size w W → Calls Tryz.prog 47 #[.slice ga1 gv1.length gc1, .slice ga2 gv2.length gc2] W fun e w' => e = .returned (.bool true) ∧ Below W.heap.size W w'))
  (HQ : Hid (∀ W, Below w.heap.size w W → Calls Tryz.prog 47 #[.slice ma1 mv1.length mc1, .slice ma2 mv2.length mc2] W fun e w' => e = .returned (.bool false) ∧ Below W.heap.size W w'))  :
  Calls Tryz.prog 49 #[.agg (encItem ⟨i1, i2, i3, i4, i5, i6, i7, ⟨ga1, gc1, gv1⟩, ⟨ma1, mc1, mv1⟩, i8, ⟨ha1, hc1, hv1⟩⟩), .agg (encItem ⟨i1, i2, i3, i4, i5, i6, i7, ⟨ga2, gc2, gv2⟩, ⟨ma2, mc2, mv2⟩, i8, ⟨ha2, hc2, hv2⟩⟩)] w fun e w' => e = .returned (.bool false) ∧ Below w.heap.size w w' := by
 have hsp : eqSpan i8 i8 = true := by simp [eqSpan]
 have hbA : BoxAt ((w.alloc (.cells (encItem ⟨i1, i2, i3, i4, i5, i6, i7, ⟨ga1, gc1, gv1⟩, ⟨ma1, mc1, mv1⟩, i8, ⟨ha1, hc1, hv1⟩⟩) 41)).alloc (.cells (encItem ⟨i1, i2, i3, i4, i5, i6, i7, ⟨ga2, gc2, gv2⟩, ⟨ma2, mc2, mv2⟩, i8, ⟨ha2, hc2, hv2⟩⟩) 41)) w.heap.size 41 (encItem ⟨i1, i2, i3, i4, i5, i6, i7, ⟨ga1, gc1, gv1⟩, ⟨ma1, mc1, mv1⟩, i8, ⟨ha1, hc1, hv1⟩⟩) := (BoxAt.new _ _ _).alloc _
 have hbB : BoxAt ((w.alloc (.cells (encItem ⟨i1, i2, i3, i4, i5, i6, i7, ⟨ga1, gc1, gv1⟩, ⟨ma1, mc1, mv1⟩, i8, ⟨ha1, hc1, hv1⟩⟩) 41)).alloc (.cells (encItem ⟨i1, i2, i3, i4, i5, i6, i7, ⟨ga2, gc2, gv2⟩, ⟨ma2, mc2, mv2⟩, i8, ⟨ha2, hc2, hv2⟩⟩) 41)) (w.heap.size + 1) 41 (encItem ⟨i1, i2, i3, i4, i5, i6, i7, ⟨ga2, gc2, gv2⟩, ⟨ma2, mc2, mv2⟩, i8, ⟨ha2, hc2, hv2⟩⟩) := by have h := BoxAt.new (w.alloc (.cells (encItem ⟨i1, i2, i3, i4, i5, i6, i7, ⟨ga1, gc1, gv1⟩, ⟨ma1, mc1, mv1⟩, i8, ⟨ha1, hc1, hv1⟩⟩) 41)) 41 (encItem ⟨i1, i2, i3, i4, i5, i6, i7, ⟨ga2, gc2, gv2⟩, ⟨ma2, mc2, mv2⟩, i8, ⟨ha2, hc2, hv2⟩⟩); rw [World.size_alloc] at h; exact h
 have hB : Below w.heap.size w ((w.alloc (.cells (encItem ⟨i1, i2, i3, i4, i5, i6, i7, ⟨ga1, gc1, gv1⟩, ⟨ma1, mc1, mv1⟩, i8, ⟨ha1, hc1, hv1⟩⟩) 41)).alloc (.cells (encItem ⟨i1, i2, i3, i4, i5, i6, i7, ⟨ga2, gc2, gv2⟩, ⟨ma2, mc2, mv2⟩, i8, ⟨ha2, hc2, hv2⟩⟩) 41)) := ((Below.refl _ _).alloc (Nat.le_refl _) _).alloc (by simp) _
 go_enter Tryz.func49, Tryz.ntmps49
 go_wp2_with (first
  | (go_at_call 47; (with_reducible refine (HP.out _ hB).mono ?_); rintro e w3 ⟨rfl, hb3⟩; replace hbA := hbA.belowAll hb3; replace hbB := hbB.belowAll hb3; replace hB := Below.call hB hb3 (Nat.le_refl _); have hq1 : w3.cell? ⟨w.heap.size, 8, none⟩ = some (.slice ma1 mv1.length mc1) := (hbA.cell 8).trans rfl; have hq2 : w3.cell? ⟨w.heap.size + 1, 8, none⟩ = some (.slice ma2 mv2.length mc2) := (hbB.cell 8).trans rfl)
  | (go_at_call 47; (with_reducible refine (HQ.out _ hB).mono ?_); rintro e w4 ⟨rfl, hb4⟩; replace hbA := hbA.belowAll hb4; replace hbB := hbB.belowAll hb4; replace hB := Below.call hB hb4 (Nat.le_refl _); have hq3 : w4.cell? ⟨w.heap.size, 11, none⟩ = some (.slice ha1 hv1.length hc1) := (hbA.cell 11).trans rfl; have hq4 : w4.cell? ⟨w.heap.size + 1, 11, none⟩ = some (.slice ha2 hv2.length hc2) := (hbB.cell 11).trans rfl))
 go_ret
 exact ⟨by simp, hB⟩
theorem refItem_gl (i1 i2 i3 i4 i5 i6 i7 : Int) (i8 : Span) (ga1 ga2 ma1 ma2 ha1 ha2 : Option Addr) (gc1 gc2 mc1 mc2 hc1 hc2 : Nat) (gv1 gv2 mv1 mv2 : List Int) (hv1 hv2 : List Sight) (w : World)
  (HP : Hid (∀ W, Below w.heap.size w W → Calls Tryz.prog 47 #[.slice ga1 gv1.length gc1, .slice ga2 gv2.length gc2] W fun e w' => e = .returned (.bool true) ∧ Below W.heap.size W w'))
  (HQ : Hid (∀ W, Below w.heap.size w W → Calls Tryz.prog 47 #[.slice ma1 mv1.length mc1, .slice ma2 mv2.length mc2] W fun e w' => e = .returned (.bool true) ∧ Below W.heap.size W w')) (hl : ¬ hv2.length = hv1.length) :
  Calls Tryz.prog 49 #[.agg (encItem ⟨i1, i2, i3, i4, i5, i6, i7, ⟨ga1, gc1, gv1⟩, ⟨ma1, mc1, mv1⟩, i8, ⟨ha1, hc1, hv1⟩⟩), .agg (encItem ⟨i1, i2, i3, i4, i5, i6, i7, ⟨ga2, gc2, gv2⟩, ⟨ma2, mc2, mv2⟩, i8, ⟨ha2, hc2, hv2⟩⟩)] w fun e w' => e = .returned (.bool false) ∧ Below w.heap.size w w' := by
 have hsp : eqSpan i8 i8 = true := by simp [eqSpan]
 have m3 : (((hv1.length : Int)) != (hv2.length : Int)) = true := by simp; omega
 clear hl
 have hbA : BoxAt ((w.alloc (.cells (encItem ⟨i1, i2, i3, i4, i5, i6, i7, ⟨ga1, gc1, gv1⟩, ⟨ma1, mc1, mv1⟩, i8, ⟨ha1, hc1, hv1⟩⟩) 41)).alloc (.cells (encItem ⟨i1, i2, i3, i4, i5, i6, i7, ⟨ga2, gc2, gv2⟩, ⟨ma2, mc2, mv2⟩, i8, ⟨ha2, hc2, hv2⟩⟩) 41)) w.heap.size 41 (encItem ⟨i1, i2, i3, i4, i5, i6, i7, ⟨ga1, gc1, gv1⟩, ⟨ma1, mc1, mv1⟩, i8, ⟨ha1, hc1, hv1⟩⟩) := (BoxAt.new _ _ _).alloc _
 have hbB : BoxAt ((w.alloc (.cells (encItem ⟨i1, i2, i3, i4, i5, i6, i7, ⟨ga1, gc1, gv1⟩, ⟨ma1, mc1, mv1⟩, i8, ⟨ha1, hc1, hv1⟩⟩) 41)).alloc (.cells (encItem ⟨i1, i2, i3, i4, i5, i6, i7, ⟨ga2, gc2, gv2⟩, ⟨ma2, mc2, mv2⟩, i8, ⟨ha2, hc2, hv2⟩⟩) 41)) (w.heap.size + 1) 41 (encItem ⟨i1, i2, i3, i4, i5, i6, i7, ⟨ga2, gc2, gv2⟩, ⟨ma2, mc2, mv2⟩, i8, ⟨ha2, hc2, hv2⟩⟩) := by have h := BoxAt.new (w.alloc (.cells (encItem ⟨i1, i2, i3, i4, i5, i6, i7, ⟨ga1, gc1, gv1⟩, ⟨ma1, mc1, mv1⟩, i8, ⟨ha1, hc1, hv1⟩⟩) 41)) 41 (encItem ⟨i1, i2, i3, i4, i5, i6, i7, ⟨ga2, gc2, gv2⟩, ⟨ma2, mc2, mv2⟩, i8, ⟨ha2, hc2, hv2⟩⟩); rw [World.size_alloc] at h; exact h
 have hB : Below w.heap.size w ((w.alloc (.cells (encItem ⟨i1, i2, i3, i4, i5, i6, i7, ⟨ga1, gc1, gv1⟩, ⟨ma1, mc1, mv1⟩, i8, ⟨ha1, hc1, hv1⟩⟩) 41)).alloc (.cells (encItem ⟨i1, i2, i3, i4, i5, i6, i7, ⟨ga2, gc2, gv2⟩, ⟨ma2, mc2, mv2⟩, i8, ⟨ha2, hc2, hv2⟩⟩) 41)) := ((Below.refl _ _).alloc (Nat.le_refl _) _).alloc (by simp) _
 go_enter Tryz.func49, Tryz.ntmps49
 go_wp2_with (first
  | (go_at_call 47; (with_reducible refine (HP.out _ hB).mono ?_); rintro e w3 ⟨rfl, hb3⟩; replace hbA := hbA.belowAll hb3; replace hbB := hbB.belowAll hb3; replace hB := Below.call hB hb3 (Nat.le_refl _); have hq1 : w3.cell? ⟨w.heap.size, 8, none⟩ = some (.slice ma1 mv1.length mc1) := (hbA.cell 8).trans rfl; have hq2 : w3.cell? ⟨w.heap.size + 1, 8, none⟩ = some (.slice ma2 mv2.length mc2) := (hbB.cell 8).trans rfl)
  | (go_at_call 47; (with_reducible refine (HQ.out _ hB).mono ?_); rintro e w4 ⟨rfl, hb4⟩; replace hbA := hbA.belowAll hb4; replace hbB := hbB.belowAll hb4; replace hB := Below.call hB hb4 (Nat.le_refl _); have hq3 : w4.cell? ⟨w.heap.size, 11, none⟩ = some (.slice ha1 hv1.length hc1) := (hbA.cell 11).trans rfl; have hq4 : w4.cell? ⟨w.heap.size + 1, 11, none⟩ = some (.slice ha2 hv2.length hc2) := (hbB.cell 11).trans rfl))
 go_ret
 exact ⟨by simp, hB⟩
theorem refItem_gs (i1 i2 i3 i4 i5 i6 i7 : Int) (i8 : Span) (ga1 ga2 ma1 ma2 ha1 ha2 : Option Addr) (gc1 gc2 mc1 mc2 hc1 hc2 : Nat) (gv1 gv2 mv1 mv2 : List Int) (hv1 hv2 : List Sight) (w : World)
  (HP : Hid (∀ W, Below w.heap.size w W → Calls Tryz.prog 47 #[.slice ga1 gv1.length gc1, .slice ga2 gv2.length gc2] W fun e w' => e = .returned (.bool true) ∧ Below W.heap.size W w'))
  (HQ : Hid (∀ W, Below w.heap.size w W → Calls Tryz.prog 47 #[.slice ma1 mv1.length mc1, .slice ma2 mv2.length mc2] W fun e w' => e = .returned (.bool true) ∧ Below W.heap.size W w')) (D : Nat → Prop) (hg1 : Sl.OK 8 encSight okSight D w ⟨ha1, hc1, hv1⟩) (hg2 : Sl.OK 8 encSight okSight D w ⟨ha2, hc2, hv2⟩) (hl : hv2.length = hv1.length) :
  Calls Tryz.prog 49 #[.agg (encItem ⟨i1, i2, i3, i4, i5, i6, i7, ⟨ga1, gc1, gv1⟩, ⟨ma1, mc1, mv1⟩, i8, ⟨ha1, hc1, hv1⟩⟩), .agg (encItem ⟨i1, i2, i3, i4, i5, i6, i7, ⟨ga2, gc2, gv2⟩, ⟨ma2, mc2, mv2⟩, i8, ⟨ha2, hc2, hv2⟩⟩)] w fun e w' => e = .returned (.bool (decide (hv2 = hv1))) ∧ Below w.heap.size w w' := by
 have hsp : eqSpan i8 i8 = true := by simp [eqSpan]
 have m3 : (((hv1.length : Int)) != (hv2.length : Int)) = false := by simp; omega
 have HL := Lib.hid hl
 have HG1 := Lib.hid hg1
 have HG2 := Lib.hid hg2
 have hr1 : hv1.length ≤ 4294967296 := hg1.room
 clear hl hg1 hg2
 have hbA : BoxAt ((w.alloc (.cells (encItem ⟨i1, i2, i3, i4, i5, i6, i7, ⟨ga1, gc1, gv1⟩, ⟨ma1, mc1, mv1⟩, i8, ⟨ha1, hc1, hv1⟩⟩) 41)).alloc (.cells (encItem ⟨i1, i2, i3, i4, i5, i6, i7, ⟨ga2, gc2, gv2⟩, ⟨ma2, mc2, mv2⟩, i8, ⟨ha2, hc2, hv2⟩⟩) 41)) w.heap.size 41 (encItem ⟨i1, i2, i3, i4, i5, i6, i7, ⟨ga1, gc1, gv1⟩, ⟨ma1, mc1, mv1⟩, i8, ⟨ha1, hc1, hv1⟩⟩) := (BoxAt.new _ _ _).alloc _
 have hbB : BoxAt ((w.alloc (.cells (encItem ⟨i1, i2, i3, i4, i5, i6, i7, ⟨ga1, gc1, gv1⟩, ⟨ma1, mc1, mv1⟩, i8, ⟨ha1, hc1, hv1⟩⟩) 41)).alloc (.cells (encItem ⟨i1, i2, i3, i4, i5, i6, i7, ⟨ga2, gc2, gv2⟩, ⟨ma2, mc2, mv2⟩, i8, ⟨ha2, hc2, hv2⟩⟩) 41)) (w.heap.size + 1) 41 (encItem ⟨i1, i2, i3, i4, i5, i6, i7, ⟨ga2, gc2, gv2⟩, ⟨ma2, mc2, mv2⟩, i8, ⟨ha2, hc2, hv2⟩⟩) := by have h := BoxAt.new (w.alloc (.cells (encItem ⟨i1, i2, i3, i4, i5, i6, i7, ⟨ga1, gc1, gv1⟩, ⟨ma1, mc1, mv1⟩, i8, ⟨ha1, hc1, hv1⟩⟩) 41)) 41 (encItem ⟨i1, i2, i3, i4, i5, i6, i7, ⟨ga2, gc2, gv2⟩, ⟨ma2, mc2, mv2⟩, i8, ⟨ha2, hc2, hv2⟩⟩); rw [World.size_alloc] at h; exact h
 have hB : Below w.heap.size w ((w.alloc (.cells (encItem ⟨i1, i2, i3, i4, i5, i6, i7, ⟨ga1, gc1, gv1⟩, ⟨ma1, mc1, mv1⟩, i8, ⟨ha1, hc1, hv1⟩⟩) 41)).alloc (.cells (encItem ⟨i1, i2, i3, i4, i5, i6, i7, ⟨ga2, gc2, gv2⟩, ⟨ma2, mc2, mv2⟩, i8, ⟨ha2, hc2, hv2⟩⟩) 41)) := ((Below.refl _ _).alloc (Nat.le_refl _) _).alloc (by simp) _
 go_enter Tryz.func49, Tryz.ntmps49
 go_wp2_with (first
  | (go_at_call 47; (with_reducible refine (HP.out _ hB).mono ?_); rintro e w3 ⟨rfl, hb3⟩; replace hbA := hbA.belowAll hb3; replace hbB := hbB.belowAll hb3; replace hB := Below.call hB hb3 (Nat.le_refl _); have hq1 : w3.cell? ⟨w.heap.size, 8, none⟩ = some (.slice ma1 mv1.length mc1) := (hbA.cell 8).trans rfl; have hq2 : w3.cell? ⟨w.heap.size + 1, 8, none⟩ = some (.slice ma2 mv2.length mc2) := (hbB.cell 8).trans rfl)
  | (go_at_call 47; (with_reducible refine (HQ.out _ hB).mono ?_); rintro e w4 ⟨rfl, hb4⟩; replace hbA := hbA.belowAll hb4; replace hbB := hbB.belowAll hb4; replace hB := Below.call hB hb4 (Nat.le_refl _); have hq3 : w4.cell? ⟨w.heap.size, 11, none⟩ = some (.slice ha1 hv1.length hc1) := (hbA.cell 11).trans rfl; have hq4 : w4.cell? ⟨w.heap.size + 1, 11, none⟩ = some (.slice ha2 hv2.length hc2) := (hbB.cell 11).trans rfl))
 go_loopw [5] (fun i wr => ∃ k : Nat, k ≤ hv1.length ∧ i = .int .i64 k ∧ Hid (hv2.take k = hv1.take k) ∧ BoxAt wr w.heap.size 41 (encItem ⟨i1, i2, i3, i4, i5, i6, i7, ⟨ga1, gc1, gv1⟩, ⟨ma1, mc1, mv1⟩, i8, ⟨ha1, hc1, hv1⟩⟩) ∧ BoxAt wr (w.heap.size + 1) 41 (encItem ⟨i1, i2, i3, i4, i5, i6, i7, ⟨ga2, gc2, gv2⟩, ⟨ma2, mc2, mv2⟩, i8, ⟨ha2, hc2, hv2⟩⟩) ∧ Below w.heap.size w wr) (fun i _ => hv1.length - (intOf i).toNat)
 case atStart => exact ⟨0, Nat.zero_le _, rfl, Lib.hid (by simp), hbA, hbB, hB⟩
 case round =>
  clear hbA hbB hB
  obtain ⟨k, hk, rfl, hz, hbA, hbB, hB⟩ := hrel
  have hcA : wr.cell? ⟨w.heap.size, 11, none⟩ = some (.slice ha1 hv1.length hc1) := (hbA.cell 11).trans rfl
  have hcB : wr.cell? ⟨w.heap.size + 1, 11, none⟩ = some (.slice ha2 hv2.length hc2) := (hbB.cell 11).trans rfl
  by_cases hlt : k < hv1.length
  ·have hlt2 : k < hv2.length := by have := (HL).out; omega
   obtain ⟨x, hx⟩ : ∃ x, hv1[k]? = some x := ⟨_, List.getElem?_eq_getElem hlt⟩
   obtain ⟨y, hy⟩ : ∃ y, hv2[k]? = some y := ⟨_, List.getElem?_eq_getElem hlt2⟩
   have hi1 : (k : Int) < (hv1.length : Int) := by omega
   have hi2 : (k : Int) < (hv2.length : Int) := by omega
   obtain ⟨b, o, rfl, hb, _, _, hcell⟩ := (HG1.out).at hx
   obtain ⟨b2, o2, rfl, hb2, _, _, hcell2⟩ := (HG2.out).at hy
   have HC : Hid (∀ j, j < (encSight x).size → wr.cell? ⟨b, o + k * 8 + j, none⟩ = (encSight x)[j]?) := Lib.hid fun j hj => by rw [hB.cell (p := ⟨b, o + k * 8 + j, none⟩) hb]; exact hcell j hj
   have HC2 : Hid (∀ j, j < (encSight y).size → wr.cell? ⟨b2, o2 + k * 8 + j, none⟩ = (encSight y)[j]?) := Lib.hid fun j hj => by rw [hB.cell (p := ⟨b2, o2 + k * 8 + j, none⟩) hb2]; exact hcell2 j hj
   have hl1 : b < wr.heap.size := Nat.lt_of_lt_of_le hb hB.size
   have hl2 : b2 < wr.heap.size := Nat.lt_of_lt_of_le hb2 hB.size
   have HX := Lib.hid hx
   have HY := Lib.hid hy
   clear hx hy hcell hcell2 hb hb2
   by_cases hxy : x = y
   ·have heq : eqSight x y = true := by simp [eqSight, hxy]
    have hz2 : Hid (hv2.take (k + 1) = hv1.take (k + 1)) := Lib.hid (take_step hz.out HX.out (by rw [hxy]; exact HY.out))
    clear hxy
    go_wp2
    refine wp_region_ord [(0, true), (1, true), (2, true), (3, true), (4, true), (5, true), (6, true), (7, true), (8, true), (9, true), (10, true)] rfl (by kernel_rfl) (by kernel_rfl) (fun d _ _ _ _ h => by cases d <;> exact h) ?_
    refine wpB_fix rfl rfl (fun W hW => by go_simp; with_reducible rfl) ?_; simp only [pTs, pTn, pTz, pTc]
    refine wpB_fix (v := .slice (some ⟨b, o, none⟩) hv1.length hc1) rfl rfl (fun W hW => by have e : W.cell? ⟨w.heap.size, 11, none⟩ = some (.slice (some ⟨b, o, none⟩) hv1.length hc1) := ((hbA.drew.belowAll hW).cell 11).trans rfl; go_simp) ?_; simp only [pTs, pTn, pTz, pTc]
    iterate 2 (refine wpB_fix rfl rfl (fun W hW => by go_simp; with_reducible rfl) ?_; simp only [pTs, pTn, pTz, pTc])
    refine wpB_fix (v := .agg (encSight x)) rfl rfl (fun W hW => run_load_mem (encSight x) rfl (fun j hj => (hW.cell (p := ⟨b, o + k * 8 + j, none⟩) hl1).trans (HC.out j hj)) Tryz.underlying169 rfl (by kernel_rfl)) ?_; simp only [pTs, pTn, pTz, pTc]
    refine wpB_fix rfl rfl (fun W hW => by go_simp; with_reducible rfl) ?_; simp only [pTs, pTn, pTz, pTc]
    refine wpB_fix (v := .slice (some ⟨b2, o2, none⟩) hv2.length hc2) rfl rfl (fun W hW => by have e : W.cell? ⟨w.heap.size + 1, 11, none⟩ = some (.slice (some ⟨b2, o2, none⟩) hv2.length hc2) := ((hbB.drew.belowAll hW).cell 11).trans rfl; go_simp) ?_; simp only [pTs, pTn, pTz, pTc]
    iterate 2 (refine wpB_fix rfl rfl (fun W hW => by go_simp; with_reducible rfl) ?_; simp only [pTs, pTn, pTz, pTc])
    refine wpB_fix (v := .agg (encSight y)) rfl rfl (fun W hW => run_load_mem (encSight y) rfl (fun j hj => (hW.cell (p := ⟨b2, o2 + k * 8 + j, none⟩) hl2).trans (HC2.out j hj)) Tryz.underlying169 rfl (by kernel_rfl)) ?_; simp only [pTs, pTn, pTz, pTc]
    refine wpB_fix rfl rfl (fun W hW => by go_simp; with_reducible rfl) ?_; simp only [pTs, pTn, pTz, pTc]
    simp only [wpB]
    go_wp2
    go_roundw
    case rel => exact ⟨k + 1, by omega, by go_num, hz2, hbA.drew, hbB.drew, hB.drew⟩
    case measure => simp [intOf]; omega
   ·have heq : eqSight x y = false := by simp [eqSight, hxy]
    have HN := Lib.hid (ne_at HX.out HY.out hxy)
    clear hxy
    go_wp2
    refine wp_region_ord [(0, true), (1, true), (2, true), (3, true), (4, true), (5, true), (6, true), (7, true), (8, true), (9, true), (10, true)] rfl (by kernel_rfl) (by kernel_rfl) (fun d _ _ _ _ h => by cases d <;> exact h) ?_
    refine wpB_fix rfl rfl (fun W hW => by go_simp; with_reducible rfl) ?_; simp only [pTs, pTn, pTz, pTc]
    refine wpB_fix (v := .slice (some ⟨b, o, none⟩) hv1.length hc1) rfl rfl (fun W hW => by have e : W.cell? ⟨w.heap.size, 11, none⟩ = some (.slice (some ⟨b, o, none⟩) hv1.length hc1) := ((hbA.drew.belowAll hW).cell 11).trans rfl; go_simp) ?_; simp only [pTs, pTn, pTz, pTc]
    iterate 2 (refine wpB_fix rfl rfl (fun W hW => by go_simp; with_reducible rfl) ?_; simp only [pTs, pTn, pTz, pTc])
    refine wpB_fix (v := .agg (encSight x)) rfl rfl (fun W hW => run_load_mem (encSight x) rfl (fun j hj => (hW.cell (p := ⟨b, o + k * 8 + j, none⟩) hl1).trans (HC.out j hj)) Tryz.underlying169 rfl (by kernel_rfl)) ?_; simp only [pTs, pTn, pTz, pTc]
    refine wpB_fix rfl rfl (fun W hW => by go_simp; with_reducible rfl) ?_; simp only [pTs, pTn, pTz, pTc]
    refine wpB_fix (v := .slice (some ⟨b2, o2, none⟩) hv2.length hc2) rfl rfl (fun W hW => by have e : W.cell? ⟨w.heap.size + 1, 11, none⟩ = some (.slice (some ⟨b2, o2, none⟩) hv2.length hc2) := ((hbB.drew.belowAll hW).cell 11).trans rfl; go_simp) ?_; simp only [pTs, pTn, pTz, pTc]
    iterate 2 (refine wpB_fix rfl rfl (fun W hW => by go_simp; with_reducible rfl) ?_; simp only [pTs, pTn, pTz, pTc])
    refine wpB_fix (v := .agg (encSight y)) rfl rfl (fun W hW => run_load_mem (encSight y) rfl (fun j hj => (hW.cell (p := ⟨b2, o2 + k * 8 + j, none⟩) hl2).trans (HC2.out j hj)) Tryz.underlying169 rfl (by kernel_rfl)) ?_; simp only [pTs, pTn, pTz, pTc]
    refine wpB_fix rfl rfl (fun W hW => by go_simp; with_reducible rfl) ?_; simp only [pTs, pTn, pTz, pTc]
    simp only [wpB]
    go_wp2
    go_ret
    exact ⟨by simp [HN.out], hB.drew⟩
  ·go_wp2
   have HE := Lib.hid (take_all hz.out HL.out (by omega))
   go_ret
   exact ⟨by simp [HE.out], hB⟩
theorem refItem_g (D : Nat → Prop) (a b : Item) (w : World) (ha : okItem D w a) (hb : okItem D w b) :
  Calls Tryz.prog 49 #[.agg (encItem a), .agg (encItem b)] w fun e w' => e = .returned (.bool (decide (b.abs = a.abs))) ∧ Below w.heap.size w w' := by
 by_cases hs : a.id = b.id ∧ a.kind = b.kind ∧ a.year = b.year ∧ a.film = b.film ∧ a.piece = b.piece ∧ a.lead = b.lead ∧ a.slack = b.slack ∧ a.count = b.count
 rotate_left
 ·rw [decide_eq_false (fun e => hs ⟨(show b.abs.id = a.abs.id from by rw [e]).symm, (show b.abs.kind = a.abs.kind from by rw [e]).symm, (show b.abs.year = a.abs.year from by rw [e]).symm, (show b.abs.film = a.abs.film from by rw [e]).symm, (show b.abs.piece = a.abs.piece from by rw [e]).symm, (show b.abs.lead = a.abs.lead from by rw [e]).symm, (show b.abs.slack = a.abs.slack from by rw [e]).symm, (show b.abs.count = a.abs.count from by rw [e]).symm⟩)]
  exact refItem_diff a b w hs
 obtain ⟨c0, c1, c2, c3, c4, c5, c6, c7⟩ := hs
 have HEQ : decide (b.abs = a.abs) = (decide (b.panes.val = a.panes.val) && (decide (b.colours.val = a.colours.val) && decide (b.sights.val = a.sights.val))) := by
  rw [Bool.eq_iff_iff]; simp [Item.abs, c0, c1, c2, c3, c4, c5, c6, c7]
 rw [HEQ]
 clear HEQ
 obtain ⟨_, _, _, _, _, _, _, _, _, p1, q1, s1⟩ := ha
 obtain ⟨_, _, _, _, _, _, _, _, _, p2, q2, s2⟩ := hb
 have HP : Hid (∀ W, Below w.heap.size w W → _) := Lib.hid fun W hW => refInts_g D a.panes b.panes W (p1.ext (w := w) (fun _ h => h) (.of_below hW)) (p2.ext (w := w) (fun _ h => h) (.of_below hW))
 have HQ : Hid (∀ W, Below w.heap.size w W → _) := Lib.hid fun W hW => refInts_g D a.colours b.colours W (q1.ext (w := w) (fun _ h => h) (.of_below hW)) (q2.ext (w := w) (fun _ h => h) (.of_below hW))
 clear p1 p2 q1 q2
 obtain ⟨i1, i2, i3, i4, i5, i6, i7, ⟨ga1, gc1, gv1⟩, ⟨ma1, mc1, mv1⟩, i8, ⟨ha1, hc1, hv1⟩⟩ := a
 obtain ⟨j1, j2, j3, j4, j5, j6, j7, ⟨ga2, gc2, gv2⟩, ⟨ma2, mc2, mv2⟩, j8, ⟨ha2, hc2, hv2⟩⟩ := b
 simp only at c0 c1 c2 c3 c4 c5 c6 c7 HP HQ s1 s2 ⊢
 subst c0 c1 c2 c3 c4 c5 c6 c7
 generalize decide (gv2 = gv1) = pb at HP ⊢
 generalize decide (mv2 = mv1) = nb at HQ ⊢
 cases pb
 ·exact refItem_gp _ _ _ _ _ _ _ _ _ _ _ _ _ _ _ _ _ _ _ _ _ _ _ _ _ _ w HP nb HQ
 cases nb
 ·exact refItem_gn _ _ _ _ _ _ _ _ _ _ _ _ _ _ _ _ _ _ _ _ _ _ _ _ _ _ w HP HQ
 by_cases hl : hv2.length = hv1.length
 ·exact refItem_gs _ _ _ _ _ _ _ _ _ _ _ _ _ _ _ _ _ _ _ _ _ _ _ _ _ _ w HP HQ D s1 s2 hl
 ·rw [decide_eq_false (fun e => hl (by rw [e]))]
  exact refItem_gl _ _ _ _ _ _ _ _ _ _ _ _ _ _ _ _ _ _ _ _ _ _ _ _ _ _ w HP HQ hl
theorem refNote_g (D : Nat → Prop) (a b : Note) (w : World) (ha : okNote D w a) (hb : okNote D w b) :
  Calls Tryz.prog 23 #[.agg (encNote a), .agg (encNote b)] w fun e w' => e = .returned (.bool (decide (b.abs = a.abs))) ∧ Below w.heap.size w w' := by
 by_cases hs : a.bench = b.bench ∧ a.num = b.num ∧ a.clock = b.clock ∧ a.year = b.year ∧ a.kind = b.kind ∧ a.fix = b.fix ∧ a.piece = b.piece ∧ a.pane = b.pane ∧ a.colour = b.colour ∧ a.to = b.to ∧ a.setting = b.setting ∧ a.ref = b.ref
 rotate_left
 ·rw [decide_eq_false (fun e => hs ⟨(show b.abs.bench = a.abs.bench from by rw [e]).symm, (show b.abs.num = a.abs.num from by rw [e]).symm, (show b.abs.clock = a.abs.clock from by rw [e]).symm, (show b.abs.year = a.abs.year from by rw [e]).symm, (show b.abs.kind = a.abs.kind from by rw [e]).symm, (show b.abs.fix = a.abs.fix from by rw [e]).symm, (show b.abs.piece = a.abs.piece from by rw [e]).symm, (show b.abs.pane = a.abs.pane from by rw [e]).symm, (show b.abs.colour = a.abs.colour from by rw [e]).symm, (show b.abs.to = a.abs.to from by rw [e]).symm, (show b.abs.setting = a.abs.setting from by rw [e]).symm, (show b.abs.ref = a.abs.ref from by rw [e]).symm⟩)]
  exact refNote_diff a b w hs
 obtain ⟨c0, c1, c2, c3, c4, c5, c6, c7, c8, c9, c10, c11⟩ := hs
 have HP : Hid (∀ W, Below w.heap.size w W → _) := Lib.hid fun W hW => refInts_g D a.pieces b.pieces W (okNote_pieces (okNote.ext ha (.of_below hW))) (okNote_pieces (okNote.ext hb (.of_below hW)))
 have HQ : Hid (∀ W, Below w.heap.size w W → _) := Lib.hid fun W hW => refInts_g D a.panes b.panes W (okNote_panes (okNote.ext ha (.of_below hW))) (okNote_panes (okNote.ext hb (.of_below hW)))
 have HD : Hid (∀ W, Below w.heap.size w W → _) := Lib.hid fun W hW => refPieces_g D a.data b.data W (okNote_data (okNote.ext ha (.of_below hW))) (okNote_data (okNote.ext hb (.of_below hW)))
 have HX : Hid (∀ W, Below w.heap.size w W → _) := Lib.hid fun W hW => refItem_g D a.item b.item W (okNote_item (okNote.ext ha (.of_below hW))) (okNote_item (okNote.ext hb (.of_below hW)))
 have HEQ : decide (b.abs = a.abs) = (decide (b.pieces.val = a.pieces.val) && (decide (b.panes.val = a.panes.val) && (decide (b.data.val.map Piece.abs = a.data.val.map Piece.abs) && decide (b.item.abs = a.item.abs)))) := by
  rw [Bool.eq_iff_iff]; simp [Note.abs, c0, c1, c2, c3, c4, c5, c6, c7, c8, c9, c10, c11]
 rw [HEQ]
 clear HEQ ha hb
 obtain ⟨i1, i2, i3, i4, i5, i6, i7, i8, i9, i10, i11, i12, ⟨ga1, gc1, gv1⟩, ⟨ma1, mc1, mv1⟩, ⟨da1, dc1, dv1⟩, x1⟩ := a
 obtain ⟨j1, j2, j3, j4, j5, j6, j7, j8, j9, j10, j11, j12, ⟨ga2, gc2, gv2⟩, ⟨ma2, mc2, mv2⟩, ⟨da2, dc2, dv2⟩, x2⟩ := b
 simp only at c0 c1 c2 c3 c4 c5 c6 c7 c8 c9 c10 c11 HP HQ HD HX ⊢
 subst c0 c1 c2 c3 c4 c5 c6 c7 c8 c9 c10 c11
 generalize decide (gv2 = gv1) = pb at HP ⊢
 generalize decide (mv2 = mv1) = nb at HQ ⊢
 generalize decide (dv2.map Piece.abs = dv1.map Piece.abs) = db at HD ⊢
 generalize decide (x2.abs = x1.abs) = ib at HX ⊢
 cases pb
 ·exact refNote_p _ _ _ _ _ _ _ _ _ _ _ _ _ _ _ _ _ _ _ _ _ _ _ _ _ _ _ _ _ _ _ _ w HP
 cases nb
 ·exact refNote_n _ _ _ _ _ _ _ _ _ _ _ _ _ _ _ _ _ _ _ _ _ _ _ _ _ _ _ _ _ _ _ _ w HP HQ
 cases db
 ·exact refNote_q _ _ _ _ _ _ _ _ _ _ _ _ _ _ _ _ _ _ _ _ _ _ _ _ _ _ _ _ _ _ _ _ w HP HQ HD
 exact refNote_x _ _ _ _ _ _ _ _ _ _ _ _ _ _ _ _ _ _ _ _ _ _ _ _ _ _ _ _ _ _ _ _ w ib HP HQ HD HX
theorem refNote_any (D : Nat → Prop) (a b : Note) (w : World) (ha : okNote D w a) (hb : okNote D w b) (h : b.abs = a.abs) :
  Calls Tryz.prog 23 #[.agg (encNote a), .agg (encNote b)] w fun e w' => e = .returned (.bool true) ∧ Below w.heap.size w w' := by
 have hh := refNote_g D a b w ha hb
 rwa [decide_eq_true h] at hh
end Go.Proofs.YtnmgfnpphglphaaGreat
