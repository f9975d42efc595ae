/-
  A note is well-formed: walked.
-/
import Derived.Test.YtnmgfnpphglphaaGreatUsed
set_option maxHeartbeats 16000000
set_option maxRecDepth 100000
set_option linter.unusedVariables false
set_option linter.unusedSimpArgs false
namespace Go.Proofs.YtnmgfnpphglphaaGreat
open Go.RowKit
theorem well_walk (n : Note) (w : World) (va vb vc vd vk vr vf c1 c2 : Bool)
  (HV : Hid (∀ W, Calls Tryz.prog 88 #[.agg (encRef (refN n))] W fun e w' => e = .returned (.bool va) ∧ Below W.heap.size W w'))
  (HVR : Hid (∀ W, Calls Tryz.prog 88 #[.agg #[vi n.ref.bench, vi n.ref.num]] W fun e w' => e = .returned (.bool vr) ∧ Below W.heap.size W w'))
  (HW1 : Hid (∀ W, Calls Tryz.prog 39 #[.int .i64 n.clock, .int .i64 1, .int .i64 1048576] W fun e w' => e = .returned (.bool vb) ∧ W = w'))
  (HW2 : Hid (∀ W, Calls Tryz.prog 39 #[.int .i64 n.year, .int .i64 0, .int .i64 9999] W fun e w' => e = .returned (.bool vc) ∧ W = w'))
  (HW3 : Hid (∀ W, Calls Tryz.prog 39 #[.int .i64 n.kind, .int .i64 1, .int .i64 8] W fun e w' => e = .returned (.bool vk) ∧ W = w'))
  (HW4 : Hid (∀ W, Calls Tryz.prog 39 #[.int .i64 n.fix, .int .i64 1, .int .i64 8] W fun e w' => e = .returned (.bool vf) ∧ W = w'))
  (HO : Hid (∀ W, Below w.heap.size w W → Calls Tryz.prog 89 #[.agg (encNote n)] W fun e w' => e = .returned (.bool vd) ∧ Below W.heap.size W w'))
  (HC1 : Hid (∀ W, Below w.heap.size w W → Calls Tryz.prog 90 #[.int .i64 n.kind, .agg (encNote n)] W fun e w' => e = .returned (.bool c1) ∧ Below W.heap.size W w'))
  (HC2 : Hid (∀ W, Below w.heap.size w W → Calls Tryz.prog 90 #[.int .i64 n.fix, .agg (encNote (noRef n))] W fun e w' => e = .returned (.bool c2) ∧ Below W.heap.size W w')) :
  Calls Tryz.prog 41 #[.agg (encNote n)] w fun e w' => e = .returned (.bool (va && vb && vc && vd && (if (vk || (n.kind == 10)) = true then (n.fix == 0) && c1 else if (n.kind == 9) = true then vf && (n.fix != 5) && vr && c2 else false))) ∧ Below w.heap.size w w' := by
 have hbA : BoxAt (w.alloc (.cells (encNote n) 43)) w.heap.size 43 (encNote n) := BoxAt.new _ _ _
 have hB : Below w.heap.size w (w.alloc (.cells (encNote n) 43)) := (Below.refl _ _).alloc (Nat.le_refl _) _
 have hE := hbA.cell
 cases va
 rotate_left
 cases vb
 rotate_left
 cases vc
 rotate_left
 cases vd
 rotate_left
 cases vk
 rcases k10 : (n.kind == 10)
 rcases k9 : (n.kind == 9)
 rotate_left
 cases vf
 rotate_left
 rcases k5 : (n.fix != 5)
 rotate_left
 cases vr
 rotate_left
 rotate_left
 rcases k0 : (n.fix == 0)
 rotate_left
 rotate_left
 rcases k0 : (n.fix == 0)
 all_goals go_enter Tryz.func41, Tryz.ntmps41
 all_goals go_wp2_with (first
  | (with_reducible refine at_dst 4 ?_; refine wpList_loadB hbA rfl 43 _ rfl rfl (encNote n) (whole_cells _) Tryz.underlying43 rfl (by kernel_rfl) ?_)
  | (with_reducible refine at_dst 21 ?_; refine wpList_loadB hbA rfl 43 _ rfl rfl (encNote n) (whole_cells _) Tryz.underlying43 rfl (by kernel_rfl) ?_)
  | (with_reducible refine at_dst 40 ?_; refine wpList_loadB hbA rfl 43 _ rfl rfl (encNote n) (whole_cells _) Tryz.underlying43 rfl (by kernel_rfl) ?_)
  | (with_reducible refine at_dst 47 ?_; refine wpList_loadB hbA rfl 43 _ rfl rfl (encNote n) (whole_cells _) Tryz.underlying43 rfl (by kernel_rfl) ?_)
  | (with_reducible refine at_dst 66 ?_; refine wpList_loadB hbR rfl 43 _ rfl rfl (encNote (noRef n)) (whole_cells _) Tryz.underlying43 rfl (by kernel_rfl) ?_)
  | (go_at_call 59; refine (refOf_any n _).mono ?_; rintro e w1 ⟨rfl, hb1⟩; have hB := Below.call hB hb1 (Nat.le_refl _); have hbA := hbA.belowAll hb1; have hE := hbA.cell; (try (have hbR := hbR.belowAll hb1)); clear hb1)
  | (go_at_call 88; with_reducible refine (HV.out _).mono ?_; rintro e w1 ⟨rfl, hb1⟩; have hB := Below.call hB hb1 (Nat.le_refl _); have hbA := hbA.belowAll hb1; have hE := hbA.cell; (try (have hbR := hbR.belowAll hb1)); clear hb1)
  | (go_at_call 88; with_reducible refine (HVR.out _).mono ?_; rintro e w1 ⟨rfl, hb1⟩; have hB := Below.call hB hb1 (Nat.le_refl _); have hbA := hbA.belowAll hb1; have hE := hbA.cell; (try (have hbR := hbR.belowAll hb1)); clear hb1)
  | (go_at_call 39; with_reducible refine (HW1.out _).mono ?_; rintro e w1 ⟨rfl, rfl⟩)
  | (go_at_call 39; with_reducible refine (HW2.out _).mono ?_; rintro e w1 ⟨rfl, rfl⟩)
  | (go_at_call 39; with_reducible refine (HW3.out _).mono ?_; rintro e w1 ⟨rfl, rfl⟩)
  | (go_at_call 39; with_reducible refine (HW4.out _).mono ?_; rintro e w1 ⟨rfl, rfl⟩)
  | (go_at_call 89; refine (HO.out _ hB).mono ?_; rintro e w1 ⟨rfl, hb1⟩; have hB := Below.call hB hb1 (Nat.le_refl _); have hbA := hbA.belowAll hb1; have hE := hbA.cell; (try (have hbR := hbR.belowAll hb1)); clear hb1)
  | (with_reducible refine at_storeT 43 ?_; refine wpList_store_last (cs := encNote n) rfl 43 _ _ rfl rfl rfl rfl (by kernel_rfl) rfl (encNote_one _) ?_)
  | (with_reducible refine at_storeT 34 ?_; refine wpList_store_box (BoxAt.new _ _ _) rfl _ _ _ rfl rfl (.agg (encRef ⟨0, 0⟩)) rfl (by kernel_rfl) rfl (one_agg (encRef_one _)) ?_; intro w1 hbR hT; replace hbR := hbR.eqv (cs' := encNote (noRef n)) (by simp [splice, encNote, encRef, noRef, Value.cells]); have hbA := (hbA.alloc _).turn hT (Nat.ne_of_lt hbA.lt); have hB := (hB.alloc hB.size _).trans (hT.below hB.size); have hE := hbA.cell; clear hT)
  | (go_at_call 90; with_reducible refine (HC1.out _ hB).mono ?_; rintro e w1 ⟨rfl, hb1⟩; have hB := Below.call hB hb1 (Nat.le_refl _); have hbA := hbA.belowAll hb1; have hE := hbA.cell; (try (have hbR := hbR.belowAll hb1)); clear hb1)
  | (go_at_call 90; with_reducible refine (HC2.out _ hB).mono ?_; rintro e w1 ⟨rfl, hb1⟩; have hB := Below.call hB hb1 (Nat.le_refl _); have hbA := hbA.belowAll hb1; have hE := hbA.cell; (try (have hbR := hbR.belowAll hb1)); clear hb1))
 all_goals go_ret
 all_goals exact ⟨by simp [*], hB⟩
theorem wellFormed_any (D : Nat → Prop) (n : Note) (w : World) (hok : okNote D w n) :
  Calls Tryz.prog 41 #[.agg (encNote n)] w fun e w' => e = .returned (.bool (wellB n)) ∧ Below w.heap.size w w' := by
 have h := well_walk n w _ _ _ _ _ _ _ _ _ (Lib.hid fun W => validRef_any _ W) (Lib.hid fun W => validRef_any _ W) (Lib.hid fun W => within_any _ _ _ W) (Lib.hid fun W => within_any _ _ _ W) (Lib.hid fun W => within_any _ _ _ W) (Lib.hid fun W => within_any _ _ _ W) (Lib.hid fun W hW => own_any D n W (okNote.ext hok (.of_below hW))) (Lib.hid fun W hW => content_any D _ _ W (okNote.ext hok (.of_below hW))) (Lib.hid fun W hW => content_any D _ _ W (okNote_ref0 (okNote.ext hok (.of_below hW))))
 refine h.mono fun e w' ⟨he, hb⟩ => ⟨he.trans ?_, hb⟩
 congr 2
 unfold wellB
 congr 1
 have e5 : (n.fix != 5) = !decide (n.fix = 5) := by by_cases h : n.fix = 5 <;> simp [h]
 have e0 : (n.fix == 0) = decide (n.fix = 0) := rfl
 rw [e5, e0]
 by_cases h10 : n.kind = 10 <;> by_cases h9 : n.kind = 9 <;> cases inB n.kind 1 8 <;> simp [h10, h9]
end Go.Proofs.YtnmgfnpphglphaaGreat
