/-
  A note is well-formed: walked.
-/
import Derived.Test.YtendmmhfjhgdaaaGreatContent
set_option linter.unusedVariables false
set_option linter.unusedSimpArgs false
namespace Go.Proofs.YtendmmhfjhgdaaaGreat
open Go.RowKit



set_option maxRecDepth 20000 in
set_option maxHeartbeats 1000000 in
theorem well_1 (D : Nat → Prop) (n : Note) (w : World) (hok : okNote D w n) (ha : validRefB (refN n) = false) :
    Calls Tryz.prog 39 #[.agg (encNote n)] w fun e w' => e = .returned (.bool (wellB n)) ∧ Below w.heap.size w w' := by
  have hbA : BoxAt (w.alloc (.cells (encNote n) 40)) w.heap.size 40 (encNote n) := BoxAt.new _ _ _
  have hB : Below w.heap.size w (w.alloc (.cells (encNote n) 40)) := (Below.refl _ _).alloc (Nat.le_refl _) _
  have hE := hbA.cell
  have HV : Hid (∀ W, Calls Tryz.prog 74 #[.agg (encRef (refN n))] W fun e w' => e = .returned (.bool (validRefB (refN n))) ∧ Below W.heap.size W w') := Lib.hid fun W => validRef_any _ W
  have HVR : Hid (∀ W, Calls Tryz.prog 74 #[.agg #[vi n.ref.bench, vi n.ref.num]] W fun e w' => e = .returned (.bool (validRefB n.ref)) ∧ Below W.heap.size W w') := Lib.hid fun W => validRef_any _ W
  have HW1 : Hid (∀ W, Calls Tryz.prog 75 #[.int .i64 n.clock, .int .i64 1, .int .i64 1048576] W fun e w' => e = .returned (.bool (inB n.clock 1 1048576)) ∧ W = w') := Lib.hid fun W => within_any _ _ _ W
  have HW2 : Hid (∀ W, Calls Tryz.prog 75 #[.int .i64 n.year, .int .i64 0, .int .i64 9999] W fun e w' => e = .returned (.bool (inB n.year 0 9999)) ∧ W = w') := Lib.hid fun W => within_any _ _ _ W
  have HW3 : Hid (∀ W, Calls Tryz.prog 75 #[.int .i64 n.kind, .int .i64 1, .int .i64 8] W fun e w' => e = .returned (.bool (inB n.kind 1 8)) ∧ W = w') := Lib.hid fun W => within_any _ _ _ W
  have HW4 : Hid (∀ W, Calls Tryz.prog 75 #[.int .i64 n.fix, .int .i64 1, .int .i64 8] W fun e w' => e = .returned (.bool (inB n.fix 1 8)) ∧ W = w') := Lib.hid fun W => within_any _ _ _ W
  have HO : Hid (∀ W, Below w.heap.size w W → Calls Tryz.prog 76 #[.agg (encNote n)] W fun e w' => e = .returned (.bool (ownB n)) ∧ Below W.heap.size W w') := Lib.hid fun W hW => own_any D n W (okNote.ext hok (.of_below hW))
  have HC1 : Hid (∀ W, Below w.heap.size w W → Calls Tryz.prog 77 #[.int .i64 n.kind, .agg (encNote n)] W fun e w' => e = .returned (.bool (contentB n.kind n)) ∧ Below W.heap.size W w') := Lib.hid fun W hW => content_any D _ _ W (okNote.ext hok (.of_below hW))
  have HC2 : Hid (∀ W, Below w.heap.size w W → Calls Tryz.prog 77 #[.int .i64 n.fix, .agg (encNote (noRef n))] W fun e w' => e = .returned (.bool (contentB n.fix (noRef n))) ∧ Below W.heap.size W w') := Lib.hid fun W hW => content_any D _ _ W (okNote_ref0 (okNote.ext hok (.of_below hW)))
  have HE : Hid (wellB n = false) := Lib.hid (by unfold wellB; simp [ha])
  clear hok
  try simp only [ha] at HV HVR HW1 HW2 HW3 HW4 HO
  try simp only [ha] at HC1
  try simp only [ha] at HC2
  go_enter Tryz.func39, Tryz.ntmps39
  go_wp2_with (first
    | (with_reducible refine at_dst 4 ?_; refine wpList_loadB hbA rfl 40 _ rfl rfl (encNote n) (whole_cells _) Tryz.underlying40 rfl (by kernel_rfl) ?_)
    | (with_reducible refine at_dst 21 ?_; refine wpList_loadB hbA rfl 40 _ rfl rfl (encNote n) (whole_cells _) Tryz.underlying40 rfl (by kernel_rfl) ?_)
    | (with_reducible refine at_dst 40 ?_; refine wpList_loadB hbA rfl 40 _ rfl rfl (encNote n) (whole_cells _) Tryz.underlying40 rfl (by kernel_rfl) ?_)
    | (with_reducible refine at_dst 47 ?_; refine wpList_loadB hbA rfl 40 _ rfl rfl (encNote n) (whole_cells _) Tryz.underlying40 rfl (by kernel_rfl) ?_)
    | (with_reducible refine at_dst 66 ?_; refine wpList_loadB hbR rfl 40 _ rfl rfl (encNote (noRef n)) (whole_cells _) Tryz.underlying40 rfl (by kernel_rfl) ?_)
    | (go_at_call 41; refine (refOf_any n _).mono ?_; rintro e w1 ⟨rfl, hb1⟩; have hB := Below.call hB hb1 (Nat.le_refl _); have hbA := hbA.belowAll hb1; have hE := hbA.cell; (try (have hbR := hbR.belowAll hb1)); clear hb1)
    | (go_at_call 74; with_reducible refine (HV.out _).mono ?_; rintro e w1 ⟨rfl, hb1⟩; have hB := Below.call hB hb1 (Nat.le_refl _); have hbA := hbA.belowAll hb1; have hE := hbA.cell; (try (have hbR := hbR.belowAll hb1)); clear hb1)
    | (go_at_call 74; with_reducible refine (HVR.out _).mono ?_; rintro e w1 ⟨rfl, hb1⟩; have hB := Below.call hB hb1 (Nat.le_refl _); have hbA := hbA.belowAll hb1; have hE := hbA.cell; (try (have hbR := hbR.belowAll hb1)); clear hb1)
    | (go_at_call 75; with_reducible refine (HW1.out _).mono ?_; rintro e w1 ⟨rfl, rfl⟩)
    | (go_at_call 75; with_reducible refine (HW2.out _).mono ?_; rintro e w1 ⟨rfl, rfl⟩)
    | (go_at_call 75; with_reducible refine (HW3.out _).mono ?_; rintro e w1 ⟨rfl, rfl⟩)
    | (go_at_call 75; with_reducible refine (HW4.out _).mono ?_; rintro e w1 ⟨rfl, rfl⟩)
    | (go_at_call 76; refine (HO.out _ hB).mono ?_; rintro e w1 ⟨rfl, hb1⟩; have hB := Below.call hB hb1 (Nat.le_refl _); have hbA := hbA.belowAll hb1; have hE := hbA.cell; (try (have hbR := hbR.belowAll hb1)); clear hb1)
    | (with_reducible refine at_storeT 40 ?_; refine wpList_store_last (cs := encNote n) rfl 40 _ _ rfl rfl rfl rfl (by kernel_rfl) rfl (encNote_one _) ?_)
    | (with_reducible refine at_storeT 31 ?_; refine wpList_store_box (BoxAt.new _ _ _) rfl _ _ _ rfl rfl (.agg (encRef ⟨0, 0⟩)) rfl (by kernel_rfl) rfl (one_agg (encRef_one _)) ?_; intro w1 hbR hT; replace hbR := hbR.eqv (cs' := encNote (noRef n)) (by simp [splice, encNote, encRef, noRef, Value.cells]); have hbA := (hbA.alloc _).turn hT (Nat.ne_of_lt hbA.lt); have hB := (hB.alloc hB.size _).trans (hT.below hB.size); have hE := hbA.cell; clear hT)
    | (go_at_call 77; with_reducible refine (HC1.out _ hB).mono ?_; rintro e w1 ⟨rfl, hb1⟩; have hB := Below.call hB hb1 (Nat.le_refl _); have hbA := hbA.belowAll hb1; have hE := hbA.cell; (try (have hbR := hbR.belowAll hb1)); clear hb1)
    | (go_at_call 77; with_reducible refine (HC2.out _ hB).mono ?_; rintro e w1 ⟨rfl, hb1⟩; have hB := Below.call hB hb1 (Nat.le_refl _); have hbA := hbA.belowAll hb1; have hE := hbA.cell; (try (have hbR := hbR.belowAll hb1)); clear hb1))
  all_goals go_ret
  all_goals exact ⟨by first | exact congrArg _ (congrArg Value.bool HE.out.symm) | simp [HE.out, *], hB⟩

set_option maxRecDepth 20000 in
set_option maxHeartbeats 1000000 in
theorem well_2 (D : Nat → Prop) (n : Note) (w : World) (hok : okNote D w n) (ha : validRefB (refN n) = true) (hb : inB n.clock 1 1048576 = false) :
    Calls Tryz.prog 39 #[.agg (encNote n)] w fun e w' => e = .returned (.bool (wellB n)) ∧ Below w.heap.size w w' := by
  have hbA : BoxAt (w.alloc (.cells (encNote n) 40)) w.heap.size 40 (encNote n) := BoxAt.new _ _ _
  have hB : Below w.heap.size w (w.alloc (.cells (encNote n) 40)) := (Below.refl _ _).alloc (Nat.le_refl _) _
  have hE := hbA.cell
  have HV : Hid (∀ W, Calls Tryz.prog 74 #[.agg (encRef (refN n))] W fun e w' => e = .returned (.bool (validRefB (refN n))) ∧ Below W.heap.size W w') := Lib.hid fun W => validRef_any _ W
  have HVR : Hid (∀ W, Calls Tryz.prog 74 #[.agg #[vi n.ref.bench, vi n.ref.num]] W fun e w' => e = .returned (.bool (validRefB n.ref)) ∧ Below W.heap.size W w') := Lib.hid fun W => validRef_any _ W
  have HW1 : Hid (∀ W, Calls Tryz.prog 75 #[.int .i64 n.clock, .int .i64 1, .int .i64 1048576] W fun e w' => e = .returned (.bool (inB n.clock 1 1048576)) ∧ W = w') := Lib.hid fun W => within_any _ _ _ W
  have HW2 : Hid (∀ W, Calls Tryz.prog 75 #[.int .i64 n.year, .int .i64 0, .int .i64 9999] W fun e w' => e = .returned (.bool (inB n.year 0 9999)) ∧ W = w') := Lib.hid fun W => within_any _ _ _ W
  have HW3 : Hid (∀ W, Calls Tryz.prog 75 #[.int .i64 n.kind, .int .i64 1, .int .i64 8] W fun e w' => e = .returned (.bool (inB n.kind 1 8)) ∧ W = w') := Lib.hid fun W => within_any _ _ _ W
  have HW4 : Hid (∀ W, Calls Tryz.prog 75 #[.int .i64 n.fix, .int .i64 1, .int .i64 8] W fun e w' => e = .returned (.bool (inB n.fix 1 8)) ∧ W = w') := Lib.hid fun W => within_any _ _ _ W
  have HO : Hid (∀ W, Below w.heap.size w W → Calls Tryz.prog 76 #[.agg (encNote n)] W fun e w' => e = .returned (.bool (ownB n)) ∧ Below W.heap.size W w') := Lib.hid fun W hW => own_any D n W (okNote.ext hok (.of_below hW))
  have HC1 : Hid (∀ W, Below w.heap.size w W → Calls Tryz.prog 77 #[.int .i64 n.kind, .agg (encNote n)] W fun e w' => e = .returned (.bool (contentB n.kind n)) ∧ Below W.heap.size W w') := Lib.hid fun W hW => content_any D _ _ W (okNote.ext hok (.of_below hW))
  have HC2 : Hid (∀ W, Below w.heap.size w W → Calls Tryz.prog 77 #[.int .i64 n.fix, .agg (encNote (noRef n))] W fun e w' => e = .returned (.bool (contentB n.fix (noRef n))) ∧ Below W.heap.size W w') := Lib.hid fun W hW => content_any D _ _ W (okNote_ref0 (okNote.ext hok (.of_below hW)))
  have HE : Hid (wellB n = false) := Lib.hid (by unfold wellB; simp [ha, hb])
  clear hok
  try simp only [ha, hb] at HV HVR HW1 HW2 HW3 HW4 HO
  try simp only [ha, hb] at HC1
  try simp only [ha, hb] at HC2
  go_enter Tryz.func39, Tryz.ntmps39
  go_wp2_with (first
    | (with_reducible refine at_dst 4 ?_; refine wpList_loadB hbA rfl 40 _ rfl rfl (encNote n) (whole_cells _) Tryz.underlying40 rfl (by kernel_rfl) ?_)
    | (with_reducible refine at_dst 21 ?_; refine wpList_loadB hbA rfl 40 _ rfl rfl (encNote n) (whole_cells _) Tryz.underlying40 rfl (by kernel_rfl) ?_)
    | (with_reducible refine at_dst 40 ?_; refine wpList_loadB hbA rfl 40 _ rfl rfl (encNote n) (whole_cells _) Tryz.underlying40 rfl (by kernel_rfl) ?_)
    | (with_reducible refine at_dst 47 ?_; refine wpList_loadB hbA rfl 40 _ rfl rfl (encNote n) (whole_cells _) Tryz.underlying40 rfl (by kernel_rfl) ?_)
    | (with_reducible refine at_dst 66 ?_; refine wpList_loadB hbR rfl 40 _ rfl rfl (encNote (noRef n)) (whole_cells _) Tryz.underlying40 rfl (by kernel_rfl) ?_)
    | (go_at_call 41; refine (refOf_any n _).mono ?_; rintro e w1 ⟨rfl, hb1⟩; have hB := Below.call hB hb1 (Nat.le_refl _); have hbA := hbA.belowAll hb1; have hE := hbA.cell; (try (have hbR := hbR.belowAll hb1)); clear hb1)
    | (go_at_call 74; with_reducible refine (HV.out _).mono ?_; rintro e w1 ⟨rfl, hb1⟩; have hB := Below.call hB hb1 (Nat.le_refl _); have hbA := hbA.belowAll hb1; have hE := hbA.cell; (try (have hbR := hbR.belowAll hb1)); clear hb1)
    | (go_at_call 74; with_reducible refine (HVR.out _).mono ?_; rintro e w1 ⟨rfl, hb1⟩; have hB := Below.call hB hb1 (Nat.le_refl _); have hbA := hbA.belowAll hb1; have hE := hbA.cell; (try (have hbR := hbR.belowAll hb1)); clear hb1)
    | (go_at_call 75; with_reducible refine (HW1.out _).mono ?_; rintro e w1 ⟨rfl, rfl⟩)
    | (go_at_call 75; with_reducible refine (HW2.out _).mono ?_; rintro e w1 ⟨rfl, rfl⟩)
    | (go_at_call 75; with_reducible refine (HW3.out _).mono ?_; rintro e w1 ⟨rfl, rfl⟩)
    | (go_at_call 75; with_reducible refine (HW4.out _).mono ?_; rintro e w1 ⟨rfl, rfl⟩)
    | (go_at_call 76; refine (HO.out _ hB).mono ?_; rintro e w1 ⟨rfl, hb1⟩; have hB := Below.call hB hb1 (Nat.le_refl _); have hbA := hbA.belowAll hb1; have hE := hbA.cell; (try (have hbR := hbR.belowAll hb1)); clear hb1)
    | (with_reducible refine at_storeT 40 ?_; refine wpList_store_last (cs := encNote n) rfl 40 _ _ rfl rfl rfl rfl (by kernel_rfl) rfl (encNote_one _) ?_)
    | (with_reducible refine at_storeT 31 ?_; refine wpList_store_box (BoxAt.new _ _ _) rfl _ _ _ rfl rfl (.agg (encRef ⟨0, 0⟩)) rfl (by kernel_rfl) rfl (one_agg (encRef_one _)) ?_; intro w1 hbR hT; replace hbR := hbR.eqv (cs' := encNote (noRef n)) (by simp [splice, encNote, encRef, noRef, Value.cells]); have hbA := (hbA.alloc _).turn hT (Nat.ne_of_lt hbA.lt); have hB := (hB.alloc hB.size _).trans (hT.below hB.size); have hE := hbA.cell; clear hT)
    | (go_at_call 77; with_reducible refine (HC1.out _ hB).mono ?_; rintro e w1 ⟨rfl, hb1⟩; have hB := Below.call hB hb1 (Nat.le_refl _); have hbA := hbA.belowAll hb1; have hE := hbA.cell; (try (have hbR := hbR.belowAll hb1)); clear hb1)
    | (go_at_call 77; with_reducible refine (HC2.out _ hB).mono ?_; rintro e w1 ⟨rfl, hb1⟩; have hB := Below.call hB hb1 (Nat.le_refl _); have hbA := hbA.belowAll hb1; have hE := hbA.cell; (try (have hbR := hbR.belowAll hb1)); clear hb1))
  all_goals go_ret
  all_goals exact ⟨by first | exact congrArg _ (congrArg Value.bool HE.out.symm) | simp [HE.out, *], hB⟩

set_option maxRecDepth 20000 in
set_option maxHeartbeats 1000000 in
theorem well_3 (D : Nat → Prop) (n : Note) (w : World) (hok : okNote D w n) (ha : validRefB (refN n) = true) (hb : inB n.clock 1 1048576 = true) (hc : inB n.year 0 9999 = false) :
    Calls Tryz.prog 39 #[.agg (encNote n)] w fun e w' => e = .returned (.bool (wellB n)) ∧ Below w.heap.size w w' := by
  have hbA : BoxAt (w.alloc (.cells (encNote n) 40)) w.heap.size 40 (encNote n) := BoxAt.new _ _ _
  have hB : Below w.heap.size w (w.alloc (.cells (encNote n) 40)) := (Below.refl _ _).alloc (Nat.le_refl _) _
  have hE := hbA.cell
  have HV : Hid (∀ W, Calls Tryz.prog 74 #[.agg (encRef (refN n))] W fun e w' => e = .returned (.bool (validRefB (refN n))) ∧ Below W.heap.size W w') := Lib.hid fun W => validRef_any _ W
  have HVR : Hid (∀ W, Calls Tryz.prog 74 #[.agg #[vi n.ref.bench, vi n.ref.num]] W fun e w' => e = .returned (.bool (validRefB n.ref)) ∧ Below W.heap.size W w') := Lib.hid fun W => validRef_any _ W
  have HW1 : Hid (∀ W, Calls Tryz.prog 75 #[.int .i64 n.clock, .int .i64 1, .int .i64 1048576] W fun e w' => e = .returned (.bool (inB n.clock 1 1048576)) ∧ W = w') := Lib.hid fun W => within_any _ _ _ W
  have HW2 : Hid (∀ W, Calls Tryz.prog 75 #[.int .i64 n.year, .int .i64 0, .int .i64 9999] W fun e w' => e = .returned (.bool (inB n.year 0 9999)) ∧ W = w') := Lib.hid fun W => within_any _ _ _ W
  have HW3 : Hid (∀ W, Calls Tryz.prog 75 #[.int .i64 n.kind, .int .i64 1, .int .i64 8] W fun e w' => e = .returned (.bool (inB n.kind 1 8)) ∧ W = w') := Lib.hid fun W => within_any _ _ _ W
  have HW4 : Hid (∀ W, Calls Tryz.prog 75 #[.int .i64 n.fix, .int .i64 1, .int .i64 8] W fun e w' => e = .returned (.bool (inB n.fix 1 8)) ∧ W = w') := Lib.hid fun W => within_any _ _ _ W
  have HO : Hid (∀ W, Below w.heap.size w W → Calls Tryz.prog 76 #[.agg (encNote n)] W fun e w' => e = .returned (.bool (ownB n)) ∧ Below W.heap.size W w') := Lib.hid fun W hW => own_any D n W (okNote.ext hok (.of_below hW))
  have HC1 : Hid (∀ W, Below w.heap.size w W → Calls Tryz.prog 77 #[.int .i64 n.kind, .agg (encNote n)] W fun e w' => e = .returned (.bool (contentB n.kind n)) ∧ Below W.heap.size W w') := Lib.hid fun W hW => content_any D _ _ W (okNote.ext hok (.of_below hW))
  have HC2 : Hid (∀ W, Below w.heap.size w W → Calls Tryz.prog 77 #[.int .i64 n.fix, .agg (encNote (noRef n))] W fun e w' => e = .returned (.bool (contentB n.fix (noRef n))) ∧ Below W.heap.size W w') := Lib.hid fun W hW => content_any D _ _ W (okNote_ref0 (okNote.ext hok (.of_below hW)))
  have HE : Hid (wellB n = false) := Lib.hid (by unfold wellB; simp [ha, hb, hc])
  clear hok
  try simp only [ha, hb, hc] at HV HVR HW1 HW2 HW3 HW4 HO
  try simp only [ha, hb, hc] at HC1
  try simp only [ha, hb, hc] at HC2
  go_enter Tryz.func39, Tryz.ntmps39
  go_wp2_with (first
    | (with_reducible refine at_dst 4 ?_; refine wpList_loadB hbA rfl 40 _ rfl rfl (encNote n) (whole_cells _) Tryz.underlying40 rfl (by kernel_rfl) ?_)
    | (with_reducible refine at_dst 21 ?_; refine wpList_loadB hbA rfl 40 _ rfl rfl (encNote n) (whole_cells _) Tryz.underlying40 rfl (by kernel_rfl) ?_)
    | (with_reducible refine at_dst 40 ?_; refine wpList_loadB hbA rfl 40 _ rfl rfl (encNote n) (whole_cells _) Tryz.underlying40 rfl (by kernel_rfl) ?_)
    | (with_reducible refine at_dst 47 ?_; refine wpList_loadB hbA rfl 40 _ rfl rfl (encNote n) (whole_cells _) Tryz.underlying40 rfl (by kernel_rfl) ?_)
    | (with_reducible refine at_dst 66 ?_; refine wpList_loadB hbR rfl 40 _ rfl rfl (encNote (noRef n)) (whole_cells _) Tryz.underlying40 rfl (by kernel_rfl) ?_)
    | (go_at_call 41; refine (refOf_any n _).mono ?_; rintro e w1 ⟨rfl, hb1⟩; have hB := Below.call hB hb1 (Nat.le_refl _); have hbA := hbA.belowAll hb1; have hE := hbA.cell; (try (have hbR := hbR.belowAll hb1)); clear hb1)
    | (go_at_call 74; with_reducible refine (HV.out _).mono ?_; rintro e w1 ⟨rfl, hb1⟩; have hB := Below.call hB hb1 (Nat.le_refl _); have hbA := hbA.belowAll hb1; have hE := hbA.cell; (try (have hbR := hbR.belowAll hb1)); clear hb1)
    | (go_at_call 74; with_reducible refine (HVR.out _).mono ?_; rintro e w1 ⟨rfl, hb1⟩; have hB := Below.call hB hb1 (Nat.le_refl _); have hbA := hbA.belowAll hb1; have hE := hbA.cell; (try (have hbR := hbR.belowAll hb1)); clear hb1)
    | (go_at_call 75; with_reducible refine (HW1.out _).mono ?_; rintro e w1 ⟨rfl, rfl⟩)
    | (go_at_call 75; with_reducible refine (HW2.out _).mono ?_; rintro e w1 ⟨rfl, rfl⟩)
    | (go_at_call 75; with_reducible refine (HW3.out _).mono ?_; rintro e w1 ⟨rfl, rfl⟩)
    | (go_at_call 75; with_reducible refine (HW4.out _).mono ?_; rintro e w1 ⟨rfl, rfl⟩)
    | (go_at_call 76; refine (HO.out _ hB).mono ?_; rintro e w1 ⟨rfl, hb1⟩; have hB := Below.call hB hb1 (Nat.le_refl _); have hbA := hbA.belowAll hb1; have hE := hbA.cell; (try (have hbR := hbR.belowAll hb1)); clear hb1)
    | (with_reducible refine at_storeT 40 ?_; refine wpList_store_last (cs := encNote n) rfl 40 _ _ rfl rfl rfl rfl (by kernel_rfl) rfl (encNote_one _) ?_)
    | (with_reducible refine at_storeT 31 ?_; refine wpList_store_box (BoxAt.new _ _ _) rfl _ _ _ rfl rfl (.agg (encRef ⟨0, 0⟩)) rfl (by kernel_rfl) rfl (one_agg (encRef_one _)) ?_; intro w1 hbR hT; replace hbR := hbR.eqv (cs' := encNote (noRef n)) (by simp [splice, encNote, encRef, noRef, Value.cells]); have hbA := (hbA.alloc _).turn hT (Nat.ne_of_lt hbA.lt); have hB := (hB.alloc hB.size _).trans (hT.below hB.size); have hE := hbA.cell; clear hT)
    | (go_at_call 77; with_reducible refine (HC1.out _ hB).mono ?_; rintro e w1 ⟨rfl, hb1⟩; have hB := Below.call hB hb1 (Nat.le_refl _); have hbA := hbA.belowAll hb1; have hE := hbA.cell; (try (have hbR := hbR.belowAll hb1)); clear hb1)
    | (go_at_call 77; with_reducible refine (HC2.out _ hB).mono ?_; rintro e w1 ⟨rfl, hb1⟩; have hB := Below.call hB hb1 (Nat.le_refl _); have hbA := hbA.belowAll hb1; have hE := hbA.cell; (try (have hbR := hbR.belowAll hb1)); clear hb1))
  all_goals go_ret
  all_goals exact ⟨by first | exact congrArg _ (congrArg Value.bool HE.out.symm) | simp [HE.out, *], hB⟩

set_option maxRecDepth 20000 in
set_option maxHeartbeats 1000000 in
theorem well_4 (D : Nat → Prop) (n : Note) (w : World) (hok : okNote D w n) (ha : validRefB (refN n) = true) (hb : inB n.clock 1 1048576 = true) (hc : inB n.year 0 9999 = true) (hd : ownB n = false) :
    Calls Tryz.prog 39 #[.agg (encNote n)] w fun e w' => e = .returned (.bool (wellB n)) ∧ Below w.heap.size w w' := by
  have hbA : BoxAt (w.alloc (.cells (encNote n) 40)) w.heap.size 40 (encNote n) := BoxAt.new _ _ _
  have hB : Below w.heap.size w (w.alloc (.cells (encNote n) 40)) := (Below.refl _ _).alloc (Nat.le_refl _) _
  have hE := hbA.cell
  have HV : Hid (∀ W, Calls Tryz.prog 74 #[.agg (encRef (refN n))] W fun e w' => e = .returned (.bool (validRefB (refN n))) ∧ Below W.heap.size W w') := Lib.hid fun W => validRef_any _ W
  have HVR : Hid (∀ W, Calls Tryz.prog 74 #[.agg #[vi n.ref.bench, vi n.ref.num]] W fun e w' => e = .returned (.bool (validRefB n.ref)) ∧ Below W.heap.size W w') := Lib.hid fun W => validRef_any _ W
  have HW1 : Hid (∀ W, Calls Tryz.prog 75 #[.int .i64 n.clock, .int .i64 1, .int .i64 1048576] W fun e w' => e = .returned (.bool (inB n.clock 1 1048576)) ∧ W = w') := Lib.hid fun W => within_any _ _ _ W
  have HW2 : Hid (∀ W, Calls Tryz.prog 75 #[.int .i64 n.year, .int .i64 0, .int .i64 9999] W fun e w' => e = .returned (.bool (inB n.year 0 9999)) ∧ W = w') := Lib.hid fun W => within_any _ _ _ W
  have HW3 : Hid (∀ W, Calls Tryz.prog 75 #[.int .i64 n.kind, .int .i64 1, .int .i64 8] W fun e w' => e = .returned (.bool (inB n.kind 1 8)) ∧ W = w') := Lib.hid fun W => within_any _ _ _ W
  have HW4 : Hid (∀ W, Calls Tryz.prog 75 #[.int .i64 n.fix, .int .i64 1, .int .i64 8] W fun e w' => e = .returned (.bool (inB n.fix 1 8)) ∧ W = w') := Lib.hid fun W => within_any _ _ _ W
  have HO : Hid (∀ W, Below w.heap.size w W → Calls Tryz.prog 76 #[.agg (encNote n)] W fun e w' => e = .returned (.bool (ownB n)) ∧ Below W.heap.size W w') := Lib.hid fun W hW => own_any D n W (okNote.ext hok (.of_below hW))
  have HC1 : Hid (∀ W, Below w.heap.size w W → Calls Tryz.prog 77 #[.int .i64 n.kind, .agg (encNote n)] W fun e w' => e = .returned (.bool (contentB n.kind n)) ∧ Below W.heap.size W w') := Lib.hid fun W hW => content_any D _ _ W (okNote.ext hok (.of_below hW))
  have HC2 : Hid (∀ W, Below w.heap.size w W → Calls Tryz.prog 77 #[.int .i64 n.fix, .agg (encNote (noRef n))] W fun e w' => e = .returned (.bool (contentB n.fix (noRef n))) ∧ Below W.heap.size W w') := Lib.hid fun W hW => content_any D _ _ W (okNote_ref0 (okNote.ext hok (.of_below hW)))
  have HE : Hid (wellB n = false) := Lib.hid (by unfold wellB; simp [ha, hb, hc, hd])
  clear hok
  try simp only [ha, hb, hc, hd] at HV HVR HW1 HW2 HW3 HW4 HO
  try simp only [ha, hb, hc, hd] at HC1
  try simp only [ha, hb, hc, hd] at HC2
  go_enter Tryz.func39, Tryz.ntmps39
  go_wp2_with (first
    | (with_reducible refine at_dst 4 ?_; refine wpList_loadB hbA rfl 40 _ rfl rfl (encNote n) (whole_cells _) Tryz.underlying40 rfl (by kernel_rfl) ?_)
    | (with_reducible refine at_dst 21 ?_; refine wpList_loadB hbA rfl 40 _ rfl rfl (encNote n) (whole_cells _) Tryz.underlying40 rfl (by kernel_rfl) ?_)
    | (with_reducible refine at_dst 40 ?_; refine wpList_loadB hbA rfl 40 _ rfl rfl (encNote n) (whole_cells _) Tryz.underlying40 rfl (by kernel_rfl) ?_)
    | (with_reducible refine at_dst 47 ?_; refine wpList_loadB hbA rfl 40 _ rfl rfl (encNote n) (whole_cells _) Tryz.underlying40 rfl (by kernel_rfl) ?_)
    | (with_reducible refine at_dst 66 ?_; refine wpList_loadB hbR rfl 40 _ rfl rfl (encNote (noRef n)) (whole_cells _) Tryz.underlying40 rfl (by kernel_rfl) ?_)
    | (go_at_call 41; refine (refOf_any n _).mono ?_; rintro e w1 ⟨rfl, hb1⟩; have hB := Below.call hB hb1 (Nat.le_refl _); have hbA := hbA.belowAll hb1; have hE := hbA.cell; (try (have hbR := hbR.belowAll hb1)); clear hb1)
    | (go_at_call 74; with_reducible refine (HV.out _).mono ?_; rintro e w1 ⟨rfl, hb1⟩; have hB := Below.call hB hb1 (Nat.le_refl _); have hbA := hbA.belowAll hb1; have hE := hbA.cell; (try (have hbR := hbR.belowAll hb1)); clear hb1)
    | (go_at_call 74; with_reducible refine (HVR.out _).mono ?_; rintro e w1 ⟨rfl, hb1⟩; have hB := Below.call hB hb1 (Nat.le_refl _); have hbA := hbA.belowAll hb1; have hE := hbA.cell; (try (have hbR := hbR.belowAll hb1)); clear hb1)
    | (go_at_call 75; with_reducible refine (HW1.out _).mono ?_; rintro e w1 ⟨rfl, rfl⟩)
    | (go_at_call 75; with_reducible refine (HW2.out _).mono ?_; rintro e w1 ⟨rfl, rfl⟩)
    | (go_at_call 75; with_reducible refine (HW3.out _).mono ?_; rintro e w1 ⟨rfl, rfl⟩)
    | (go_at_call 75; with_reducible refine (HW4.out _).mono ?_; rintro e w1 ⟨rfl, rfl⟩)
    | (go_at_call 76; refine (HO.out _ hB).mono ?_; rintro e w1 ⟨rfl, hb1⟩; have hB := Below.call hB hb1 (Nat.le_refl _); have hbA := hbA.belowAll hb1; have hE := hbA.cell; (try (have hbR := hbR.belowAll hb1)); clear hb1)
    | (with_reducible refine at_storeT 40 ?_; refine wpList_store_last (cs := encNote n) rfl 40 _ _ rfl rfl rfl rfl (by kernel_rfl) rfl (encNote_one _) ?_)
    | (with_reducible refine at_storeT 31 ?_; refine wpList_store_box (BoxAt.new _ _ _) rfl _ _ _ rfl rfl (.agg (encRef ⟨0, 0⟩)) rfl (by kernel_rfl) rfl (one_agg (encRef_one _)) ?_; intro w1 hbR hT; replace hbR := hbR.eqv (cs' := encNote (noRef n)) (by simp [splice, encNote, encRef, noRef, Value.cells]); have hbA := (hbA.alloc _).turn hT (Nat.ne_of_lt hbA.lt); have hB := (hB.alloc hB.size _).trans (hT.below hB.size); have hE := hbA.cell; clear hT)
    | (go_at_call 77; with_reducible refine (HC1.out _ hB).mono ?_; rintro e w1 ⟨rfl, hb1⟩; have hB := Below.call hB hb1 (Nat.le_refl _); have hbA := hbA.belowAll hb1; have hE := hbA.cell; (try (have hbR := hbR.belowAll hb1)); clear hb1)
    | (go_at_call 77; with_reducible refine (HC2.out _ hB).mono ?_; rintro e w1 ⟨rfl, hb1⟩; have hB := Below.call hB hb1 (Nat.le_refl _); have hbA := hbA.belowAll hb1; have hE := hbA.cell; (try (have hbR := hbR.belowAll hb1)); clear hb1))
  all_goals go_ret
  all_goals exact ⟨by first | exact congrArg _ (congrArg Value.bool HE.out.symm) | simp [HE.out, *], hB⟩

set_option maxRecDepth 20000 in
set_option maxHeartbeats 1000000 in
theorem well_5 (D : Nat → Prop) (n : Note) (w : World) (hok : okNote D w n) (ha : validRefB (refN n) = true) (hb : inB n.clock 1 1048576 = true) (hc : inB n.year 0 9999 = true) (hd : ownB n = true) (hk : inB n.kind 1 8 = true) (hz : ¬ n.fix = 0) :
    Calls Tryz.prog 39 #[.agg (encNote n)] w fun e w' => e = .returned (.bool (wellB n)) ∧ Below w.heap.size w w' := by
  have hbA : BoxAt (w.alloc (.cells (encNote n) 40)) w.heap.size 40 (encNote n) := BoxAt.new _ _ _
  have hB : Below w.heap.size w (w.alloc (.cells (encNote n) 40)) := (Below.refl _ _).alloc (Nat.le_refl _) _
  have hE := hbA.cell
  have HV : Hid (∀ W, Calls Tryz.prog 74 #[.agg (encRef (refN n))] W fun e w' => e = .returned (.bool (validRefB (refN n))) ∧ Below W.heap.size W w') := Lib.hid fun W => validRef_any _ W
  have HVR : Hid (∀ W, Calls Tryz.prog 74 #[.agg #[vi n.ref.bench, vi n.ref.num]] W fun e w' => e = .returned (.bool (validRefB n.ref)) ∧ Below W.heap.size W w') := Lib.hid fun W => validRef_any _ W
  have HW1 : Hid (∀ W, Calls Tryz.prog 75 #[.int .i64 n.clock, .int .i64 1, .int .i64 1048576] W fun e w' => e = .returned (.bool (inB n.clock 1 1048576)) ∧ W = w') := Lib.hid fun W => within_any _ _ _ W
  have HW2 : Hid (∀ W, Calls Tryz.prog 75 #[.int .i64 n.year, .int .i64 0, .int .i64 9999] W fun e w' => e = .returned (.bool (inB n.year 0 9999)) ∧ W = w') := Lib.hid fun W => within_any _ _ _ W
  have HW3 : Hid (∀ W, Calls Tryz.prog 75 #[.int .i64 n.kind, .int .i64 1, .int .i64 8] W fun e w' => e = .returned (.bool (inB n.kind 1 8)) ∧ W = w') := Lib.hid fun W => within_any _ _ _ W
  have HW4 : Hid (∀ W, Calls Tryz.prog 75 #[.int .i64 n.fix, .int .i64 1, .int .i64 8] W fun e w' => e = .returned (.bool (inB n.fix 1 8)) ∧ W = w') := Lib.hid fun W => within_any _ _ _ W
  have HO : Hid (∀ W, Below w.heap.size w W → Calls Tryz.prog 76 #[.agg (encNote n)] W fun e w' => e = .returned (.bool (ownB n)) ∧ Below W.heap.size W w') := Lib.hid fun W hW => own_any D n W (okNote.ext hok (.of_below hW))
  have HC1 : Hid (∀ W, Below w.heap.size w W → Calls Tryz.prog 77 #[.int .i64 n.kind, .agg (encNote n)] W fun e w' => e = .returned (.bool (contentB n.kind n)) ∧ Below W.heap.size W w') := Lib.hid fun W hW => content_any D _ _ W (okNote.ext hok (.of_below hW))
  have HC2 : Hid (∀ W, Below w.heap.size w W → Calls Tryz.prog 77 #[.int .i64 n.fix, .agg (encNote (noRef n))] W fun e w' => e = .returned (.bool (contentB n.fix (noRef n))) ∧ Below W.heap.size W w') := Lib.hid fun W hW => content_any D _ _ W (okNote_ref0 (okNote.ext hok (.of_below hW)))
  have HE : Hid (wellB n = false) := Lib.hid (by unfold wellB; rw [if_pos (.inl hk)]; simp [ha, hb, hc, hd, hz])
  clear hok
  try simp only [ha, hb, hc, hd, hk] at HV HVR HW1 HW2 HW3 HW4 HO
  try simp only [ha, hb, hc, hd, hk] at HC1
  try simp only [ha, hb, hc, hd, hk] at HC2
  go_enter Tryz.func39, Tryz.ntmps39
  go_wp2_with (first
    | (with_reducible refine at_dst 4 ?_; refine wpList_loadB hbA rfl 40 _ rfl rfl (encNote n) (whole_cells _) Tryz.underlying40 rfl (by kernel_rfl) ?_)
    | (with_reducible refine at_dst 21 ?_; refine wpList_loadB hbA rfl 40 _ rfl rfl (encNote n) (whole_cells _) Tryz.underlying40 rfl (by kernel_rfl) ?_)
    | (with_reducible refine at_dst 40 ?_; refine wpList_loadB hbA rfl 40 _ rfl rfl (encNote n) (whole_cells _) Tryz.underlying40 rfl (by kernel_rfl) ?_)
    | (with_reducible refine at_dst 47 ?_; refine wpList_loadB hbA rfl 40 _ rfl rfl (encNote n) (whole_cells _) Tryz.underlying40 rfl (by kernel_rfl) ?_)
    | (with_reducible refine at_dst 66 ?_; refine wpList_loadB hbR rfl 40 _ rfl rfl (encNote (noRef n)) (whole_cells _) Tryz.underlying40 rfl (by kernel_rfl) ?_)
    | (go_at_call 41; refine (refOf_any n _).mono ?_; rintro e w1 ⟨rfl, hb1⟩; have hB := Below.call hB hb1 (Nat.le_refl _); have hbA := hbA.belowAll hb1; have hE := hbA.cell; (try (have hbR := hbR.belowAll hb1)); clear hb1)
    | (go_at_call 74; with_reducible refine (HV.out _).mono ?_; rintro e w1 ⟨rfl, hb1⟩; have hB := Below.call hB hb1 (Nat.le_refl _); have hbA := hbA.belowAll hb1; have hE := hbA.cell; (try (have hbR := hbR.belowAll hb1)); clear hb1)
    | (go_at_call 74; with_reducible refine (HVR.out _).mono ?_; rintro e w1 ⟨rfl, hb1⟩; have hB := Below.call hB hb1 (Nat.le_refl _); have hbA := hbA.belowAll hb1; have hE := hbA.cell; (try (have hbR := hbR.belowAll hb1)); clear hb1)
    | (go_at_call 75; with_reducible refine (HW1.out _).mono ?_; rintro e w1 ⟨rfl, rfl⟩)
    | (go_at_call 75; with_reducible refine (HW2.out _).mono ?_; rintro e w1 ⟨rfl, rfl⟩)
    | (go_at_call 75; with_reducible refine (HW3.out _).mono ?_; rintro e w1 ⟨rfl, rfl⟩)
    | (go_at_call 75; with_reducible refine (HW4.out _).mono ?_; rintro e w1 ⟨rfl, rfl⟩)
    | (go_at_call 76; refine (HO.out _ hB).mono ?_; rintro e w1 ⟨rfl, hb1⟩; have hB := Below.call hB hb1 (Nat.le_refl _); have hbA := hbA.belowAll hb1; have hE := hbA.cell; (try (have hbR := hbR.belowAll hb1)); clear hb1)
    | (with_reducible refine at_storeT 40 ?_; refine wpList_store_last (cs := encNote n) rfl 40 _ _ rfl rfl rfl rfl (by kernel_rfl) rfl (encNote_one _) ?_)
    | (with_reducible refine at_storeT 31 ?_; refine wpList_store_box (BoxAt.new _ _ _) rfl _ _ _ rfl rfl (.agg (encRef ⟨0, 0⟩)) rfl (by kernel_rfl) rfl (one_agg (encRef_one _)) ?_; intro w1 hbR hT; replace hbR := hbR.eqv (cs' := encNote (noRef n)) (by simp [splice, encNote, encRef, noRef, Value.cells]); have hbA := (hbA.alloc _).turn hT (Nat.ne_of_lt hbA.lt); have hB := (hB.alloc hB.size _).trans (hT.below hB.size); have hE := hbA.cell; clear hT)
    | (go_at_call 77; with_reducible refine (HC1.out _ hB).mono ?_; rintro e w1 ⟨rfl, hb1⟩; have hB := Below.call hB hb1 (Nat.le_refl _); have hbA := hbA.belowAll hb1; have hE := hbA.cell; (try (have hbR := hbR.belowAll hb1)); clear hb1)
    | (go_at_call 77; with_reducible refine (HC2.out _ hB).mono ?_; rintro e w1 ⟨rfl, hb1⟩; have hB := Below.call hB hb1 (Nat.le_refl _); have hbA := hbA.belowAll hb1; have hE := hbA.cell; (try (have hbR := hbR.belowAll hb1)); clear hb1))
  all_goals go_ret
  all_goals exact ⟨by first | exact congrArg _ (congrArg Value.bool HE.out.symm) | simp [HE.out, *], hB⟩

set_option maxRecDepth 20000 in
set_option maxHeartbeats 1000000 in
theorem well_6 (D : Nat → Prop) (n : Note) (w : World) (hok : okNote D w n) (ha : validRefB (refN n) = true) (hb : inB n.clock 1 1048576 = true) (hc : inB n.year 0 9999 = true) (hd : ownB n = true) (hk : inB n.kind 1 8 = true) (hz : n.fix = 0) :
    Calls Tryz.prog 39 #[.agg (encNote n)] w fun e w' => e = .returned (.bool (wellB n)) ∧ Below w.heap.size w w' := by
  have hbA : BoxAt (w.alloc (.cells (encNote n) 40)) w.heap.size 40 (encNote n) := BoxAt.new _ _ _
  have hB : Below w.heap.size w (w.alloc (.cells (encNote n) 40)) := (Below.refl _ _).alloc (Nat.le_refl _) _
  have hE := hbA.cell
  have HV : Hid (∀ W, Calls Tryz.prog 74 #[.agg (encRef (refN n))] W fun e w' => e = .returned (.bool (validRefB (refN n))) ∧ Below W.heap.size W w') := Lib.hid fun W => validRef_any _ W
  have HVR : Hid (∀ W, Calls Tryz.prog 74 #[.agg #[vi n.ref.bench, vi n.ref.num]] W fun e w' => e = .returned (.bool (validRefB n.ref)) ∧ Below W.heap.size W w') := Lib.hid fun W => validRef_any _ W
  have HW1 : Hid (∀ W, Calls Tryz.prog 75 #[.int .i64 n.clock, .int .i64 1, .int .i64 1048576] W fun e w' => e = .returned (.bool (inB n.clock 1 1048576)) ∧ W = w') := Lib.hid fun W => within_any _ _ _ W
  have HW2 : Hid (∀ W, Calls Tryz.prog 75 #[.int .i64 n.year, .int .i64 0, .int .i64 9999] W fun e w' => e = .returned (.bool (inB n.year 0 9999)) ∧ W = w') := Lib.hid fun W => within_any _ _ _ W
  have HW3 : Hid (∀ W, Calls Tryz.prog 75 #[.int .i64 n.kind, .int .i64 1, .int .i64 8] W fun e w' => e = .returned (.bool (inB n.kind 1 8)) ∧ W = w') := Lib.hid fun W => within_any _ _ _ W
  have HW4 : Hid (∀ W, Calls Tryz.prog 75 #[.int .i64 n.fix, .int .i64 1, .int .i64 8] W fun e w' => e = .returned (.bool (inB n.fix 1 8)) ∧ W = w') := Lib.hid fun W => within_any _ _ _ W
  have HO : Hid (∀ W, Below w.heap.size w W → Calls Tryz.prog 76 #[.agg (encNote n)] W fun e w' => e = .returned (.bool (ownB n)) ∧ Below W.heap.size W w') := Lib.hid fun W hW => own_any D n W (okNote.ext hok (.of_below hW))
  have HC1 : Hid (∀ W, Below w.heap.size w W → Calls Tryz.prog 77 #[.int .i64 n.kind, .agg (encNote n)] W fun e w' => e = .returned (.bool (contentB n.kind n)) ∧ Below W.heap.size W w') := Lib.hid fun W hW => content_any D _ _ W (okNote.ext hok (.of_below hW))
  have HC2 : Hid (∀ W, Below w.heap.size w W → Calls Tryz.prog 77 #[.int .i64 n.fix, .agg (encNote (noRef n))] W fun e w' => e = .returned (.bool (contentB n.fix (noRef n))) ∧ Below W.heap.size W w') := Lib.hid fun W hW => content_any D _ _ W (okNote_ref0 (okNote.ext hok (.of_below hW)))
  have HE : Hid (wellB n = contentB n.kind n) := Lib.hid (by unfold wellB; rw [if_pos (.inl hk)]; simp [ha, hb, hc, hd, hz])
  clear hok
  try simp only [ha, hb, hc, hd, hk] at HV HVR HW1 HW2 HW3 HW4 HO
  try simp only [ha, hb, hc, hd, hk] at HC1
  try simp only [ha, hb, hc, hd, hk] at HC2
  go_enter Tryz.func39, Tryz.ntmps39
  go_wp2_with (first
    | (with_reducible refine at_dst 4 ?_; refine wpList_loadB hbA rfl 40 _ rfl rfl (encNote n) (whole_cells _) Tryz.underlying40 rfl (by kernel_rfl) ?_)
    | (with_reducible refine at_dst 21 ?_; refine wpList_loadB hbA rfl 40 _ rfl rfl (encNote n) (whole_cells _) Tryz.underlying40 rfl (by kernel_rfl) ?_)
    | (with_reducible refine at_dst 40 ?_; refine wpList_loadB hbA rfl 40 _ rfl rfl (encNote n) (whole_cells _) Tryz.underlying40 rfl (by kernel_rfl) ?_)
    | (with_reducible refine at_dst 47 ?_; refine wpList_loadB hbA rfl 40 _ rfl rfl (encNote n) (whole_cells _) Tryz.underlying40 rfl (by kernel_rfl) ?_)
    | (with_reducible refine at_dst 66 ?_; refine wpList_loadB hbR rfl 40 _ rfl rfl (encNote (noRef n)) (whole_cells _) Tryz.underlying40 rfl (by kernel_rfl) ?_)
    | (go_at_call 41; refine (refOf_any n _).mono ?_; rintro e w1 ⟨rfl, hb1⟩; have hB := Below.call hB hb1 (Nat.le_refl _); have hbA := hbA.belowAll hb1; have hE := hbA.cell; (try (have hbR := hbR.belowAll hb1)); clear hb1)
    | (go_at_call 74; with_reducible refine (HV.out _).mono ?_; rintro e w1 ⟨rfl, hb1⟩; have hB := Below.call hB hb1 (Nat.le_refl _); have hbA := hbA.belowAll hb1; have hE := hbA.cell; (try (have hbR := hbR.belowAll hb1)); clear hb1)
    | (go_at_call 74; with_reducible refine (HVR.out _).mono ?_; rintro e w1 ⟨rfl, hb1⟩; have hB := Below.call hB hb1 (Nat.le_refl _); have hbA := hbA.belowAll hb1; have hE := hbA.cell; (try (have hbR := hbR.belowAll hb1)); clear hb1)
    | (go_at_call 75; with_reducible refine (HW1.out _).mono ?_; rintro e w1 ⟨rfl, rfl⟩)
    | (go_at_call 75; with_reducible refine (HW2.out _).mono ?_; rintro e w1 ⟨rfl, rfl⟩)
    | (go_at_call 75; with_reducible refine (HW3.out _).mono ?_; rintro e w1 ⟨rfl, rfl⟩)
    | (go_at_call 75; with_reducible refine (HW4.out _).mono ?_; rintro e w1 ⟨rfl, rfl⟩)
    | (go_at_call 76; refine (HO.out _ hB).mono ?_; rintro e w1 ⟨rfl, hb1⟩; have hB := Below.call hB hb1 (Nat.le_refl _); have hbA := hbA.belowAll hb1; have hE := hbA.cell; (try (have hbR := hbR.belowAll hb1)); clear hb1)
    | (with_reducible refine at_storeT 40 ?_; refine wpList_store_last (cs := encNote n) rfl 40 _ _ rfl rfl rfl rfl (by kernel_rfl) rfl (encNote_one _) ?_)
    | (with_reducible refine at_storeT 31 ?_; refine wpList_store_box (BoxAt.new _ _ _) rfl _ _ _ rfl rfl (.agg (encRef ⟨0, 0⟩)) rfl (by kernel_rfl) rfl (one_agg (encRef_one _)) ?_; intro w1 hbR hT; replace hbR := hbR.eqv (cs' := encNote (noRef n)) (by simp [splice, encNote, encRef, noRef, Value.cells]); have hbA := (hbA.alloc _).turn hT (Nat.ne_of_lt hbA.lt); have hB := (hB.alloc hB.size _).trans (hT.below hB.size); have hE := hbA.cell; clear hT)
    | (go_at_call 77; with_reducible refine (HC1.out _ hB).mono ?_; rintro e w1 ⟨rfl, hb1⟩; have hB := Below.call hB hb1 (Nat.le_refl _); have hbA := hbA.belowAll hb1; have hE := hbA.cell; (try (have hbR := hbR.belowAll hb1)); clear hb1)
    | (go_at_call 77; with_reducible refine (HC2.out _ hB).mono ?_; rintro e w1 ⟨rfl, hb1⟩; have hB := Below.call hB hb1 (Nat.le_refl _); have hbA := hbA.belowAll hb1; have hE := hbA.cell; (try (have hbR := hbR.belowAll hb1)); clear hb1))
  all_goals go_ret
  all_goals exact ⟨by first | exact congrArg _ (congrArg Value.bool HE.out.symm) | simp [HE.out, *], hB⟩

set_option maxRecDepth 20000 in
set_option maxHeartbeats 1000000 in
theorem well_7 (D : Nat → Prop) (n : Note) (w : World) (hok : okNote D w n) (ha : validRefB (refN n) = true) (hb : inB n.clock 1 1048576 = true) (hc : inB n.year 0 9999 = true) (hd : ownB n = true) (hk : inB n.kind 1 8 = false) (ht : n.kind = 10) (hz : ¬ n.fix = 0) :
    Calls Tryz.prog 39 #[.agg (encNote n)] w fun e w' => e = .returned (.bool (wellB n)) ∧ Below w.heap.size w w' := by
  have hbA : BoxAt (w.alloc (.cells (encNote n) 40)) w.heap.size 40 (encNote n) := BoxAt.new _ _ _
  have hB : Below w.heap.size w (w.alloc (.cells (encNote n) 40)) := (Below.refl _ _).alloc (Nat.le_refl _) _
  have hE := hbA.cell
  have HV : Hid (∀ W, Calls Tryz.prog 74 #[.agg (encRef (refN n))] W fun e w' => e = .returned (.bool (validRefB (refN n))) ∧ Below W.heap.size W w') := Lib.hid fun W => validRef_any _ W
  have HVR : Hid (∀ W, Calls Tryz.prog 74 #[.agg #[vi n.ref.bench, vi n.ref.num]] W fun e w' => e = .returned (.bool (validRefB n.ref)) ∧ Below W.heap.size W w') := Lib.hid fun W => validRef_any _ W
  have HW1 : Hid (∀ W, Calls Tryz.prog 75 #[.int .i64 n.clock, .int .i64 1, .int .i64 1048576] W fun e w' => e = .returned (.bool (inB n.clock 1 1048576)) ∧ W = w') := Lib.hid fun W => within_any _ _ _ W
  have HW2 : Hid (∀ W, Calls Tryz.prog 75 #[.int .i64 n.year, .int .i64 0, .int .i64 9999] W fun e w' => e = .returned (.bool (inB n.year 0 9999)) ∧ W = w') := Lib.hid fun W => within_any _ _ _ W
  have HW3 : Hid (∀ W, Calls Tryz.prog 75 #[.int .i64 10, .int .i64 1, .int .i64 8] W fun e w' => e = .returned (.bool false) ∧ W = w') := Lib.hid fun W => by
    have h := within_any 10 1 8 W; rwa [show inB 10 1 8 = false from by decide] at h
  have HW4 : Hid (∀ W, Calls Tryz.prog 75 #[.int .i64 n.fix, .int .i64 1, .int .i64 8] W fun e w' => e = .returned (.bool (inB n.fix 1 8)) ∧ W = w') := Lib.hid fun W => within_any _ _ _ W
  have HO : Hid (∀ W, Below w.heap.size w W → Calls Tryz.prog 76 #[.agg (encNote n)] W fun e w' => e = .returned (.bool (ownB n)) ∧ Below W.heap.size W w') := Lib.hid fun W hW => own_any D n W (okNote.ext hok (.of_below hW))
  have HC1 : Hid (∀ W, Below w.heap.size w W → Calls Tryz.prog 77 #[.int .i64 n.kind, .agg (encNote n)] W fun e w' => e = .returned (.bool (contentB n.kind n)) ∧ Below W.heap.size W w') := Lib.hid fun W hW => content_any D _ _ W (okNote.ext hok (.of_below hW))
  have HC2 : Hid (∀ W, Below w.heap.size w W → Calls Tryz.prog 77 #[.int .i64 n.fix, .agg (encNote (noRef n))] W fun e w' => e = .returned (.bool (contentB n.fix (noRef n))) ∧ Below W.heap.size W w') := Lib.hid fun W hW => content_any D _ _ W (okNote_ref0 (okNote.ext hok (.of_below hW)))
  have HE : Hid (wellB n = false) := Lib.hid (by unfold wellB; rw [if_pos (.inr ht)]; simp [ha, hb, hc, hd, hz])
  simp only [ht] at HC1
  clear hok
  try simp only [ha, hb, hc, hd, hk] at HV HVR HW1 HW2 HW4 HO
  try simp only [ha, hb, hc, hd, hk] at HC1
  try simp only [ha, hb, hc, hd, hk] at HC2
  go_enter Tryz.func39, Tryz.ntmps39
  go_wp2_with (first
    | (with_reducible refine at_dst 4 ?_; refine wpList_loadB hbA rfl 40 _ rfl rfl (encNote n) (whole_cells _) Tryz.underlying40 rfl (by kernel_rfl) ?_)
    | (with_reducible refine at_dst 21 ?_; refine wpList_loadB hbA rfl 40 _ rfl rfl (encNote n) (whole_cells _) Tryz.underlying40 rfl (by kernel_rfl) ?_)
    | (with_reducible refine at_dst 40 ?_; refine wpList_loadB hbA rfl 40 _ rfl rfl (encNote n) (whole_cells _) Tryz.underlying40 rfl (by kernel_rfl) ?_)
    | (with_reducible refine at_dst 47 ?_; refine wpList_loadB hbA rfl 40 _ rfl rfl (encNote n) (whole_cells _) Tryz.underlying40 rfl (by kernel_rfl) ?_)
    | (with_reducible refine at_dst 66 ?_; refine wpList_loadB hbR rfl 40 _ rfl rfl (encNote (noRef n)) (whole_cells _) Tryz.underlying40 rfl (by kernel_rfl) ?_)
    | (go_at_call 41; refine (refOf_any n _).mono ?_; rintro e w1 ⟨rfl, hb1⟩; have hB := Below.call hB hb1 (Nat.le_refl _); have hbA := hbA.belowAll hb1; have hE := hbA.cell; (try (have hbR := hbR.belowAll hb1)); clear hb1)
    | (go_at_call 74; with_reducible refine (HV.out _).mono ?_; rintro e w1 ⟨rfl, hb1⟩; have hB := Below.call hB hb1 (Nat.le_refl _); have hbA := hbA.belowAll hb1; have hE := hbA.cell; (try (have hbR := hbR.belowAll hb1)); clear hb1)
    | (go_at_call 74; with_reducible refine (HVR.out _).mono ?_; rintro e w1 ⟨rfl, hb1⟩; have hB := Below.call hB hb1 (Nat.le_refl _); have hbA := hbA.belowAll hb1; have hE := hbA.cell; (try (have hbR := hbR.belowAll hb1)); clear hb1)
    | (go_at_call 75; with_reducible refine (HW1.out _).mono ?_; rintro e w1 ⟨rfl, rfl⟩)
    | (go_at_call 75; with_reducible refine (HW2.out _).mono ?_; rintro e w1 ⟨rfl, rfl⟩)
    | (go_at_call 75; with_reducible refine (HW3.out _).mono ?_; rintro e w1 ⟨rfl, rfl⟩)
    | (go_at_call 75; with_reducible refine (HW4.out _).mono ?_; rintro e w1 ⟨rfl, rfl⟩)
    | (go_at_call 76; refine (HO.out _ hB).mono ?_; rintro e w1 ⟨rfl, hb1⟩; have hB := Below.call hB hb1 (Nat.le_refl _); have hbA := hbA.belowAll hb1; have hE := hbA.cell; (try (have hbR := hbR.belowAll hb1)); clear hb1)
    | (with_reducible refine at_storeT 40 ?_; refine wpList_store_last (cs := encNote n) rfl 40 _ _ rfl rfl rfl rfl (by kernel_rfl) rfl (encNote_one _) ?_)
    | (with_reducible refine at_storeT 31 ?_; refine wpList_store_box (BoxAt.new _ _ _) rfl _ _ _ rfl rfl (.agg (encRef ⟨0, 0⟩)) rfl (by kernel_rfl) rfl (one_agg (encRef_one _)) ?_; intro w1 hbR hT; replace hbR := hbR.eqv (cs' := encNote (noRef n)) (by simp [splice, encNote, encRef, noRef, Value.cells]); have hbA := (hbA.alloc _).turn hT (Nat.ne_of_lt hbA.lt); have hB := (hB.alloc hB.size _).trans (hT.below hB.size); have hE := hbA.cell; clear hT)
    | (go_at_call 77; with_reducible refine (HC1.out _ hB).mono ?_; rintro e w1 ⟨rfl, hb1⟩; have hB := Below.call hB hb1 (Nat.le_refl _); have hbA := hbA.belowAll hb1; have hE := hbA.cell; (try (have hbR := hbR.belowAll hb1)); clear hb1)
    | (go_at_call 77; with_reducible refine (HC2.out _ hB).mono ?_; rintro e w1 ⟨rfl, hb1⟩; have hB := Below.call hB hb1 (Nat.le_refl _); have hbA := hbA.belowAll hb1; have hE := hbA.cell; (try (have hbR := hbR.belowAll hb1)); clear hb1))
  all_goals go_ret
  all_goals exact ⟨by first | exact congrArg _ (congrArg Value.bool HE.out.symm) | simp [HE.out, *], hB⟩

set_option maxRecDepth 20000 in
set_option maxHeartbeats 1000000 in
theorem well_8 (D : Nat → Prop) (n : Note) (w : World) (hok : okNote D w n) (ha : validRefB (refN n) = true) (hb : inB n.clock 1 1048576 = true) (hc : inB n.year 0 9999 = true) (hd : ownB n = true) (hk : inB n.kind 1 8 = false) (ht : n.kind = 10) (hz : n.fix = 0) :
    Calls Tryz.prog 39 #[.agg (encNote n)] w fun e w' => e = .returned (.bool (wellB n)) ∧ Below w.heap.size w w' := by
  have hbA : BoxAt (w.alloc (.cells (encNote n) 40)) w.heap.size 40 (encNote n) := BoxAt.new _ _ _
  have hB : Below w.heap.size w (w.alloc (.cells (encNote n) 40)) := (Below.refl _ _).alloc (Nat.le_refl _) _
  have hE := hbA.cell
  have HV : Hid (∀ W, Calls Tryz.prog 74 #[.agg (encRef (refN n))] W fun e w' => e = .returned (.bool (validRefB (refN n))) ∧ Below W.heap.size W w') := Lib.hid fun W => validRef_any _ W
  have HVR : Hid (∀ W, Calls Tryz.prog 74 #[.agg #[vi n.ref.bench, vi n.ref.num]] W fun e w' => e = .returned (.bool (validRefB n.ref)) ∧ Below W.heap.size W w') := Lib.hid fun W => validRef_any _ W
  have HW1 : Hid (∀ W, Calls Tryz.prog 75 #[.int .i64 n.clock, .int .i64 1, .int .i64 1048576] W fun e w' => e = .returned (.bool (inB n.clock 1 1048576)) ∧ W = w') := Lib.hid fun W => within_any _ _ _ W
  have HW2 : Hid (∀ W, Calls Tryz.prog 75 #[.int .i64 n.year, .int .i64 0, .int .i64 9999] W fun e w' => e = .returned (.bool (inB n.year 0 9999)) ∧ W = w') := Lib.hid fun W => within_any _ _ _ W
  have HW3 : Hid (∀ W, Calls Tryz.prog 75 #[.int .i64 10, .int .i64 1, .int .i64 8] W fun e w' => e = .returned (.bool false) ∧ W = w') := Lib.hid fun W => by
    have h := within_any 10 1 8 W; rwa [show inB 10 1 8 = false from by decide] at h
  have HW4 : Hid (∀ W, Calls Tryz.prog 75 #[.int .i64 n.fix, .int .i64 1, .int .i64 8] W fun e w' => e = .returned (.bool (inB n.fix 1 8)) ∧ W = w') := Lib.hid fun W => within_any _ _ _ W
  have HO : Hid (∀ W, Below w.heap.size w W → Calls Tryz.prog 76 #[.agg (encNote n)] W fun e w' => e = .returned (.bool (ownB n)) ∧ Below W.heap.size W w') := Lib.hid fun W hW => own_any D n W (okNote.ext hok (.of_below hW))
  have HC1 : Hid (∀ W, Below w.heap.size w W → Calls Tryz.prog 77 #[.int .i64 n.kind, .agg (encNote n)] W fun e w' => e = .returned (.bool (contentB n.kind n)) ∧ Below W.heap.size W w') := Lib.hid fun W hW => content_any D _ _ W (okNote.ext hok (.of_below hW))
  have HC2 : Hid (∀ W, Below w.heap.size w W → Calls Tryz.prog 77 #[.int .i64 n.fix, .agg (encNote (noRef n))] W fun e w' => e = .returned (.bool (contentB n.fix (noRef n))) ∧ Below W.heap.size W w') := Lib.hid fun W hW => content_any D _ _ W (okNote_ref0 (okNote.ext hok (.of_below hW)))
  have HE : Hid (wellB n = contentB n.kind n) := Lib.hid (by unfold wellB; rw [if_pos (.inr ht)]; simp [ha, hb, hc, hd, hz])
  simp only [ht] at HC1
  clear hok
  try simp only [ha, hb, hc, hd, hk] at HV HVR HW1 HW2 HW4 HO
  try simp only [ha, hb, hc, hd, hk] at HC1
  try simp only [ha, hb, hc, hd, hk] at HC2
  go_enter Tryz.func39, Tryz.ntmps39
  go_wp2_with (first
    | (with_reducible refine at_dst 4 ?_; refine wpList_loadB hbA rfl 40 _ rfl rfl (encNote n) (whole_cells _) Tryz.underlying40 rfl (by kernel_rfl) ?_)
    | (with_reducible refine at_dst 21 ?_; refine wpList_loadB hbA rfl 40 _ rfl rfl (encNote n) (whole_cells _) Tryz.underlying40 rfl (by kernel_rfl) ?_)
    | (with_reducible refine at_dst 40 ?_; refine wpList_loadB hbA rfl 40 _ rfl rfl (encNote n) (whole_cells _) Tryz.underlying40 rfl (by kernel_rfl) ?_)
    | (with_reducible refine at_dst 47 ?_; refine wpList_loadB hbA rfl 40 _ rfl rfl (encNote n) (whole_cells _) Tryz.underlying40 rfl (by kernel_rfl) ?_)
    | (with_reducible refine at_dst 66 ?_; refine wpList_loadB hbR rfl 40 _ rfl rfl (encNote (noRef n)) (whole_cells _) Tryz.underlying40 rfl (by kernel_rfl) ?_)
    | (go_at_call 41; refine (refOf_any n _).mono ?_; rintro e w1 ⟨rfl, hb1⟩; have hB := Below.call hB hb1 (Nat.le_refl _); have hbA := hbA.belowAll hb1; have hE := hbA.cell; (try (have hbR := hbR.belowAll hb1)); clear hb1)
    | (go_at_call 74; with_reducible refine (HV.out _).mono ?_; rintro e w1 ⟨rfl, hb1⟩; have hB := Below.call hB hb1 (Nat.le_refl _); have hbA := hbA.belowAll hb1; have hE := hbA.cell; (try (have hbR := hbR.belowAll hb1)); clear hb1)
    | (go_at_call 74; with_reducible refine (HVR.out _).mono ?_; rintro e w1 ⟨rfl, hb1⟩; have hB := Below.call hB hb1 (Nat.le_refl _); have hbA := hbA.belowAll hb1; have hE := hbA.cell; (try (have hbR := hbR.belowAll hb1)); clear hb1)
    | (go_at_call 75; with_reducible refine (HW1.out _).mono ?_; rintro e w1 ⟨rfl, rfl⟩)
    | (go_at_call 75; with_reducible refine (HW2.out _).mono ?_; rintro e w1 ⟨rfl, rfl⟩)
    | (go_at_call 75; with_reducible refine (HW3.out _).mono ?_; rintro e w1 ⟨rfl, rfl⟩)
    | (go_at_call 75; with_reducible refine (HW4.out _).mono ?_; rintro e w1 ⟨rfl, rfl⟩)
    | (go_at_call 76; refine (HO.out _ hB).mono ?_; rintro e w1 ⟨rfl, hb1⟩; have hB := Below.call hB hb1 (Nat.le_refl _); have hbA := hbA.belowAll hb1; have hE := hbA.cell; (try (have hbR := hbR.belowAll hb1)); clear hb1)
    | (with_reducible refine at_storeT 40 ?_; refine wpList_store_last (cs := encNote n) rfl 40 _ _ rfl rfl rfl rfl (by kernel_rfl) rfl (encNote_one _) ?_)
    | (with_reducible refine at_storeT 31 ?_; refine wpList_store_box (BoxAt.new _ _ _) rfl _ _ _ rfl rfl (.agg (encRef ⟨0, 0⟩)) rfl (by kernel_rfl) rfl (one_agg (encRef_one _)) ?_; intro w1 hbR hT; replace hbR := hbR.eqv (cs' := encNote (noRef n)) (by simp [splice, encNote, encRef, noRef, Value.cells]); have hbA := (hbA.alloc _).turn hT (Nat.ne_of_lt hbA.lt); have hB := (hB.alloc hB.size _).trans (hT.below hB.size); have hE := hbA.cell; clear hT)
    | (go_at_call 77; with_reducible refine (HC1.out _ hB).mono ?_; rintro e w1 ⟨rfl, hb1⟩; have hB := Below.call hB hb1 (Nat.le_refl _); have hbA := hbA.belowAll hb1; have hE := hbA.cell; (try (have hbR := hbR.belowAll hb1)); clear hb1)
    | (go_at_call 77; with_reducible refine (HC2.out _ hB).mono ?_; rintro e w1 ⟨rfl, hb1⟩; have hB := Below.call hB hb1 (Nat.le_refl _); have hbA := hbA.belowAll hb1; have hE := hbA.cell; (try (have hbR := hbR.belowAll hb1)); clear hb1))
  all_goals go_ret
  all_goals exact ⟨by first | exact congrArg _ (congrArg Value.bool HE.out.symm) | simp [HE.out, *], hB⟩

set_option maxRecDepth 20000 in
set_option maxHeartbeats 1000000 in
theorem well_9 (D : Nat → Prop) (n : Note) (w : World) (hok : okNote D w n) (ha : validRefB (refN n) = true) (hb : inB n.clock 1 1048576 = true) (hc : inB n.year 0 9999 = true) (hd : ownB n = true) (hk : inB n.kind 1 8 = false) (ht : ¬ n.kind = 10) (hq : ¬ n.kind = 9) :
    Calls Tryz.prog 39 #[.agg (encNote n)] w fun e w' => e = .returned (.bool (wellB n)) ∧ Below w.heap.size w w' := by
  have hbA : BoxAt (w.alloc (.cells (encNote n) 40)) w.heap.size 40 (encNote n) := BoxAt.new _ _ _
  have hB : Below w.heap.size w (w.alloc (.cells (encNote n) 40)) := (Below.refl _ _).alloc (Nat.le_refl _) _
  have hE := hbA.cell
  have HV : Hid (∀ W, Calls Tryz.prog 74 #[.agg (encRef (refN n))] W fun e w' => e = .returned (.bool (validRefB (refN n))) ∧ Below W.heap.size W w') := Lib.hid fun W => validRef_any _ W
  have HVR : Hid (∀ W, Calls Tryz.prog 74 #[.agg #[vi n.ref.bench, vi n.ref.num]] W fun e w' => e = .returned (.bool (validRefB n.ref)) ∧ Below W.heap.size W w') := Lib.hid fun W => validRef_any _ W
  have HW1 : Hid (∀ W, Calls Tryz.prog 75 #[.int .i64 n.clock, .int .i64 1, .int .i64 1048576] W fun e w' => e = .returned (.bool (inB n.clock 1 1048576)) ∧ W = w') := Lib.hid fun W => within_any _ _ _ W
  have HW2 : Hid (∀ W, Calls Tryz.prog 75 #[.int .i64 n.year, .int .i64 0, .int .i64 9999] W fun e w' => e = .returned (.bool (inB n.year 0 9999)) ∧ W = w') := Lib.hid fun W => within_any _ _ _ W
  have HW3 : Hid (∀ W, Calls Tryz.prog 75 #[.int .i64 n.kind, .int .i64 1, .int .i64 8] W fun e w' => e = .returned (.bool (inB n.kind 1 8)) ∧ W = w') := Lib.hid fun W => within_any _ _ _ W
  have HW4 : Hid (∀ W, Calls Tryz.prog 75 #[.int .i64 n.fix, .int .i64 1, .int .i64 8] W fun e w' => e = .returned (.bool (inB n.fix 1 8)) ∧ W = w') := Lib.hid fun W => within_any _ _ _ W
  have HO : Hid (∀ W, Below w.heap.size w W → Calls Tryz.prog 76 #[.agg (encNote n)] W fun e w' => e = .returned (.bool (ownB n)) ∧ Below W.heap.size W w') := Lib.hid fun W hW => own_any D n W (okNote.ext hok (.of_below hW))
  have HC1 : Hid (∀ W, Below w.heap.size w W → Calls Tryz.prog 77 #[.int .i64 n.kind, .agg (encNote n)] W fun e w' => e = .returned (.bool (contentB n.kind n)) ∧ Below W.heap.size W w') := Lib.hid fun W hW => content_any D _ _ W (okNote.ext hok (.of_below hW))
  have HC2 : Hid (∀ W, Below w.heap.size w W → Calls Tryz.prog 77 #[.int .i64 n.fix, .agg (encNote (noRef n))] W fun e w' => e = .returned (.bool (contentB n.fix (noRef n))) ∧ Below W.heap.size W w') := Lib.hid fun W hW => content_any D _ _ W (okNote_ref0 (okNote.ext hok (.of_below hW)))
  have HE : Hid (wellB n = false) := Lib.hid (by unfold wellB; rw [if_neg (by simp [hk, ht]), if_neg hq]; simp [ha, hb, hc, hd])
  clear hok
  try simp only [ha, hb, hc, hd, hk] at HV HVR HW1 HW2 HW3 HW4 HO
  try simp only [ha, hb, hc, hd, hk] at HC1
  try simp only [ha, hb, hc, hd, hk] at HC2
  go_enter Tryz.func39, Tryz.ntmps39
  go_wp2_with (first
    | (with_reducible refine at_dst 4 ?_; refine wpList_loadB hbA rfl 40 _ rfl rfl (encNote n) (whole_cells _) Tryz.underlying40 rfl (by kernel_rfl) ?_)
    | (with_reducible refine at_dst 21 ?_; refine wpList_loadB hbA rfl 40 _ rfl rfl (encNote n) (whole_cells _) Tryz.underlying40 rfl (by kernel_rfl) ?_)
    | (with_reducible refine at_dst 40 ?_; refine wpList_loadB hbA rfl 40 _ rfl rfl (encNote n) (whole_cells _) Tryz.underlying40 rfl (by kernel_rfl) ?_)
    | (with_reducible refine at_dst 47 ?_; refine wpList_loadB hbA rfl 40 _ rfl rfl (encNote n) (whole_cells _) Tryz.underlying40 rfl (by kernel_rfl) ?_)
    | (with_reducible refine at_dst 66 ?_; refine wpList_loadB hbR rfl 40 _ rfl rfl (encNote (noRef n)) (whole_cells _) Tryz.underlying40 rfl (by kernel_rfl) ?_)
    | (go_at_call 41; refine (refOf_any n _).mono ?_; rintro e w1 ⟨rfl, hb1⟩; have hB := Below.call hB hb1 (Nat.le_refl _); have hbA := hbA.belowAll hb1; have hE := hbA.cell; (try (have hbR := hbR.belowAll hb1)); clear hb1)
    | (go_at_call 74; with_reducible refine (HV.out _).mono ?_; rintro e w1 ⟨rfl, hb1⟩; have hB := Below.call hB hb1 (Nat.le_refl _); have hbA := hbA.belowAll hb1; have hE := hbA.cell; (try (have hbR := hbR.belowAll hb1)); clear hb1)
    | (go_at_call 74; with_reducible refine (HVR.out _).mono ?_; rintro e w1 ⟨rfl, hb1⟩; have hB := Below.call hB hb1 (Nat.le_refl _); have hbA := hbA.belowAll hb1; have hE := hbA.cell; (try (have hbR := hbR.belowAll hb1)); clear hb1)
    | (go_at_call 75; with_reducible refine (HW1.out _).mono ?_; rintro e w1 ⟨rfl, rfl⟩)
    | (go_at_call 75; with_reducible refine (HW2.out _).mono ?_; rintro e w1 ⟨rfl, rfl⟩)
    | (go_at_call 75; with_reducible refine (HW3.out _).mono ?_; rintro e w1 ⟨rfl, rfl⟩)
    | (go_at_call 75; with_reducible refine (HW4.out _).mono ?_; rintro e w1 ⟨rfl, rfl⟩)
    | (go_at_call 76; refine (HO.out _ hB).mono ?_; rintro e w1 ⟨rfl, hb1⟩; have hB := Below.call hB hb1 (Nat.le_refl _); have hbA := hbA.belowAll hb1; have hE := hbA.cell; (try (have hbR := hbR.belowAll hb1)); clear hb1)
    | (with_reducible refine at_storeT 40 ?_; refine wpList_store_last (cs := encNote n) rfl 40 _ _ rfl rfl rfl rfl (by kernel_rfl) rfl (encNote_one _) ?_)
    | (with_reducible refine at_storeT 31 ?_; refine wpList_store_box (BoxAt.new _ _ _) rfl _ _ _ rfl rfl (.agg (encRef ⟨0, 0⟩)) rfl (by kernel_rfl) rfl (one_agg (encRef_one _)) ?_; intro w1 hbR hT; replace hbR := hbR.eqv (cs' := encNote (noRef n)) (by simp [splice, encNote, encRef, noRef, Value.cells]); have hbA := (hbA.alloc _).turn hT (Nat.ne_of_lt hbA.lt); have hB := (hB.alloc hB.size _).trans (hT.below hB.size); have hE := hbA.cell; clear hT)
    | (go_at_call 77; with_reducible refine (HC1.out _ hB).mono ?_; rintro e w1 ⟨rfl, hb1⟩; have hB := Below.call hB hb1 (Nat.le_refl _); have hbA := hbA.belowAll hb1; have hE := hbA.cell; (try (have hbR := hbR.belowAll hb1)); clear hb1)
    | (go_at_call 77; with_reducible refine (HC2.out _ hB).mono ?_; rintro e w1 ⟨rfl, hb1⟩; have hB := Below.call hB hb1 (Nat.le_refl _); have hbA := hbA.belowAll hb1; have hE := hbA.cell; (try (have hbR := hbR.belowAll hb1)); clear hb1))
  all_goals go_ret
  all_goals exact ⟨by first | exact congrArg _ (congrArg Value.bool HE.out.symm) | simp [HE.out, *], hB⟩

set_option maxRecDepth 20000 in
set_option maxHeartbeats 1000000 in
theorem well_10 (D : Nat → Prop) (n : Note) (w : World) (hok : okNote D w n) (ha : validRefB (refN n) = true) (hb : inB n.clock 1 1048576 = true) (hc : inB n.year 0 9999 = true) (hd : ownB n = true) (hk : inB n.kind 1 8 = false) (ht : ¬ n.kind = 10) (hq : n.kind = 9) (hf : inB n.fix 1 8 = false) :
    Calls Tryz.prog 39 #[.agg (encNote n)] w fun e w' => e = .returned (.bool (wellB n)) ∧ Below w.heap.size w w' := by
  have hbA : BoxAt (w.alloc (.cells (encNote n) 40)) w.heap.size 40 (encNote n) := BoxAt.new _ _ _
  have hB : Below w.heap.size w (w.alloc (.cells (encNote n) 40)) := (Below.refl _ _).alloc (Nat.le_refl _) _
  have hE := hbA.cell
  have HV : Hid (∀ W, Calls Tryz.prog 74 #[.agg (encRef (refN n))] W fun e w' => e = .returned (.bool (validRefB (refN n))) ∧ Below W.heap.size W w') := Lib.hid fun W => validRef_any _ W
  have HVR : Hid (∀ W, Calls Tryz.prog 74 #[.agg #[vi n.ref.bench, vi n.ref.num]] W fun e w' => e = .returned (.bool (validRefB n.ref)) ∧ Below W.heap.size W w') := Lib.hid fun W => validRef_any _ W
  have HW1 : Hid (∀ W, Calls Tryz.prog 75 #[.int .i64 n.clock, .int .i64 1, .int .i64 1048576] W fun e w' => e = .returned (.bool (inB n.clock 1 1048576)) ∧ W = w') := Lib.hid fun W => within_any _ _ _ W
  have HW2 : Hid (∀ W, Calls Tryz.prog 75 #[.int .i64 n.year, .int .i64 0, .int .i64 9999] W fun e w' => e = .returned (.bool (inB n.year 0 9999)) ∧ W = w') := Lib.hid fun W => within_any _ _ _ W
  have HW3 : Hid (∀ W, Calls Tryz.prog 75 #[.int .i64 9, .int .i64 1, .int .i64 8] W fun e w' => e = .returned (.bool false) ∧ W = w') := Lib.hid fun W => by
    have h := within_any 9 1 8 W; rwa [show inB 9 1 8 = false from by decide] at h
  have HW4 : Hid (∀ W, Calls Tryz.prog 75 #[.int .i64 n.fix, .int .i64 1, .int .i64 8] W fun e w' => e = .returned (.bool (inB n.fix 1 8)) ∧ W = w') := Lib.hid fun W => within_any _ _ _ W
  have HO : Hid (∀ W, Below w.heap.size w W → Calls Tryz.prog 76 #[.agg (encNote n)] W fun e w' => e = .returned (.bool (ownB n)) ∧ Below W.heap.size W w') := Lib.hid fun W hW => own_any D n W (okNote.ext hok (.of_below hW))
  have HC1 : Hid (∀ W, Below w.heap.size w W → Calls Tryz.prog 77 #[.int .i64 n.kind, .agg (encNote n)] W fun e w' => e = .returned (.bool (contentB n.kind n)) ∧ Below W.heap.size W w') := Lib.hid fun W hW => content_any D _ _ W (okNote.ext hok (.of_below hW))
  have HC2 : Hid (∀ W, Below w.heap.size w W → Calls Tryz.prog 77 #[.int .i64 n.fix, .agg (encNote (noRef n))] W fun e w' => e = .returned (.bool (contentB n.fix (noRef n))) ∧ Below W.heap.size W w') := Lib.hid fun W hW => content_any D _ _ W (okNote_ref0 (okNote.ext hok (.of_below hW)))
  have HE : Hid (wellB n = false) := Lib.hid (by unfold wellB; rw [if_neg (by simp [hk, ht]), if_pos hq]; simp [ha, hb, hc, hd, hf])
  clear hok
  try simp only [ha, hb, hc, hd, hk, hf] at HV HVR HW1 HW2 HW4 HO
  try simp only [ha, hb, hc, hd, hk, hf] at HC1
  try simp only [ha, hb, hc, hd, hk, hf] at HC2
  go_enter Tryz.func39, Tryz.ntmps39
  go_wp2_with (first
    | (with_reducible refine at_dst 4 ?_; refine wpList_loadB hbA rfl 40 _ rfl rfl (encNote n) (whole_cells _) Tryz.underlying40 rfl (by kernel_rfl) ?_)
    | (with_reducible refine at_dst 21 ?_; refine wpList_loadB hbA rfl 40 _ rfl rfl (encNote n) (whole_cells _) Tryz.underlying40 rfl (by kernel_rfl) ?_)
    | (with_reducible refine at_dst 40 ?_; refine wpList_loadB hbA rfl 40 _ rfl rfl (encNote n) (whole_cells _) Tryz.underlying40 rfl (by kernel_rfl) ?_)
    | (with_reducible refine at_dst 47 ?_; refine wpList_loadB hbA rfl 40 _ rfl rfl (encNote n) (whole_cells _) Tryz.underlying40 rfl (by kernel_rfl) ?_)
    | (with_reducible refine at_dst 66 ?_; refine wpList_loadB hbR rfl 40 _ rfl rfl (encNote (noRef n)) (whole_cells _) Tryz.underlying40 rfl (by kernel_rfl) ?_)
    | (go_at_call 41; refine (refOf_any n _).mono ?_; rintro e w1 ⟨rfl, hb1⟩; have hB := Below.call hB hb1 (Nat.le_refl _); have hbA := hbA.belowAll hb1; have hE := hbA.cell; (try (have hbR := hbR.belowAll hb1)); clear hb1)
    | (go_at_call 74; with_reducible refine (HV.out _).mono ?_; rintro e w1 ⟨rfl, hb1⟩; have hB := Below.call hB hb1 (Nat.le_refl _); have hbA := hbA.belowAll hb1; have hE := hbA.cell; (try (have hbR := hbR.belowAll hb1)); clear hb1)
    | (go_at_call 74; with_reducible refine (HVR.out _).mono ?_; rintro e w1 ⟨rfl, hb1⟩; have hB := Below.call hB hb1 (Nat.le_refl _); have hbA := hbA.belowAll hb1; have hE := hbA.cell; (try (have hbR := hbR.belowAll hb1)); clear hb1)
    | (go_at_call 75; with_reducible refine (HW1.out _).mono ?_; rintro e w1 ⟨rfl, rfl⟩)
    | (go_at_call 75; with_reducible refine (HW2.out _).mono ?_; rintro e w1 ⟨rfl, rfl⟩)
    | (go_at_call 75; with_reducible refine (HW3.out _).mono ?_; rintro e w1 ⟨rfl, rfl⟩)
    | (go_at_call 75; with_reducible refine (HW4.out _).mono ?_; rintro e w1 ⟨rfl, rfl⟩)
    | (go_at_call 76; refine (HO.out _ hB).mono ?_; rintro e w1 ⟨rfl, hb1⟩; have hB := Below.call hB hb1 (Nat.le_refl _); have hbA := hbA.belowAll hb1; have hE := hbA.cell; (try (have hbR := hbR.belowAll hb1)); clear hb1)
    | (with_reducible refine at_storeT 40 ?_; refine wpList_store_last (cs := encNote n) rfl 40 _ _ rfl rfl rfl rfl (by kernel_rfl) rfl (encNote_one _) ?_)
    | (with_reducible refine at_storeT 31 ?_; refine wpList_store_box (BoxAt.new _ _ _) rfl _ _ _ rfl rfl (.agg (encRef ⟨0, 0⟩)) rfl (by kernel_rfl) rfl (one_agg (encRef_one _)) ?_; intro w1 hbR hT; replace hbR := hbR.eqv (cs' := encNote (noRef n)) (by simp [splice, encNote, encRef, noRef, Value.cells]); have hbA := (hbA.alloc _).turn hT (Nat.ne_of_lt hbA.lt); have hB := (hB.alloc hB.size _).trans (hT.below hB.size); have hE := hbA.cell; clear hT)
    | (go_at_call 77; with_reducible refine (HC1.out _ hB).mono ?_; rintro e w1 ⟨rfl, hb1⟩; have hB := Below.call hB hb1 (Nat.le_refl _); have hbA := hbA.belowAll hb1; have hE := hbA.cell; (try (have hbR := hbR.belowAll hb1)); clear hb1)
    | (go_at_call 77; with_reducible refine (HC2.out _ hB).mono ?_; rintro e w1 ⟨rfl, hb1⟩; have hB := Below.call hB hb1 (Nat.le_refl _); have hbA := hbA.belowAll hb1; have hE := hbA.cell; (try (have hbR := hbR.belowAll hb1)); clear hb1))
  all_goals go_ret
  all_goals exact ⟨by first | exact congrArg _ (congrArg Value.bool HE.out.symm) | simp [HE.out, *], hB⟩

set_option maxRecDepth 20000 in
set_option maxHeartbeats 1000000 in
theorem well_11 (D : Nat → Prop) (n : Note) (w : World) (hok : okNote D w n) (ha : validRefB (refN n) = true) (hb : inB n.clock 1 1048576 = true) (hc : inB n.year 0 9999 = true) (hd : ownB n = true) (hk : inB n.kind 1 8 = false) (ht : ¬ n.kind = 10) (hq : n.kind = 9) (hf : inB n.fix 1 8 = true) (hg : n.fix = 5) :
    Calls Tryz.prog 39 #[.agg (encNote n)] w fun e w' => e = .returned (.bool (wellB n)) ∧ Below w.heap.size w w' := by
  have hbA : BoxAt (w.alloc (.cells (encNote n) 40)) w.heap.size 40 (encNote n) := BoxAt.new _ _ _
  have hB : Below w.heap.size w (w.alloc (.cells (encNote n) 40)) := (Below.refl _ _).alloc (Nat.le_refl _) _
  have hE := hbA.cell
  have HV : Hid (∀ W, Calls Tryz.prog 74 #[.agg (encRef (refN n))] W fun e w' => e = .returned (.bool (validRefB (refN n))) ∧ Below W.heap.size W w') := Lib.hid fun W => validRef_any _ W
  have HVR : Hid (∀ W, Calls Tryz.prog 74 #[.agg #[vi n.ref.bench, vi n.ref.num]] W fun e w' => e = .returned (.bool (validRefB n.ref)) ∧ Below W.heap.size W w') := Lib.hid fun W => validRef_any _ W
  have HW1 : Hid (∀ W, Calls Tryz.prog 75 #[.int .i64 n.clock, .int .i64 1, .int .i64 1048576] W fun e w' => e = .returned (.bool (inB n.clock 1 1048576)) ∧ W = w') := Lib.hid fun W => within_any _ _ _ W
  have HW2 : Hid (∀ W, Calls Tryz.prog 75 #[.int .i64 n.year, .int .i64 0, .int .i64 9999] W fun e w' => e = .returned (.bool (inB n.year 0 9999)) ∧ W = w') := Lib.hid fun W => within_any _ _ _ W
  have HW3 : Hid (∀ W, Calls Tryz.prog 75 #[.int .i64 9, .int .i64 1, .int .i64 8] W fun e w' => e = .returned (.bool false) ∧ W = w') := Lib.hid fun W => by
    have h := within_any 9 1 8 W; rwa [show inB 9 1 8 = false from by decide] at h
  have HW4 : Hid (∀ W, Calls Tryz.prog 75 #[.int .i64 5, .int .i64 1, .int .i64 8] W fun e w' => e = .returned (.bool true) ∧ W = w') := Lib.hid fun W => by
    have h := within_any 5 1 8 W; rwa [show inB 5 1 8 = true from by decide] at h
  have HO : Hid (∀ W, Below w.heap.size w W → Calls Tryz.prog 76 #[.agg (encNote n)] W fun e w' => e = .returned (.bool (ownB n)) ∧ Below W.heap.size W w') := Lib.hid fun W hW => own_any D n W (okNote.ext hok (.of_below hW))
  have HC1 : Hid (∀ W, Below w.heap.size w W → Calls Tryz.prog 77 #[.int .i64 n.kind, .agg (encNote n)] W fun e w' => e = .returned (.bool (contentB n.kind n)) ∧ Below W.heap.size W w') := Lib.hid fun W hW => content_any D _ _ W (okNote.ext hok (.of_below hW))
  have HC2 : Hid (∀ W, Below w.heap.size w W → Calls Tryz.prog 77 #[.int .i64 n.fix, .agg (encNote (noRef n))] W fun e w' => e = .returned (.bool (contentB n.fix (noRef n))) ∧ Below W.heap.size W w') := Lib.hid fun W hW => content_any D _ _ W (okNote_ref0 (okNote.ext hok (.of_below hW)))
  have HE : Hid (wellB n = false) := Lib.hid (by unfold wellB; rw [if_neg (by simp [hk, ht]), if_pos hq]; simp [ha, hb, hc, hd, hf, hg])
  clear hok
  try simp only [ha, hb, hc, hd, hk, hf] at HV HVR HW1 HW2 HO
  try simp only [ha, hb, hc, hd, hk, hf] at HC1
  try simp only [ha, hb, hc, hd, hk, hf] at HC2
  go_enter Tryz.func39, Tryz.ntmps39
  go_wp2_with (first
    | (with_reducible refine at_dst 4 ?_; refine wpList_loadB hbA rfl 40 _ rfl rfl (encNote n) (whole_cells _) Tryz.underlying40 rfl (by kernel_rfl) ?_)
    | (with_reducible refine at_dst 21 ?_; refine wpList_loadB hbA rfl 40 _ rfl rfl (encNote n) (whole_cells _) Tryz.underlying40 rfl (by kernel_rfl) ?_)
    | (with_reducible refine at_dst 40 ?_; refine wpList_loadB hbA rfl 40 _ rfl rfl (encNote n) (whole_cells _) Tryz.underlying40 rfl (by kernel_rfl) ?_)
    | (with_reducible refine at_dst 47 ?_; refine wpList_loadB hbA rfl 40 _ rfl rfl (encNote n) (whole_cells _) Tryz.underlying40 rfl (by kernel_rfl) ?_)
    | (with_reducible refine at_dst 66 ?_; refine wpList_loadB hbR rfl 40 _ rfl rfl (encNote (noRef n)) (whole_cells _) Tryz.underlying40 rfl (by kernel_rfl) ?_)
    | (go_at_call 41; refine (refOf_any n _).mono ?_; rintro e w1 ⟨rfl, hb1⟩; have hB := Below.call hB hb1 (Nat.le_refl _); have hbA := hbA.belowAll hb1; have hE := hbA.cell; (try (have hbR := hbR.belowAll hb1)); clear hb1)
    | (go_at_call 74; with_reducible refine (HV.out _).mono ?_; rintro e w1 ⟨rfl, hb1⟩; have hB := Below.call hB hb1 (Nat.le_refl _); have hbA := hbA.belowAll hb1; have hE := hbA.cell; (try (have hbR := hbR.belowAll hb1)); clear hb1)
    | (go_at_call 74; with_reducible refine (HVR.out _).mono ?_; rintro e w1 ⟨rfl, hb1⟩; have hB := Below.call hB hb1 (Nat.le_refl _); have hbA := hbA.belowAll hb1; have hE := hbA.cell; (try (have hbR := hbR.belowAll hb1)); clear hb1)
    | (go_at_call 75; with_reducible refine (HW1.out _).mono ?_; rintro e w1 ⟨rfl, rfl⟩)
    | (go_at_call 75; with_reducible refine (HW2.out _).mono ?_; rintro e w1 ⟨rfl, rfl⟩)
    | (go_at_call 75; with_reducible refine (HW3.out _).mono ?_; rintro e w1 ⟨rfl, rfl⟩)
    | (go_at_call 75; with_reducible refine (HW4.out _).mono ?_; rintro e w1 ⟨rfl, rfl⟩)
    | (go_at_call 76; refine (HO.out _ hB).mono ?_; rintro e w1 ⟨rfl, hb1⟩; have hB := Below.call hB hb1 (Nat.le_refl _); have hbA := hbA.belowAll hb1; have hE := hbA.cell; (try (have hbR := hbR.belowAll hb1)); clear hb1)
    | (with_reducible refine at_storeT 40 ?_; refine wpList_store_last (cs := encNote n) rfl 40 _ _ rfl rfl rfl rfl (by kernel_rfl) rfl (encNote_one _) ?_)
    | (with_reducible refine at_storeT 31 ?_; refine wpList_store_box (BoxAt.new _ _ _) rfl _ _ _ rfl rfl (.agg (encRef ⟨0, 0⟩)) rfl (by kernel_rfl) rfl (one_agg (encRef_one _)) ?_; intro w1 hbR hT; replace hbR := hbR.eqv (cs' := encNote (noRef n)) (by simp [splice, encNote, encRef, noRef, Value.cells]); have hbA := (hbA.alloc _).turn hT (Nat.ne_of_lt hbA.lt); have hB := (hB.alloc hB.size _).trans (hT.below hB.size); have hE := hbA.cell; clear hT)
    | (go_at_call 77; with_reducible refine (HC1.out _ hB).mono ?_; rintro e w1 ⟨rfl, hb1⟩; have hB := Below.call hB hb1 (Nat.le_refl _); have hbA := hbA.belowAll hb1; have hE := hbA.cell; (try (have hbR := hbR.belowAll hb1)); clear hb1)
    | (go_at_call 77; with_reducible refine (HC2.out _ hB).mono ?_; rintro e w1 ⟨rfl, hb1⟩; have hB := Below.call hB hb1 (Nat.le_refl _); have hbA := hbA.belowAll hb1; have hE := hbA.cell; (try (have hbR := hbR.belowAll hb1)); clear hb1))
  all_goals go_ret
  all_goals exact ⟨by first | exact congrArg _ (congrArg Value.bool HE.out.symm) | simp [HE.out, *], hB⟩

set_option maxRecDepth 20000 in
set_option maxHeartbeats 1000000 in
theorem well_12 (D : Nat → Prop) (n : Note) (w : World) (hok : okNote D w n) (ha : validRefB (refN n) = true) (hb : inB n.clock 1 1048576 = true) (hc : inB n.year 0 9999 = true) (hd : ownB n = true) (hk : inB n.kind 1 8 = false) (ht : ¬ n.kind = 10) (hq : n.kind = 9) (hf : inB n.fix 1 8 = true) (hg : ¬ n.fix = 5) (hr : validRefB n.ref = false) :
    Calls Tryz.prog 39 #[.agg (encNote n)] w fun e w' => e = .returned (.bool (wellB n)) ∧ Below w.heap.size w w' := by
  have hbA : BoxAt (w.alloc (.cells (encNote n) 40)) w.heap.size 40 (encNote n) := BoxAt.new _ _ _
  have hB : Below w.heap.size w (w.alloc (.cells (encNote n) 40)) := (Below.refl _ _).alloc (Nat.le_refl _) _
  have hE := hbA.cell
  have HV : Hid (∀ W, Calls Tryz.prog 74 #[.agg (encRef (refN n))] W fun e w' => e = .returned (.bool (validRefB (refN n))) ∧ Below W.heap.size W w') := Lib.hid fun W => validRef_any _ W
  have HVR : Hid (∀ W, Calls Tryz.prog 74 #[.agg #[vi n.ref.bench, vi n.ref.num]] W fun e w' => e = .returned (.bool (validRefB n.ref)) ∧ Below W.heap.size W w') := Lib.hid fun W => validRef_any _ W
  have HW1 : Hid (∀ W, Calls Tryz.prog 75 #[.int .i64 n.clock, .int .i64 1, .int .i64 1048576] W fun e w' => e = .returned (.bool (inB n.clock 1 1048576)) ∧ W = w') := Lib.hid fun W => within_any _ _ _ W
  have HW2 : Hid (∀ W, Calls Tryz.prog 75 #[.int .i64 n.year, .int .i64 0, .int .i64 9999] W fun e w' => e = .returned (.bool (inB n.year 0 9999)) ∧ W = w') := Lib.hid fun W => within_any _ _ _ W
  have HW3 : Hid (∀ W, Calls Tryz.prog 75 #[.int .i64 9, .int .i64 1, .int .i64 8] W fun e w' => e = .returned (.bool false) ∧ W = w') := Lib.hid fun W => by
    have h := within_any 9 1 8 W; rwa [show inB 9 1 8 = false from by decide] at h
  have HW4 : Hid (∀ W, Calls Tryz.prog 75 #[.int .i64 n.fix, .int .i64 1, .int .i64 8] W fun e w' => e = .returned (.bool (inB n.fix 1 8)) ∧ W = w') := Lib.hid fun W => within_any _ _ _ W
  have HO : Hid (∀ W, Below w.heap.size w W → Calls Tryz.prog 76 #[.agg (encNote n)] W fun e w' => e = .returned (.bool (ownB n)) ∧ Below W.heap.size W w') := Lib.hid fun W hW => own_any D n W (okNote.ext hok (.of_below hW))
  have HC1 : Hid (∀ W, Below w.heap.size w W → Calls Tryz.prog 77 #[.int .i64 n.kind, .agg (encNote n)] W fun e w' => e = .returned (.bool (contentB n.kind n)) ∧ Below W.heap.size W w') := Lib.hid fun W hW => content_any D _ _ W (okNote.ext hok (.of_below hW))
  have HC2 : Hid (∀ W, Below w.heap.size w W → Calls Tryz.prog 77 #[.int .i64 n.fix, .agg (encNote (noRef n))] W fun e w' => e = .returned (.bool (contentB n.fix (noRef n))) ∧ Below W.heap.size W w') := Lib.hid fun W hW => content_any D _ _ W (okNote_ref0 (okNote.ext hok (.of_below hW)))
  have HE : Hid (wellB n = false) := Lib.hid (by unfold wellB; rw [if_neg (by simp [hk, ht]), if_pos hq]; simp [ha, hb, hc, hd, hf, hg, hr])
  have hne : (n.fix != 5) = true := by simp [hg]
  clear hok
  try simp only [ha, hb, hc, hd, hk, hf, hr] at HV HVR HW1 HW2 HW4 HO
  try simp only [ha, hb, hc, hd, hk, hf, hr] at HC1
  try simp only [ha, hb, hc, hd, hk, hf, hr] at HC2
  go_enter Tryz.func39, Tryz.ntmps39
  go_wp2_with (first
    | (with_reducible refine at_dst 4 ?_; refine wpList_loadB hbA rfl 40 _ rfl rfl (encNote n) (whole_cells _) Tryz.underlying40 rfl (by kernel_rfl) ?_)
    | (with_reducible refine at_dst 21 ?_; refine wpList_loadB hbA rfl 40 _ rfl rfl (encNote n) (whole_cells _) Tryz.underlying40 rfl (by kernel_rfl) ?_)
    | (with_reducible refine at_dst 40 ?_; refine wpList_loadB hbA rfl 40 _ rfl rfl (encNote n) (whole_cells _) Tryz.underlying40 rfl (by kernel_rfl) ?_)
    | (with_reducible refine at_dst 47 ?_; refine wpList_loadB hbA rfl 40 _ rfl rfl (encNote n) (whole_cells _) Tryz.underlying40 rfl (by kernel_rfl) ?_)
    | (with_reducible refine at_dst 66 ?_; refine wpList_loadB hbR rfl 40 _ rfl rfl (encNote (noRef n)) (whole_cells _) Tryz.underlying40 rfl (by kernel_rfl) ?_)
    | (go_at_call 41; refine (refOf_any n _).mono ?_; rintro e w1 ⟨rfl, hb1⟩; have hB := Below.call hB hb1 (Nat.le_refl _); have hbA := hbA.belowAll hb1; have hE := hbA.cell; (try (have hbR := hbR.belowAll hb1)); clear hb1)
    | (go_at_call 74; with_reducible refine (HV.out _).mono ?_; rintro e w1 ⟨rfl, hb1⟩; have hB := Below.call hB hb1 (Nat.le_refl _); have hbA := hbA.belowAll hb1; have hE := hbA.cell; (try (have hbR := hbR.belowAll hb1)); clear hb1)
    | (go_at_call 74; with_reducible refine (HVR.out _).mono ?_; rintro e w1 ⟨rfl, hb1⟩; have hB := Below.call hB hb1 (Nat.le_refl _); have hbA := hbA.belowAll hb1; have hE := hbA.cell; (try (have hbR := hbR.belowAll hb1)); clear hb1)
    | (go_at_call 75; with_reducible refine (HW1.out _).mono ?_; rintro e w1 ⟨rfl, rfl⟩)
    | (go_at_call 75; with_reducible refine (HW2.out _).mono ?_; rintro e w1 ⟨rfl, rfl⟩)
    | (go_at_call 75; with_reducible refine (HW3.out _).mono ?_; rintro e w1 ⟨rfl, rfl⟩)
    | (go_at_call 75; with_reducible refine (HW4.out _).mono ?_; rintro e w1 ⟨rfl, rfl⟩)
    | (go_at_call 76; refine (HO.out _ hB).mono ?_; rintro e w1 ⟨rfl, hb1⟩; have hB := Below.call hB hb1 (Nat.le_refl _); have hbA := hbA.belowAll hb1; have hE := hbA.cell; (try (have hbR := hbR.belowAll hb1)); clear hb1)
    | (with_reducible refine at_storeT 40 ?_; refine wpList_store_last (cs := encNote n) rfl 40 _ _ rfl rfl rfl rfl (by kernel_rfl) rfl (encNote_one _) ?_)
    | (with_reducible refine at_storeT 31 ?_; refine wpList_store_box (BoxAt.new _ _ _) rfl _ _ _ rfl rfl (.agg (encRef ⟨0, 0⟩)) rfl (by kernel_rfl) rfl (one_agg (encRef_one _)) ?_; intro w1 hbR hT; replace hbR := hbR.eqv (cs' := encNote (noRef n)) (by simp [splice, encNote, encRef, noRef, Value.cells]); have hbA := (hbA.alloc _).turn hT (Nat.ne_of_lt hbA.lt); have hB := (hB.alloc hB.size _).trans (hT.below hB.size); have hE := hbA.cell; clear hT)
    | (go_at_call 77; with_reducible refine (HC1.out _ hB).mono ?_; rintro e w1 ⟨rfl, hb1⟩; have hB := Below.call hB hb1 (Nat.le_refl _); have hbA := hbA.belowAll hb1; have hE := hbA.cell; (try (have hbR := hbR.belowAll hb1)); clear hb1)
    | (go_at_call 77; with_reducible refine (HC2.out _ hB).mono ?_; rintro e w1 ⟨rfl, hb1⟩; have hB := Below.call hB hb1 (Nat.le_refl _); have hbA := hbA.belowAll hb1; have hE := hbA.cell; (try (have hbR := hbR.belowAll hb1)); clear hb1))
  all_goals go_ret
  all_goals exact ⟨by first | exact congrArg _ (congrArg Value.bool HE.out.symm) | simp [HE.out, *], hB⟩

set_option maxRecDepth 20000 in
set_option maxHeartbeats 1000000 in
theorem well_13 (D : Nat → Prop) (n : Note) (w : World) (hok : okNote D w n) (ha : validRefB (refN n) = true) (hb : inB n.clock 1 1048576 = true) (hc : inB n.year 0 9999 = true) (hd : ownB n = true) (hk : inB n.kind 1 8 = false) (ht : ¬ n.kind = 10) (hq : n.kind = 9) (hf : inB n.fix 1 8 = true) (hg : ¬ n.fix = 5) (hr : validRefB n.ref = true) :
    Calls Tryz.prog 39 #[.agg (encNote n)] w fun e w' => e = .returned (.bool (wellB n)) ∧ Below w.heap.size w w' := by
  have hbA : BoxAt (w.alloc (.cells (encNote n) 40)) w.heap.size 40 (encNote n) := BoxAt.new _ _ _
  have hB : Below w.heap.size w (w.alloc (.cells (encNote n) 40)) := (Below.refl _ _).alloc (Nat.le_refl _) _
  have hE := hbA.cell
  have HV : Hid (∀ W, Calls Tryz.prog 74 #[.agg (encRef (refN n))] W fun e w' => e = .returned (.bool (validRefB (refN n))) ∧ Below W.heap.size W w') := Lib.hid fun W => validRef_any _ W
  have HVR : Hid (∀ W, Calls Tryz.prog 74 #[.agg #[vi n.ref.bench, vi n.ref.num]] W fun e w' => e = .returned (.bool (validRefB n.ref)) ∧ Below W.heap.size W w') := Lib.hid fun W => validRef_any _ W
  have HW1 : Hid (∀ W, Calls Tryz.prog 75 #[.int .i64 n.clock, .int .i64 1, .int .i64 1048576] W fun e w' => e = .returned (.bool (inB n.clock 1 1048576)) ∧ W = w') := Lib.hid fun W => within_any _ _ _ W
  have HW2 : Hid (∀ W, Calls Tryz.prog 75 #[.int .i64 n.year, .int .i64 0, .int .i64 9999] W fun e w' => e = .returned (.bool (inB n.year 0 9999)) ∧ W = w') := Lib.hid fun W => within_any _ _ _ W
  have HW3 : Hid (∀ W, Calls Tryz.prog 75 #[.int .i64 9, .int .i64 1, .int .i64 8] W fun e w' => e = .returned (.bool false) ∧ W = w') := Lib.hid fun W => by
    have h := within_any 9 1 8 W; rwa [show inB 9 1 8 = false from by decide] at h
  have HW4 : Hid (∀ W, Calls Tryz.prog 75 #[.int .i64 n.fix, .int .i64 1, .int .i64 8] W fun e w' => e = .returned (.bool (inB n.fix 1 8)) ∧ W = w') := Lib.hid fun W => within_any _ _ _ W
  have HO : Hid (∀ W, Below w.heap.size w W → Calls Tryz.prog 76 #[.agg (encNote n)] W fun e w' => e = .returned (.bool (ownB n)) ∧ Below W.heap.size W w') := Lib.hid fun W hW => own_any D n W (okNote.ext hok (.of_below hW))
  have HC1 : Hid (∀ W, Below w.heap.size w W → Calls Tryz.prog 77 #[.int .i64 n.kind, .agg (encNote n)] W fun e w' => e = .returned (.bool (contentB n.kind n)) ∧ Below W.heap.size W w') := Lib.hid fun W hW => content_any D _ _ W (okNote.ext hok (.of_below hW))
  have HC2 : Hid (∀ W, Below w.heap.size w W → Calls Tryz.prog 77 #[.int .i64 n.fix, .agg (encNote (noRef n))] W fun e w' => e = .returned (.bool (contentB n.fix (noRef n))) ∧ Below W.heap.size W w') := Lib.hid fun W hW => content_any D _ _ W (okNote_ref0 (okNote.ext hok (.of_below hW)))
  have HE : Hid (wellB n = contentB n.fix (noRef n)) := Lib.hid (by unfold wellB; rw [if_neg (by simp [hk, ht]), if_pos hq]; simp [ha, hb, hc, hd, hf, hg, hr])
  have hne : (n.fix != 5) = true := by simp [hg]
  clear hok
  try simp only [ha, hb, hc, hd, hk, hf, hr] at HV HVR HW1 HW2 HW4 HO
  try simp only [ha, hb, hc, hd, hk, hf, hr] at HC1
  try simp only [ha, hb, hc, hd, hk, hf, hr] at HC2
  go_enter Tryz.func39, Tryz.ntmps39
  go_wp2_with (first
    | (with_reducible refine at_dst 4 ?_; refine wpList_loadB hbA rfl 40 _ rfl rfl (encNote n) (whole_cells _) Tryz.underlying40 rfl (by kernel_rfl) ?_)
    | (with_reducible refine at_dst 21 ?_; refine wpList_loadB hbA rfl 40 _ rfl rfl (encNote n) (whole_cells _) Tryz.underlying40 rfl (by kernel_rfl) ?_)
    | (with_reducible refine at_dst 40 ?_; refine wpList_loadB hbA rfl 40 _ rfl rfl (encNote n) (whole_cells _) Tryz.underlying40 rfl (by kernel_rfl) ?_)
    | (with_reducible refine at_dst 47 ?_; refine wpList_loadB hbA rfl 40 _ rfl rfl (encNote n) (whole_cells _) Tryz.underlying40 rfl (by kernel_rfl) ?_)
    | (with_reducible refine at_dst 66 ?_; refine wpList_loadB hbR rfl 40 _ rfl rfl (encNote (noRef n)) (whole_cells _) Tryz.underlying40 rfl (by kernel_rfl) ?_)
    | (go_at_call 41; refine (refOf_any n _).mono ?_; rintro e w1 ⟨rfl, hb1⟩; have hB := Below.call hB hb1 (Nat.le_refl _); have hbA := hbA.belowAll hb1; have hE := hbA.cell; (try (have hbR := hbR.belowAll hb1)); clear hb1)
    | (go_at_call 74; with_reducible refine (HV.out _).mono ?_; rintro e w1 ⟨rfl, hb1⟩; have hB := Below.call hB hb1 (Nat.le_refl _); have hbA := hbA.belowAll hb1; have hE := hbA.cell; (try (have hbR := hbR.belowAll hb1)); clear hb1)
    | (go_at_call 74; with_reducible refine (HVR.out _).mono ?_; rintro e w1 ⟨rfl, hb1⟩; have hB := Below.call hB hb1 (Nat.le_refl _); have hbA := hbA.belowAll hb1; have hE := hbA.cell; (try (have hbR := hbR.belowAll hb1)); clear hb1)
    | (go_at_call 75; with_reducible refine (HW1.out _).mono ?_; rintro e w1 ⟨rfl, rfl⟩)
    | (go_at_call 75; with_reducible refine (HW2.out _).mono ?_; rintro e w1 ⟨rfl, rfl⟩)
    | (go_at_call 75; with_reducible refine (HW3.out _).mono ?_; rintro e w1 ⟨rfl, rfl⟩)
    | (go_at_call 75; with_reducible refine (HW4.out _).mono ?_; rintro e w1 ⟨rfl, rfl⟩)
    | (go_at_call 76; refine (HO.out _ hB).mono ?_; rintro e w1 ⟨rfl, hb1⟩; have hB := Below.call hB hb1 (Nat.le_refl _); have hbA := hbA.belowAll hb1; have hE := hbA.cell; (try (have hbR := hbR.belowAll hb1)); clear hb1)
    | (with_reducible refine at_storeT 40 ?_; refine wpList_store_last (cs := encNote n) rfl 40 _ _ rfl rfl rfl rfl (by kernel_rfl) rfl (encNote_one _) ?_)
    | (with_reducible refine at_storeT 31 ?_; refine wpList_store_box (BoxAt.new _ _ _) rfl _ _ _ rfl rfl (.agg (encRef ⟨0, 0⟩)) rfl (by kernel_rfl) rfl (one_agg (encRef_one _)) ?_; intro w1 hbR hT; replace hbR := hbR.eqv (cs' := encNote (noRef n)) (by simp [splice, encNote, encRef, noRef, Value.cells]); have hbA := (hbA.alloc _).turn hT (Nat.ne_of_lt hbA.lt); have hB := (hB.alloc hB.size _).trans (hT.below hB.size); have hE := hbA.cell; clear hT)
    | (go_at_call 77; with_reducible refine (HC1.out _ hB).mono ?_; rintro e w1 ⟨rfl, hb1⟩; have hB := Below.call hB hb1 (Nat.le_refl _); have hbA := hbA.belowAll hb1; have hE := hbA.cell; (try (have hbR := hbR.belowAll hb1)); clear hb1)
    | (go_at_call 77; with_reducible refine (HC2.out _ hB).mono ?_; rintro e w1 ⟨rfl, hb1⟩; have hB := Below.call hB hb1 (Nat.le_refl _); have hbA := hbA.belowAll hb1; have hE := hbA.cell; (try (have hbR := hbR.belowAll hb1)); clear hb1))
  all_goals go_ret
  all_goals exact ⟨by first | exact congrArg _ (congrArg Value.bool HE.out.symm) | simp [HE.out, *], hB⟩

theorem wellFormed_any (D : Nat → Prop) (n : Note) (w : World) (hok : okNote D w n) :
    Calls Tryz.prog 39 #[.agg (encNote n)] w fun e w' => e = .returned (.bool (wellB n)) ∧ Below w.heap.size w w' := by
  rcases ha : validRefB (refN n)
  case false => exact well_1 D n w hok ha
  rcases hb : inB n.clock 1 1048576
  case false => exact well_2 D n w hok ha hb
  rcases hc : inB n.year 0 9999
  case false => exact well_3 D n w hok ha hb hc
  rcases hd : ownB n
  case false => exact well_4 D n w hok ha hb hc hd
  rcases hk : inB n.kind 1 8
  case true =>
    by_cases hz : n.fix = 0
    · exact well_6 D n w hok ha hb hc hd hk hz
    · exact well_5 D n w hok ha hb hc hd hk hz
  by_cases ht : n.kind = 10
  · by_cases hz : n.fix = 0
    · exact well_8 D n w hok ha hb hc hd hk ht hz
    · exact well_7 D n w hok ha hb hc hd hk ht hz
  by_cases hq : n.kind = 9
  case neg => exact well_9 D n w hok ha hb hc hd hk ht hq
  rcases hf : inB n.fix 1 8
  case false => exact well_10 D n w hok ha hb hc hd hk ht hq hf
  by_cases hg : n.fix = 5
  case pos => exact well_11 D n w hok ha hb hc hd hk ht hq hf hg
  rcases hr : validRefB n.ref
  case false => exact well_12 D n w hok ha hb hc hd hk ht hq hf hg hr
  exact well_13 D n w hok ha hb hc hd hk ht hq hf hg hr
end Go.Proofs.YtendmmhfjhgdaaaGreat
