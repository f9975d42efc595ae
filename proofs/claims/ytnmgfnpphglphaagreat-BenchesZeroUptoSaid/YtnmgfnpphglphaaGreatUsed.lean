/-
  The fields that a kind of note uses are as they must be: walked.
  A note is well-formed: walked.
-/
import Derived.Test.YtnmgfnpphglphaaGreatOwn1
import Derived.Test.YtnmgfnpphglphaaGreatBare
set_option maxHeartbeats 16000000
set_option maxRecDepth 100000
section
set_option linter.unusedVariables false
set_option linter.unusedSimpArgs false
namespace Go.Proofs.YtnmgfnpphglphaaGreat
open Go.RowKit
def usedB (kind : Int) (n : Note) : Bool :=
 if kind = 1 then validPiecesB n.data.val 1
 else if kind = 2 then inB n.item.id 1 65535 && inB n.item.kind 1 7 && decide ((n.item.sights.val.length : Int) ≤ 16) && decide ((n.item.panes.val.length : Int) ≤ 64) && decide ((n.item.colours.val.length : Int) ≤ 16)
 else if kind = 3 then decide (0 < (n.panes.val.length : Int)) && risingB n.panes.val 64
 else if kind = 4 then inB n.pieces.val.length 1 64 && risingB n.pieces.val 65535 && inB n.to 1 8
 else if kind = 5 ∨ kind = 10 then validRefB n.ref
 else if kind = 6 then inB n.pane 1 64 && (decide (n.piece = 0) && inB n.colour 1 16 && eqSetting n.setting ⟨0, false⟩ || inB n.piece 1 65535 && decide (n.colour = 0) && inB n.setting.shift 0 23)
 else if kind = 7 then inB n.pane 1 64
 else if kind = 8 then inB n.piece 1 65535 && validPiecesB n.data.val 4
 else false
theorem okNote_pieces {D : Nat → Prop} {w : World} {x : Note} (h : okNote D w x) : x.pieces.OK 1 encInt okInt D w := by
 simp only [okNote] at h; simp only [h]
theorem okNote_panes {D : Nat → Prop} {w : World} {x : Note} (h : okNote D w x) : x.panes.OK 1 encInt okInt D w := by
 simp only [okNote] at h; simp only [h]
theorem used_1 (D : Nat → Prop) (kind : Int) (n : Note) (w : World) (hok : okNote D w n) (hk : kind = 1) :
  Calls Tryz.prog 136 #[.int .i64 kind, .agg (encNote n)] w fun e w' => e = .returned (.bool (usedB kind n)) ∧ Below w.heap.size w w' := by
 have hbA0 : BoxAt (w.alloc (.cells (encNote n) 43)) w.heap.size 43 (encNote n) := BoxAt.new _ _ _
 have hB0 : Below w.heap.size w (w.alloc (.cells (encNote n) 43)) := (Below.refl _ _).alloc (Nat.le_refl _) _
 have HV : Hid (Calls Tryz.prog 179 #[.slice n.data.a n.data.val.length n.data.cap, .int .i64 1] (w.alloc (.cells (encNote n) 43)) fun e w' => e = .returned (.bool (validPiecesB n.data.val 1)) ∧ Below _ _ w') := Lib.hid (validPieces_any D n.data 1 _ (okNote_data (okNote.ext hok (.of_below hB0))))
 subst hk
 go_enter Tryz.func136, Tryz.ntmps136
 go_wp2_with (first
  | (go_at_call 39; refine (within_any _ _ _ _).mono ?_; rintro e w1 ⟨rfl, rfl⟩)
  | (go_at_call 179; refine (HV.out).mono ?_; rintro e w1 ⟨rfl, hb1⟩; have hB1 := Below.call hB0 hb1 (Nat.le_refl _); have hE : ∀ o', w1.cell? ⟨w.heap.size, o', none⟩ = _ := fun o' => hb1.cell (p := ⟨w.heap.size, o', none⟩) (by simp); clear hb1))
 all_goals go_ret
 all_goals exact ⟨by simp [usedB, *] <;> (intros; omega), by first | assumption | exact (Below.refl _ _).alloc (Nat.le_refl _) _ | exact ((Below.refl _ _).alloc (Nat.le_refl _) _).alloc (by simp) _⟩
theorem used_2 (D : Nat → Prop) (kind : Int) (n : Note) (w : World) (hok : okNote D w n) (hk : kind = 2) :
  Calls Tryz.prog 136 #[.int .i64 kind, .agg (encNote n)] w fun e w' => e = .returned (.bool (usedB kind n)) ∧ Below w.heap.size w w' := by
 have hbA0 : BoxAt (w.alloc (.cells (encNote n) 43)) w.heap.size 43 (encNote n) := BoxAt.new _ _ _
 have hB0 : Below w.heap.size w (w.alloc (.cells (encNote n) 43)) := (Below.refl _ _).alloc (Nat.le_refl _) _
 subst hk
 go_enter Tryz.func136, Tryz.ntmps136
 go_wp2_with (first
  | (go_at_call 39; refine (within_any _ _ _ _).mono ?_; rintro e w1 ⟨rfl, rfl⟩)
  | (with_reducible refine at_dst 17 ?_; refine wpList_load_at rfl 41 _ rfl w.heap.size 17 rfl (encItem n.item) _ (hbA0.cellsAt 17 _ (encNote_item n)) Tryz.underlying41 rfl (by kernel_rfl) ?_)
  | (with_reducible refine at_storeT 41 ?_; refine wpList_store_last (cs := encItem n.item) rfl 41 _ _ rfl (by simp) rfl rfl (by kernel_rfl) rfl (encItem_one _) ?_))
 all_goals go_ret
 all_goals exact ⟨by simp [usedB, *] <;> (intros; omega), by first | assumption | exact (Below.refl _ _).alloc (Nat.le_refl _) _ | exact ((Below.refl _ _).alloc (Nat.le_refl _) _).alloc (by simp) _⟩
theorem used_3 (D : Nat → Prop) (kind : Int) (n : Note) (w : World) (hok : okNote D w n) (hk : kind = 3) :
  Calls Tryz.prog 136 #[.int .i64 kind, .agg (encNote n)] w fun e w' => e = .returned (.bool (usedB kind n)) ∧ Below w.heap.size w w' := by
 have hbA0 : BoxAt (w.alloc (.cells (encNote n) 43)) w.heap.size 43 (encNote n) := BoxAt.new _ _ _
 have hB0 : Below w.heap.size w (w.alloc (.cells (encNote n) 43)) := (Below.refl _ _).alloc (Nat.le_refl _) _
 have HR : Hid (Calls Tryz.prog 180 #[.slice n.panes.a n.panes.val.length n.panes.cap, .int .i64 64] (w.alloc (.cells (encNote n) 43)) fun e w' => e = .returned (.bool (risingB n.panes.val 64)) ∧ Below _ _ w') := Lib.hid (rising_any D n.panes 64 _ (okNote_panes (okNote.ext hok (.of_below hB0))))
 subst hk
 go_enter Tryz.func136, Tryz.ntmps136
 go_wp2_with (first
  | (go_at_call 39; refine (within_any _ _ _ _).mono ?_; rintro e w1 ⟨rfl, rfl⟩)
  | (go_at_call 180; refine (HR.out).mono ?_; rintro e w1 ⟨rfl, hb1⟩; have hB1 := Below.call hB0 hb1 (Nat.le_refl _); have hE : ∀ o', w1.cell? ⟨w.heap.size, o', none⟩ = _ := fun o' => hb1.cell (p := ⟨w.heap.size, o', none⟩) (by simp); clear hb1))
 all_goals go_ret
 all_goals exact ⟨by simp [usedB, *] <;> (intros; omega), by first | assumption | exact (Below.refl _ _).alloc (Nat.le_refl _) _ | exact ((Below.refl _ _).alloc (Nat.le_refl _) _).alloc (by simp) _⟩
theorem used_4 (D : Nat → Prop) (kind : Int) (n : Note) (w : World) (hok : okNote D w n) (hk : kind = 4) :
  Calls Tryz.prog 136 #[.int .i64 kind, .agg (encNote n)] w fun e w' => e = .returned (.bool (usedB kind n)) ∧ Below w.heap.size w w' := by
 have hbA0 : BoxAt (w.alloc (.cells (encNote n) 43)) w.heap.size 43 (encNote n) := BoxAt.new _ _ _
 have hB0 : Below w.heap.size w (w.alloc (.cells (encNote n) 43)) := (Below.refl _ _).alloc (Nat.le_refl _) _
 have HR : Hid (Calls Tryz.prog 180 #[.slice n.pieces.a n.pieces.val.length n.pieces.cap, .int .i64 65535] (w.alloc (.cells (encNote n) 43)) fun e w' => e = .returned (.bool (risingB n.pieces.val 65535)) ∧ Below _ _ w') := Lib.hid (rising_any D n.pieces 65535 _ (okNote_pieces (okNote.ext hok (.of_below hB0))))
 subst hk
 go_enter Tryz.func136, Tryz.ntmps136
 go_wp2_with (first
  | (go_at_call 39; refine (within_any _ _ _ _).mono ?_; rintro e w1 ⟨rfl, rfl⟩)
  | (go_at_call 180; refine (HR.out).mono ?_; rintro e w1 ⟨rfl, hb1⟩; have hB1 := Below.call hB0 hb1 (Nat.le_refl _); have hE : ∀ o', w1.cell? ⟨w.heap.size, o', none⟩ = _ := fun o' => hb1.cell (p := ⟨w.heap.size, o', none⟩) (by simp); clear hb1))
 all_goals go_ret
 all_goals exact ⟨by simp [usedB, *] <;> (intros; omega), by first | assumption | exact (Below.refl _ _).alloc (Nat.le_refl _) _ | exact ((Below.refl _ _).alloc (Nat.le_refl _) _).alloc (by simp) _⟩
theorem used_5 (D : Nat → Prop) (kind : Int) (n : Note) (w : World) (hok : okNote D w n) (hk : kind = 5) :
  Calls Tryz.prog 136 #[.int .i64 kind, .agg (encNote n)] w fun e w' => e = .returned (.bool (usedB kind n)) ∧ Below w.heap.size w w' := by
 have hbA0 : BoxAt (w.alloc (.cells (encNote n) 43)) w.heap.size 43 (encNote n) := BoxAt.new _ _ _
 have hB0 : Below w.heap.size w (w.alloc (.cells (encNote n) 43)) := (Below.refl _ _).alloc (Nat.le_refl _) _
 subst hk
 go_enter Tryz.func136, Tryz.ntmps136
 go_wp2_with (first
  | (go_at_call 88; refine (validRef_any n.ref _).mono ?_; rintro e w1 ⟨rfl, hb1⟩; have hB1 := Below.call hB0 hb1 (Nat.le_refl _); have hE : ∀ o', w1.cell? ⟨w.heap.size, o', none⟩ = _ := fun o' => hb1.cell (p := ⟨w.heap.size, o', none⟩) (by simp); clear hb1))
 all_goals go_ret
 all_goals exact ⟨by simp [usedB, *] <;> (intros; omega), by first | assumption | exact (Below.refl _ _).alloc (Nat.le_refl _) _ | exact ((Below.refl _ _).alloc (Nat.le_refl _) _).alloc (by simp) _⟩
theorem used_10 (D : Nat → Prop) (kind : Int) (n : Note) (w : World) (hok : okNote D w n) (hk : kind = 10) :
  Calls Tryz.prog 136 #[.int .i64 kind, .agg (encNote n)] w fun e w' => e = .returned (.bool (usedB kind n)) ∧ Below w.heap.size w w' := by
 have hbA0 : BoxAt (w.alloc (.cells (encNote n) 43)) w.heap.size 43 (encNote n) := BoxAt.new _ _ _
 have hB0 : Below w.heap.size w (w.alloc (.cells (encNote n) 43)) := (Below.refl _ _).alloc (Nat.le_refl _) _
 subst hk
 go_enter Tryz.func136, Tryz.ntmps136
 go_wp2_with (first
  | (go_at_call 88; refine (validRef_any n.ref _).mono ?_; rintro e w1 ⟨rfl, hb1⟩; have hB1 := Below.call hB0 hb1 (Nat.le_refl _); have hE : ∀ o', w1.cell? ⟨w.heap.size, o', none⟩ = _ := fun o' => hb1.cell (p := ⟨w.heap.size, o', none⟩) (by simp); clear hb1))
 all_goals go_ret
 all_goals exact ⟨by simp [usedB, *] <;> (intros; omega), by first | assumption | exact (Below.refl _ _).alloc (Nat.le_refl _) _ | exact ((Below.refl _ _).alloc (Nat.le_refl _) _).alloc (by simp) _⟩
theorem used_6 (D : Nat → Prop) (kind : Int) (n : Note) (w : World) (hok : okNote D w n) (hk : kind = 6) :
  Calls Tryz.prog 136 #[.int .i64 kind, .agg (encNote n)] w fun e w' => e = .returned (.bool (usedB kind n)) ∧ Below w.heap.size w w' := by
 have hbA0 : BoxAt (w.alloc (.cells (encNote n) 43)) w.heap.size 43 (encNote n) := BoxAt.new _ _ _
 have hB0 : Below w.heap.size w (w.alloc (.cells (encNote n) 43)) := (Below.refl _ _).alloc (Nat.le_refl _) _
 subst hk
 go_enter Tryz.func136, Tryz.ntmps136
 go_wp2_with (first
  | (go_at_call 39; refine (within_any _ _ _ _).mono ?_; rintro e w1 ⟨rfl, rfl⟩))
 all_goals go_ret
 all_goals exact ⟨by simp [usedB, *] <;> (intros; omega), by first | assumption | exact (Below.refl _ _).alloc (Nat.le_refl _) _ | exact ((Below.refl _ _).alloc (Nat.le_refl _) _).alloc (by simp) _⟩
theorem used_7 (D : Nat → Prop) (kind : Int) (n : Note) (w : World) (hok : okNote D w n) (hk : kind = 7) :
  Calls Tryz.prog 136 #[.int .i64 kind, .agg (encNote n)] w fun e w' => e = .returned (.bool (usedB kind n)) ∧ Below w.heap.size w w' := by
 have hbA0 : BoxAt (w.alloc (.cells (encNote n) 43)) w.heap.size 43 (encNote n) := BoxAt.new _ _ _
 have hB0 : Below w.heap.size w (w.alloc (.cells (encNote n) 43)) := (Below.refl _ _).alloc (Nat.le_refl _) _
 subst hk
 go_enter Tryz.func136, Tryz.ntmps136
 go_wp2_with (first
  | (go_at_call 39; refine (within_any _ _ _ _).mono ?_; rintro e w1 ⟨rfl, rfl⟩))
 all_goals go_ret
 all_goals exact ⟨by simp [usedB, *] <;> (intros; omega), by first | assumption | exact (Below.refl _ _).alloc (Nat.le_refl _) _ | exact ((Below.refl _ _).alloc (Nat.le_refl _) _).alloc (by simp) _⟩
theorem used_8 (D : Nat → Prop) (kind : Int) (n : Note) (w : World) (hok : okNote D w n) (hk : kind = 8) :
  Calls Tryz.prog 136 #[.int .i64 kind, .agg (encNote n)] w fun e w' => e = .returned (.bool (usedB kind n)) ∧ Below w.heap.size w w' := by
 have hbA0 : BoxAt (w.alloc (.cells (encNote n) 43)) w.heap.size 43 (encNote n) := BoxAt.new _ _ _
 have hB0 : Below w.heap.size w (w.alloc (.cells (encNote n) 43)) := (Below.refl _ _).alloc (Nat.le_refl _) _
 have HV : Hid (Calls Tryz.prog 179 #[.slice n.data.a n.data.val.length n.data.cap, .int .i64 4] (w.alloc (.cells (encNote n) 43)) fun e w' => e = .returned (.bool (validPiecesB n.data.val 4)) ∧ Below _ _ w') := Lib.hid (validPieces_any D n.data 4 _ (okNote_data (okNote.ext hok (.of_below hB0))))
 subst hk
 go_enter Tryz.func136, Tryz.ntmps136
 go_wp2_with (first
  | (go_at_call 39; refine (within_any _ _ _ _).mono ?_; rintro e w1 ⟨rfl, rfl⟩)
  | (go_at_call 179; refine (HV.out).mono ?_; rintro e w1 ⟨rfl, hb1⟩; have hB1 := Below.call hB0 hb1 (Nat.le_refl _); have hE : ∀ o', w1.cell? ⟨w.heap.size, o', none⟩ = _ := fun o' => hb1.cell (p := ⟨w.heap.size, o', none⟩) (by simp); clear hb1))
 all_goals go_ret
 all_goals exact ⟨by simp [usedB, *] <;> (intros; omega), by first | assumption | exact (Below.refl _ _).alloc (Nat.le_refl _) _ | exact ((Below.refl _ _).alloc (Nat.le_refl _) _).alloc (by simp) _⟩
theorem used_no (D : Nat → Prop) (kind : Int) (n : Note) (w : World) (hok : okNote D w n) (h1 : ¬ kind = 1) (h2 : ¬ kind = 2) (h3 : ¬ kind = 3) (h4 : ¬ kind = 4) (h5 : ¬ kind = 5) (h10 : ¬ kind = 10) (h6 : ¬ kind = 6) (h7 : ¬ kind = 7) (h8 : ¬ kind = 8) :
  Calls Tryz.prog 136 #[.int .i64 kind, .agg (encNote n)] w fun e w' => e = .returned (.bool (usedB kind n)) ∧ Below w.heap.size w w' := by
 have hbA0 : BoxAt (w.alloc (.cells (encNote n) 43)) w.heap.size 43 (encNote n) := BoxAt.new _ _ _
 have hB0 : Below w.heap.size w (w.alloc (.cells (encNote n) 43)) := (Below.refl _ _).alloc (Nat.le_refl _) _
 go_enter Tryz.func136, Tryz.ntmps136
 go_wp2_with (first
  | (go_at_call 39; refine (within_any _ _ _ _).mono ?_; rintro e w1 ⟨rfl, rfl⟩))
 all_goals go_ret
 all_goals exact ⟨by simp [usedB, *] <;> (intros; omega), by first | assumption | exact (Below.refl _ _).alloc (Nat.le_refl _) _ | exact ((Below.refl _ _).alloc (Nat.le_refl _) _).alloc (by simp) _⟩
theorem used_any (D : Nat → Prop) (kind : Int) (n : Note) (w : World) (hok : okNote D w n) :
  Calls Tryz.prog 136 #[.int .i64 kind, .agg (encNote n)] w fun e w' => e = .returned (.bool (usedB kind n)) ∧ Below w.heap.size w w' := by
 by_cases h1 : kind = 1
 ·exact used_1 D kind n w hok h1
 by_cases h2 : kind = 2
 ·exact used_2 D kind n w hok h2
 by_cases h3 : kind = 3
 ·exact used_3 D kind n w hok h3
 by_cases h4 : kind = 4
 ·exact used_4 D kind n w hok h4
 by_cases h5 : kind = 5
 ·exact used_5 D kind n w hok h5
 by_cases h10 : kind = 10
 ·exact used_10 D kind n w hok h10
 by_cases h6 : kind = 6
 ·exact used_6 D kind n w hok h6
 by_cases h7 : kind = 7
 ·exact used_7 D kind n w hok h7
 by_cases h8 : kind = 8
 ·exact used_8 D kind n w hok h8
 exact used_no D kind n w hok h1 h2 h3 h4 h5 h10 h6 h7 h8
end Go.Proofs.YtnmgfnpphglphaaGreat
end
section
set_option linter.unusedVariables false
set_option linter.unusedSimpArgs false
namespace Go.Proofs.YtnmgfnpphglphaaGreat
open Go.RowKit
def noRef (n : Note) : Note := { n with ref := ⟨0, 0⟩ }
def contentB (kind : Int) (n : Note) : Bool := usedB kind n && decide ((bareN kind n).abs = zNote.abs)
def wellB (n : Note) : Bool :=
 validRefB (refN n) && inB n.clock 1 1048576 && inB n.year 0 9999 && ownB n &&
  (if inB n.kind 1 8 = true ∨ n.kind = 10 then decide (n.fix = 0) && contentB n.kind n
   else if n.kind = 9 then inB n.fix 1 8 && !decide (n.fix = 5) && validRefB n.ref && contentB n.fix (noRef n) else false)
theorem I64_zero : I64 0 := by unfold I64; decide
theorem okNote_zero (D : Nat → Prop) (w : World) : okNote D w zNote := by
 have h := okItem_zero D w
 simp only [okItem] at h
 simp only [okNote, zNote, I64_zero, h, true_and, and_true]
 exact ⟨Sl.OK.nil _ _ _ _ _, Sl.OK.nil _ _ _ _ _, Sl.OK.nil _ _ _ _ _⟩
theorem okNote_ref0 {D : Nat → Prop} {w : World} {n : Note} (h : okNote D w n) : okNote D w (noRef n) := by
 simp only [okNote, noRef] at h ⊢
 simp only [h, I64_zero, and_self]
theorem okNote_bare {D : Nat → Prop} {w : World} {n : Note} (kind : Int) (h : okNote D w n) : okNote D w (bareN kind n) := by
 have hz := okItem_zero D w
 have hn1 : ∀ {α : Type} (sz : Nat) (e : α → Array Value) (ok : (Nat → Prop) → World → α → Prop), Sl.OK sz e ok D w Sl.nil := fun _ _ _ => Sl.OK.nil _ _ _ _ _
 simp only [okNote] at h
 simp only [okItem] at hz
 unfold bareN
 repeat' split
 all_goals simp only [okNote, blankN, h, hz, I64_zero, hn1, and_self]
theorem content_any (D : Nat → Prop) (kind : Int) (n : Note) (w : World) (hok : okNote D w n) :
  Calls Tryz.prog 90 #[.int .i64 kind, .agg (encNote n)] w fun e w' => e = .returned (.bool (contentB kind n)) ∧ Below w.heap.size w w' := by
 have hbA : BoxAt (w.alloc (.cells (encNote n) 43)) w.heap.size 43 (encNote n) := BoxAt.new _ _ _
 have hB : Below w.heap.size w (w.alloc (.cells (encNote n) 43)) := (Below.refl _ _).alloc (Nat.le_refl _) _
 have HU : Hid (∀ W, Below w.heap.size w W → Calls Tryz.prog 136 #[.int .i64 kind, .agg (encNote n)] W fun e w' => e = .returned (.bool (usedB kind n)) ∧ Below W.heap.size W w') := Lib.hid fun W hW => used_any D kind n W (okNote.ext hok (.of_below hW))
 have HS : Hid (∀ W, Below w.heap.size w W → Calls Tryz.prog 66 #[.agg (encNote (bareN kind n)), .agg (encNote zNote)] W fun e w' => e = .returned (.bool (decide ((bareN kind n).abs = zNote.abs))) ∧ Below W.heap.size W w') := Lib.hid fun W hW =>
  sameNote_any D _ _ W (okNote_bare kind (okNote.ext hok (.of_below hW))) (okNote_zero _ _)
 clear hok
 rcases h0 : usedB kind n
 all_goals simp only [h0] at HU
 all_goals go_enter Tryz.func90, Tryz.ntmps90
 all_goals go_wp2_with (first
  | (with_reducible refine at_dst 6 ?_; refine wpList_loadB hbA rfl 43 _ rfl rfl (encNote n) (whole_cells _) Tryz.underlying43 rfl (by kernel_rfl) ?_)
  | (with_reducible refine at_dst 10 ?_; refine wpList_loadB hbA rfl 43 _ rfl rfl (encNote n) (whole_cells _) Tryz.underlying43 rfl (by kernel_rfl) ?_)
  | (go_at_call 136; refine (HU.out _ hB).mono ?_; rintro e w1 ⟨rfl, hb1⟩; have hB := Below.call hB hb1 (Nat.le_refl _); have hbA := hbA.belowAll hb1; clear hb1)
  | (go_at_call 137; refine (bare_any kind n _).mono ?_; rintro e w2 ⟨rfl, hb1⟩; have hB := Below.call hB hb1 (Nat.le_refl _); have hbA := hbA.belowAll hb1; clear hb1)
  | (go_at_call 66; refine (HS.out _ hB).mono ?_; rintro e w3 ⟨rfl, hb1⟩; have hB := Below.call hB hb1 (Nat.le_refl _)))
 all_goals go_ret
 all_goals exact ⟨by simp [contentB, h0], hB⟩
end Go.Proofs.YtnmgfnpphglphaaGreat
end
