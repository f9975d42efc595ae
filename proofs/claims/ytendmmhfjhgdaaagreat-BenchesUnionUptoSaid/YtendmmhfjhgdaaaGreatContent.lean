/-
  A note is well-formed: walked.
-/
import Derived.Test.YtendmmhfjhgdaaaGreatUsed
set_option linter.unusedVariables false
set_option linter.unusedSimpArgs false
namespace Go.Proofs.YtendmmhfjhgdaaaGreat
open Go.RowKit

def noRef (n : Note) : Note := { n with ref := ⟨0, 0⟩ }
def contentB (kind : Int) (n : Note) : Bool := usedB kind n && decide ((bareN kind n).abs = zNote.abs)
def wellB (n : Note) : Bool :=
  validRefB (refN n) && inB n.clock 1 1048576 && inB n.year 0 9999 && ownB n &&
    (if inB n.kind 1 8 = true ∨ n.kind = 10 then decide (n.fix = 0) && contentB n.kind n
     else if n.kind = 9 then inB n.fix 1 8 && !decide (n.fix = 5) && validRefB n.ref && contentB n.fix (noRef n) else false)
theorem I64_zero : I64 0 := by unfold I64; decide
theorem okNote_zero (D : Nat → Prop) (w : World) : okNote D w zNote := by
  have h := okItem_zero D w
  simp only [okItem] at h
  simp only [okNote, zNote, I64_zero, h, true_and, and_true]
  exact ⟨Sl.OK.nil _ _ _ _ _, Sl.OK.nil _ _ _ _ _, Sl.OK.nil _ _ _ _ _⟩
theorem okNote_ref0 {D : Nat → Prop} {w : World} {n : Note} (h : okNote D w n) : okNote D w (noRef n) := by
  simp only [okNote, noRef] at h ⊢
  simp only [h, I64_zero, and_self]
theorem okNote_bare {D : Nat → Prop} {w : World} {n : Note} (kind : Int) (h : okNote D w n) : okNote D w (bareN kind n) := by
  have hz := okItem_zero D w
  have hn1 : ∀ {α : Type} (sz : Nat) (e : α → Array Value) (ok : (Nat → Prop) → World → α → Prop), Sl.OK sz e ok D w Sl.nil := fun _ _ _ => Sl.OK.nil _ _ _ _ _
  simp only [okNote] at h
  simp only [okItem] at hz
  unfold bareN
  repeat' split
  all_goals simp only [okNote, blankN, h, hz, I64_zero, hn1, and_self]

set_option maxRecDepth 20000 in
set_option maxHeartbeats 4000000 in
theorem content_any (D : Nat → Prop) (kind : Int) (n : Note) (w : World) (hok : okNote D w n) :
    Calls Tryz.prog 77 #[.int .i64 kind, .agg (encNote n)] w fun e w' => e = .returned (.bool (contentB kind n)) ∧ Below w.heap.size w w' := by
  have hbA : BoxAt (w.alloc (.cells (encNote n) 40)) w.heap.size 40 (encNote n) := BoxAt.new _ _ _
  have hB : Below w.heap.size w (w.alloc (.cells (encNote n) 40)) := (Below.refl _ _).alloc (Nat.le_refl _) _
  have HU : Hid (∀ W, Below w.heap.size w W → Calls Tryz.prog 126 #[.int .i64 kind, .agg (encNote n)] W fun e w' => e = .returned (.bool (usedB kind n)) ∧ Below W.heap.size W w') := Lib.hid fun W hW => used_any D kind n W (okNote.ext hok (.of_below hW))
  have HS : Hid (∀ W, Below w.heap.size w W → Calls Tryz.prog 54 #[.agg (encNote (bareN kind n)), .agg (encNote zNote)] W fun e w' => e = .returned (.bool (decide ((bareN kind n).abs = zNote.abs))) ∧ Below W.heap.size W w') := Lib.hid fun W hW =>
    sameNote_any D _ _ W (okNote_bare kind (okNote.ext hok (.of_below hW))) (okNote_zero _ _)
  clear hok
  rcases h0 : usedB kind n
  all_goals simp only [h0] at HU
  all_goals go_enter Tryz.func77, Tryz.ntmps77
  all_goals go_wp2_with (first
    | (with_reducible refine at_dst 6 ?_; refine wpList_loadB hbA rfl 40 _ rfl rfl (encNote n) (whole_cells _) Tryz.underlying40 rfl (by kernel_rfl) ?_)
    | (with_reducible refine at_dst 10 ?_; refine wpList_loadB hbA rfl 40 _ rfl rfl (encNote n) (whole_cells _) Tryz.underlying40 rfl (by kernel_rfl) ?_)
    | (go_at_call 126; refine (HU.out _ hB).mono ?_; rintro e w1 ⟨rfl, hb1⟩; have hB := Below.call hB hb1 (Nat.le_refl _); have hbA := hbA.belowAll hb1; clear hb1)
    | (go_at_call 127; refine (bare_any kind n _).mono ?_; rintro e w2 ⟨rfl, hb1⟩; have hB := Below.call hB hb1 (Nat.le_refl _); have hbA := hbA.belowAll hb1; clear hb1)
    | (go_at_call 54; refine (HS.out _ hB).mono ?_; rintro e w3 ⟨rfl, hb1⟩; have hB := Below.call hB hb1 (Nat.le_refl _)))
  all_goals go_ret
  all_goals exact ⟨by simp [contentB, h0], hB⟩

end Go.Proofs.YtendmmhfjhgdaaaGreat
