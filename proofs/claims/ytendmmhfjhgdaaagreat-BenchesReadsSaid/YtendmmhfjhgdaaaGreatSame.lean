/-
  Two pieces, two items, two notes are equal: walked.
-/
import Derived.Test.YtendmmhfjhgdaaaGreatNotes2
import Derived.Deep.QuietTactic
import Derived.BigQuiet
set_option linter.unusedVariables false
set_option linter.unusedSimpArgs false
namespace Go.Proofs.YtendmmhfjhgdaaaGreat
open Go.RowKit

theorem Below.call {n : Nat} {w W w1 : World} (h0 : Below n w W) (hb : Below W.heap.size W w1) (hn : n ≤ w.heap.size) : Below n w w1 := h0.trans (hb.mono (Nat.le_trans hn h0.size))
set_option maxRecDepth 20000 in
set_option maxHeartbeats 4000000 in
theorem samePiece_any (D : Nat → Prop) (a b : Piece) (w : World) (ha : okPiece D w a) (hb : okPiece D w b) :
    Calls Tryz.prog 107 #[.agg (encPiece a), .agg (encPiece b)] w fun e w' => e = .returned (.bool (decide (a.abs = b.abs))) ∧ Below w.heap.size w w' := by
  have HG : Hid (∀ W, Below w.heap.size w W → Calls Tryz.prog 149 #[.slice a.gauges.a a.gauges.val.length a.gauges.cap, .slice b.gauges.a b.gauges.val.length b.gauges.cap] W fun e w' => e = .returned (.bool (decide (a.gauges.val = b.gauges.val))) ∧ Below W.heap.size W w') := Lib.hid fun W hW => equal_Gauge D a.gauges b.gauges W ((okPiece.ext ha (.of_below hW)).2.2.2.2.2.1) ((okPiece.ext hb (.of_below hW)).2.2.2.2.2.1)
  have HM : Hid (∀ W, Below w.heap.size w W → Calls Tryz.prog 150 #[.slice a.marks.a a.marks.val.length a.marks.cap, .slice b.marks.a b.marks.val.length b.marks.cap] W fun e w' => e = .returned (.bool (decide (a.marks.val = b.marks.val))) ∧ Below W.heap.size W w') := Lib.hid fun W hW => equal_Mark D a.marks b.marks W ((okPiece.ext ha (.of_below hW)).2.2.2.2.2.2) ((okPiece.ext hb (.of_below hW)).2.2.2.2.2.2)
  have HE : Hid (decide (a.abs = b.abs) = (decide (a.id = b.id) && (decide (a.colour = b.colour) && (decide (a.reverse = b.reverse) && (decide (a.made = b.made) && (decide (a.swell = b.swell) && (decide (a.gauges.val = b.gauges.val) && decide (a.marks.val = b.marks.val)))))))) := Lib.hid (by
    rw [Bool.eq_iff_iff]; simp [Piece.abs])
  clear ha hb
  by_cases hg : a.gauges.val = b.gauges.val
  · by_cases hm : a.marks.val = b.marks.val
    · simp only [hg, hm, decide_true] at HG HM HE
      go_enter Tryz.func107, Tryz.ntmps107
      go_wp2_with (first
        | (go_at_call 149; refine (HG.out _ (by first | exact (((Below.refl _ _).alloc (Nat.le_refl _) _).alloc (by simp) _) | exact Below.refl _ _)).mono ?_; rintro e w1 ⟨rfl, hb1⟩; have hB1 := Below.call (((Below.refl _ _).alloc (Nat.le_refl _) _).alloc (by simp) _) hb1 (Nat.le_refl _); have hE1 : ∀ o', w1.cell? ⟨w.heap.size, o', none⟩ = _ := fun o' => hb1.cell (p := ⟨w.heap.size, o', none⟩) (by simp; omega); have hE2 : ∀ o', w1.cell? ⟨w.heap.size + 1, o', none⟩ = _ := fun o' => hb1.cell (p := ⟨w.heap.size + 1, o', none⟩) (by simp))
        | (go_at_call 150; refine (HM.out _ hB1).mono ?_; rintro e w2 ⟨rfl, hb2⟩; have hB2 := Below.call hB1 hb2 (Nat.le_refl _)))
      all_goals go_ret
      all_goals first
        | exact ⟨by simp [HE.out, *], hB2⟩
        | exact ⟨by simp [HE.out, *], hB1⟩
        | exact ⟨by simp [HE.out, *], ((Below.refl _ _).alloc (Nat.le_refl _) _).alloc (by simp) _⟩
    · simp only [hg, hm, decide_true, decide_false] at HG HM HE
      go_enter Tryz.func107, Tryz.ntmps107
      go_wp2_with (first
        | (go_at_call 149; refine (HG.out _ (by first | exact (((Below.refl _ _).alloc (Nat.le_refl _) _).alloc (by simp) _) | exact Below.refl _ _)).mono ?_; rintro e w1 ⟨rfl, hb1⟩; have hB1 := Below.call (((Below.refl _ _).alloc (Nat.le_refl _) _).alloc (by simp) _) hb1 (Nat.le_refl _); have hE1 : ∀ o', w1.cell? ⟨w.heap.size, o', none⟩ = _ := fun o' => hb1.cell (p := ⟨w.heap.size, o', none⟩) (by simp; omega); have hE2 : ∀ o', w1.cell? ⟨w.heap.size + 1, o', none⟩ = _ := fun o' => hb1.cell (p := ⟨w.heap.size + 1, o', none⟩) (by simp))
        | (go_at_call 150; refine (HM.out _ hB1).mono ?_; rintro e w2 ⟨rfl, hb2⟩; have hB2 := Below.call hB1 hb2 (Nat.le_refl _)))
      all_goals go_ret
      all_goals first
        | exact ⟨by simp [HE.out, *], hB2⟩
        | exact ⟨by simp [HE.out, *], hB1⟩
        | exact ⟨by simp [HE.out, *], ((Below.refl _ _).alloc (Nat.le_refl _) _).alloc (by simp) _⟩
  · simp only [hg, decide_false] at HG HE
    go_enter Tryz.func107, Tryz.ntmps107
    go_wp2_with (first
      | (go_at_call 149; refine (HG.out _ (by first | exact (((Below.refl _ _).alloc (Nat.le_refl _) _).alloc (by simp) _) | exact Below.refl _ _)).mono ?_; rintro e w1 ⟨rfl, hb1⟩; have hB1 := Below.call (((Below.refl _ _).alloc (Nat.le_refl _) _).alloc (by simp) _) hb1 (Nat.le_refl _); have hE1 : ∀ o', w1.cell? ⟨w.heap.size, o', none⟩ = _ := fun o' => hb1.cell (p := ⟨w.heap.size, o', none⟩) (by simp; omega); have hE2 : ∀ o', w1.cell? ⟨w.heap.size + 1, o', none⟩ = _ := fun o' => hb1.cell (p := ⟨w.heap.size + 1, o', none⟩) (by simp))
      | (go_at_call 150; refine (HM.out _ hB1).mono ?_; rintro e w2 ⟨rfl, hb2⟩; have hB2 := Below.call hB1 hb2 (Nat.le_refl _)))
    all_goals go_ret
    all_goals first
      | exact ⟨by simp [HE.out, *], hB2⟩
      | exact ⟨by simp [HE.out, *], hB1⟩
      | exact ⟨by simp [HE.out, *], ((Below.refl _ _).alloc (Nat.le_refl _) _).alloc (by simp) _⟩
end Go.Proofs.YtendmmhfjhgdaaaGreat
