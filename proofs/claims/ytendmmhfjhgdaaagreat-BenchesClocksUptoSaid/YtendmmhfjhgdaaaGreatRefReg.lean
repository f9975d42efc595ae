/-
  The reference's SameRegister: where two registers are equal, walked.
-/
import Derived.Test.YtendmmhfjhgdaaaGreatRefSame
set_option linter.unusedVariables false
set_option linter.unusedSimpArgs false
namespace Go.Proofs.YtendmmhfjhgdaaaGreat
open Go.RowKit

set_option maxRecDepth 20000 in
set_option maxHeartbeats 8000000 in
theorem refRegister_same (D : Nat → Prop) (pa1 pa2 wa1 wa2 na1 na2 ia1 ia2 ra1 ra2 ca1 ca2 : Option Addr) (pc1 pc2 wc1 wc2 nc1 nc2 ic1 ic2 rc1 rc2 cc1 cc2 : Nat) (pv1 pv2 : List Piece) (wv : List Where) (nv : List Held) (iv1 iv2 : List Item) (rv1 rv2 : List Relead) (cv : List Ref) (w : World)
    (h1 : okRegister D w ⟨⟨pa1, pc1, pv1⟩, ⟨wa1, wc1, wv⟩, ⟨na1, nc1, nv⟩, ⟨ia1, ic1, iv1⟩, ⟨ra1, rc1, rv1⟩, ⟨ca1, cc1, cv⟩⟩) (h2 : okRegister D w ⟨⟨pa2, pc2, pv2⟩, ⟨wa2, wc2, wv⟩, ⟨na2, nc2, nv⟩, ⟨ia2, ic2, iv2⟩, ⟨ra2, rc2, rv2⟩, ⟨ca2, cc2, cv⟩⟩)
    (hp : pv1.map Piece.abs = pv2.map Piece.abs) (hi : iv1.map Item.abs = iv2.map Item.abs) (hr : rv1.map Relead.abs = rv2.map Relead.abs) :
    Calls Tryz.prog 26 #[.agg (encRegister ⟨⟨pa1, pc1, pv1⟩, ⟨wa1, wc1, wv⟩, ⟨na1, nc1, nv⟩, ⟨ia1, ic1, iv1⟩, ⟨ra1, rc1, rv1⟩, ⟨ca1, cc1, cv⟩⟩), .agg (encRegister ⟨⟨pa2, pc2, pv2⟩, ⟨wa2, wc2, wv⟩, ⟨na2, nc2, nv⟩, ⟨ia2, ic2, iv2⟩, ⟨ra2, rc2, rv2⟩, ⟨ca2, cc2, cv⟩⟩)] w fun e w' => e = .returned (.bool true) ∧ Below w.heap.size w w' := by
  obtain ⟨p1, w1, n1, i1, r1, c1⟩ := h1
  obtain ⟨p2, w2, n2, i2, r2, c2⟩ := h2
  have HP1 := Lib.hid p1
  have HP2 := Lib.hid p2
  have HW1 := Lib.hid w1
  have HW2 := Lib.hid w2
  have HN1 := Lib.hid n1
  have HN2 := Lib.hid n2
  have HI1 := Lib.hid i1
  have HI2 := Lib.hid i2
  have HR1 := Lib.hid r1
  have HR2 := Lib.hid r2
  have HC1 := Lib.hid c1
  have HC2 := Lib.hid c2
  have hrw : wv.length ≤ 4294967296 := w1.room
  have hrn : nv.length ≤ 4294967296 := n1.room
  have hri : iv1.length ≤ 4294967296 := i1.room
  have hrr : rv1.length ≤ 4294967296 := r1.room
  have hrc : cv.length ≤ 4294967296 := c1.room
  have hil : iv2.length = iv1.length := by have := congrArg List.length hi; simpa using this.symm
  have hrl : rv2.length = rv1.length := by have := congrArg List.length hr; simpa using this.symm
  have HIL := Lib.hid hil
  have HRL := Lib.hid hrl
  have HIE := Lib.hid hi
  have HRE := Lib.hid hr
  have m1 : (((iv1.length : Int)) != (iv2.length : Int)) = false := by simp; omega
  have m2 : (((rv1.length : Int)) != (rv2.length : Int)) = false := by simp; omega
  have hbA0 : BoxAt ((w.alloc (.cells (encRegister ⟨⟨pa1, pc1, pv1⟩, ⟨wa1, wc1, wv⟩, ⟨na1, nc1, nv⟩, ⟨ia1, ic1, iv1⟩, ⟨ra1, rc1, rv1⟩, ⟨ca1, cc1, cv⟩⟩) 58)).alloc (.cells (encRegister ⟨⟨pa2, pc2, pv2⟩, ⟨wa2, wc2, wv⟩, ⟨na2, nc2, nv⟩, ⟨ia2, ic2, iv2⟩, ⟨ra2, rc2, rv2⟩, ⟨ca2, cc2, cv⟩⟩) 58)) w.heap.size 58 (encRegister ⟨⟨pa1, pc1, pv1⟩, ⟨wa1, wc1, wv⟩, ⟨na1, nc1, nv⟩, ⟨ia1, ic1, iv1⟩, ⟨ra1, rc1, rv1⟩, ⟨ca1, cc1, cv⟩⟩) := (BoxAt.new _ _ _).alloc _
  have hbB0 : BoxAt ((w.alloc (.cells (encRegister ⟨⟨pa1, pc1, pv1⟩, ⟨wa1, wc1, wv⟩, ⟨na1, nc1, nv⟩, ⟨ia1, ic1, iv1⟩, ⟨ra1, rc1, rv1⟩, ⟨ca1, cc1, cv⟩⟩) 58)).alloc (.cells (encRegister ⟨⟨pa2, pc2, pv2⟩, ⟨wa2, wc2, wv⟩, ⟨na2, nc2, nv⟩, ⟨ia2, ic2, iv2⟩, ⟨ra2, rc2, rv2⟩, ⟨ca2, cc2, cv⟩⟩) 58)) (w.heap.size + 1) 58 (encRegister ⟨⟨pa2, pc2, pv2⟩, ⟨wa2, wc2, wv⟩, ⟨na2, nc2, nv⟩, ⟨ia2, ic2, iv2⟩, ⟨ra2, rc2, rv2⟩, ⟨ca2, cc2, cv⟩⟩) := by have h := BoxAt.new (w.alloc (.cells (encRegister ⟨⟨pa1, pc1, pv1⟩, ⟨wa1, wc1, wv⟩, ⟨na1, nc1, nv⟩, ⟨ia1, ic1, iv1⟩, ⟨ra1, rc1, rv1⟩, ⟨ca1, cc1, cv⟩⟩) 58)) 58 (encRegister ⟨⟨pa2, pc2, pv2⟩, ⟨wa2, wc2, wv⟩, ⟨na2, nc2, nv⟩, ⟨ia2, ic2, iv2⟩, ⟨ra2, rc2, rv2⟩, ⟨ca2, cc2, cv⟩⟩); rw [World.size_alloc] at h; exact h
  have hB0 : Below w.heap.size w ((w.alloc (.cells (encRegister ⟨⟨pa1, pc1, pv1⟩, ⟨wa1, wc1, wv⟩, ⟨na1, nc1, nv⟩, ⟨ia1, ic1, iv1⟩, ⟨ra1, rc1, rv1⟩, ⟨ca1, cc1, cv⟩⟩) 58)).alloc (.cells (encRegister ⟨⟨pa2, pc2, pv2⟩, ⟨wa2, wc2, wv⟩, ⟨na2, nc2, nv⟩, ⟨ia2, ic2, iv2⟩, ⟨ra2, rc2, rv2⟩, ⟨ca2, cc2, cv⟩⟩) 58)) := ((Below.refl _ _).alloc (Nat.le_refl _) _).alloc (by simp) _
  have HPS : Hid (∀ W, Below w.heap.size w W → Calls Tryz.prog 58 #[.slice pa1 pv1.length pc1, .slice pa2 pv2.length pc2] W fun e w' => e = .returned (.bool true) ∧ Below W.heap.size W w') := Lib.hid fun W hW => by
    have h := refPieces_g D ⟨pa1, pc1, pv1⟩ ⟨pa2, pc2, pv2⟩ W (Sl.OK.ext (w := w) (w' := W) (fun _ h => okPiece.ext h (.of_below hW)) p1 (.of_below hW)) (Sl.OK.ext (w := w) (w' := W) (fun _ h => okPiece.ext h (.of_below hW)) p2 (.of_below hW))
    rw [decide_eq_true hp.symm] at h; exact h
  clear p1 p2 w1 w2 n1 n2 i1 i2 r1 r2 c1 c2 hil hrl hp hi hr
  go_enter Tryz.func26, Tryz.ntmps26
  go_wp2_with (go_at_call 58; (with_reducible refine (HPS.out _ hB0).mono ?_); rintro e v1 ⟨rfl, hb1⟩; have hbA := hbA0.belowAll hb1; have hbB := hbB0.belowAll hb1; have hB := hB0.trans (hb1.mono hB0.size); have fa1 : v1.cell? ⟨w.heap.size, 1, none⟩ = some (.slice wa1 wv.length wc1) := (hbA.cell 1).trans rfl; have fb1 : v1.cell? ⟨w.heap.size + 1, 1, none⟩ = some (.slice wa2 wv.length wc2) := (hbB.cell 1).trans rfl; have fa2 : v1.cell? ⟨w.heap.size, 2, none⟩ = some (.slice na1 nv.length nc1) := (hbA.cell 2).trans rfl; have fb2 : v1.cell? ⟨w.heap.size + 1, 2, none⟩ = some (.slice na2 nv.length nc2) := (hbB.cell 2).trans rfl; have fa3 : v1.cell? ⟨w.heap.size, 3, none⟩ = some (.slice ia1 iv1.length ic1) := (hbA.cell 3).trans rfl; have fb3 : v1.cell? ⟨w.heap.size + 1, 3, none⟩ = some (.slice ia2 iv2.length ic2) := (hbB.cell 3).trans rfl; have fa4 : v1.cell? ⟨w.heap.size, 4, none⟩ = some (.slice ra1 rv1.length rc1) := (hbA.cell 4).trans rfl; have fb4 : v1.cell? ⟨w.heap.size + 1, 4, none⟩ = some (.slice ra2 rv2.length rc2) := (hbB.cell 4).trans rfl; have fa5 : v1.cell? ⟨w.heap.size, 5, none⟩ = some (.slice ca1 cv.length cc1) := (hbA.cell 5).trans rfl; have fb5 : v1.cell? ⟨w.heap.size + 1, 5, none⟩ = some (.slice ca2 cv.length cc2) := (hbB.cell 5).trans rfl)
  clear hbA0 hbB0 hB0
  clear fa1 fa2 fa3 fa4 fa5 fb1 fb2 fb3 fb4 fb5 HPS HP1 HP2 m1 m2 hb1
  go_loopw [5] (fun i wr => ∃ k : Nat, k ≤ wv.length ∧ i = .int .i64 k ∧ BoxAt wr w.heap.size 58 (encRegister ⟨⟨pa1, pc1, pv1⟩, ⟨wa1, wc1, wv⟩, ⟨na1, nc1, nv⟩, ⟨ia1, ic1, iv1⟩, ⟨ra1, rc1, rv1⟩, ⟨ca1, cc1, cv⟩⟩) ∧ BoxAt wr (w.heap.size + 1) 58 (encRegister ⟨⟨pa2, pc2, pv2⟩, ⟨wa2, wc2, wv⟩, ⟨na2, nc2, nv⟩, ⟨ia2, ic2, iv2⟩, ⟨ra2, rc2, rv2⟩, ⟨ca2, cc2, cv⟩⟩) ∧ Below w.heap.size w wr) (fun i _ => wv.length - (intOf i).toNat)
  case atStart => exact ⟨0, Nat.zero_le _, rfl, hbA, hbB, hB⟩
  case round =>
    clear hbA hbB hB
    obtain ⟨k, hk, hik, hbA, hbB, hB⟩ := hrel
    subst hik
    have hcA : wr.cell? ⟨w.heap.size, 1, none⟩ = some (.slice wa1 wv.length wc1) := (hbA.cell 1).trans rfl
    have hcB : wr.cell? ⟨w.heap.size + 1, 1, none⟩ = some (.slice wa2 wv.length wc2) := (hbB.cell 1).trans rfl
    by_cases hlt : k < wv.length
    · obtain ⟨x, hx⟩ : ∃ x, wv[k]? = some x := ⟨_, List.getElem?_eq_getElem hlt⟩
      have hi1 : (k : Int) < (wv.length : Int) := by omega
      obtain ⟨b, o, rfl, hb, _, _, hcell⟩ := (HW1.out).at hx
      obtain ⟨b2, o2, rfl, hb2, _, _, hcell2⟩ := (HW2.out).at hx
      have HC : Hid (∀ j, j < (encWhere x).size → wr.cell? ⟨b, o + k * 7 + j, none⟩ = (encWhere x)[j]?) := Lib.hid fun j hj => by rw [hB.cell (p := ⟨b, o + k * 7 + j, none⟩) hb]; exact hcell j hj
      have HC2 : Hid (∀ j, j < (encWhere x).size → wr.cell? ⟨b2, o2 + k * 7 + j, none⟩ = (encWhere x)[j]?) := Lib.hid fun j hj => by rw [hB.cell (p := ⟨b2, o2 + k * 7 + j, none⟩) hb2]; exact hcell2 j hj
      have hl1 : b < wr.heap.size := Nat.lt_of_lt_of_le hb hB.size
      have hl2 : b2 < wr.heap.size := Nat.lt_of_lt_of_le hb2 hB.size
      have heq : eqWhere x x = true := by simp [eqWhere]
      clear hx hcell hcell2 hb hb2
      go_wp2
      refine wp_region_ord [(0, true), (1, true), (2, true), (3, true), (4, true), (5, true), (6, true), (7, true), (8, true), (9, true), (10, true)] rfl (by kernel_rfl) (by kernel_rfl) (fun d _ _ _ _ h => by cases d <;> exact h) ?_
      refine wpB_fix rfl rfl (fun W hW => by go_simp; with_reducible rfl) ?_; simp only [pTs, pTn, pTz, pTc]
      refine wpB_fix (v := .slice (some ⟨b, o, none⟩) wv.length wc1) rfl rfl (fun W hW => by have e : W.cell? ⟨w.heap.size, 1, none⟩ = some (.slice (some ⟨b, o, none⟩) wv.length wc1) := ((hbA.drew.belowAll hW).cell 1).trans rfl; go_simp) ?_; simp only [pTs, pTn, pTz, pTc]
      iterate 2 (refine wpB_fix rfl rfl (fun W hW => by go_simp; with_reducible rfl) ?_; simp only [pTs, pTn, pTz, pTc])
      refine wpB_fix (v := .agg (encWhere x)) rfl rfl (fun W hW => run_load_mem (encWhere x) rfl (fun j hj => (hW.cell (p := ⟨b, o + k * 7 + j, none⟩) hl1).trans (HC.out j hj)) Tryz.underlying66 rfl (by kernel_rfl)) ?_; simp only [pTs, pTn, pTz, pTc]
      refine wpB_fix rfl rfl (fun W hW => by go_simp; with_reducible rfl) ?_; simp only [pTs, pTn, pTz, pTc]
      refine wpB_fix (v := .slice (some ⟨b2, o2, none⟩) wv.length wc2) rfl rfl (fun W hW => by have e : W.cell? ⟨w.heap.size + 1, 1, none⟩ = some (.slice (some ⟨b2, o2, none⟩) wv.length wc2) := ((hbB.drew.belowAll hW).cell 1).trans rfl; go_simp) ?_; simp only [pTs, pTn, pTz, pTc]
      iterate 2 (refine wpB_fix rfl rfl (fun W hW => by go_simp; with_reducible rfl) ?_; simp only [pTs, pTn, pTz, pTc])
      refine wpB_fix (v := .agg (encWhere x)) rfl rfl (fun W hW => run_load_mem (encWhere x) rfl (fun j hj => (hW.cell (p := ⟨b2, o2 + k * 7 + j, none⟩) hl2).trans (HC2.out j hj)) Tryz.underlying66 rfl (by kernel_rfl)) ?_; simp only [pTs, pTn, pTz, pTc]
      refine wpB_fix rfl rfl (fun W hW => by go_simp; with_reducible rfl) ?_; simp only [pTs, pTn, pTz, pTc]
      simp only [wpB]
      go_wp2
      go_roundw
      case rel => exact ⟨k + 1, by omega, by go_num, hbA.drew, hbB.drew, hB.drew⟩
      case measure => simp [intOf]; omega
    · have hi0 : ¬ (k : Int) < (wv.length : Int) := by omega
      go_wp2
      clear hi0 hlt hcA hcB hk
      go_loopw [6] (fun i wr => ∃ k : Nat, k ≤ nv.length ∧ i = .int .i64 k ∧ BoxAt wr w.heap.size 58 (encRegister ⟨⟨pa1, pc1, pv1⟩, ⟨wa1, wc1, wv⟩, ⟨na1, nc1, nv⟩, ⟨ia1, ic1, iv1⟩, ⟨ra1, rc1, rv1⟩, ⟨ca1, cc1, cv⟩⟩) ∧ BoxAt wr (w.heap.size + 1) 58 (encRegister ⟨⟨pa2, pc2, pv2⟩, ⟨wa2, wc2, wv⟩, ⟨na2, nc2, nv⟩, ⟨ia2, ic2, iv2⟩, ⟨ra2, rc2, rv2⟩, ⟨ca2, cc2, cv⟩⟩) ∧ Below w.heap.size w wr) (fun i _ => nv.length - (intOf i).toNat)
      case atStart => exact ⟨0, Nat.zero_le _, rfl, hbA, hbB, hB⟩
      case round =>
        clear hbA hbB hB
        obtain ⟨k, hk, hik, hbA, hbB, hB⟩ := hrel
        subst hik
        have hcA : wr.cell? ⟨w.heap.size, 2, none⟩ = some (.slice na1 nv.length nc1) := (hbA.cell 2).trans rfl
        have hcB : wr.cell? ⟨w.heap.size + 1, 2, none⟩ = some (.slice na2 nv.length nc2) := (hbB.cell 2).trans rfl
        by_cases hlt : k < nv.length
        · obtain ⟨x, hx⟩ : ∃ x, nv[k]? = some x := ⟨_, List.getElem?_eq_getElem hlt⟩
          have hi1 : (k : Int) < (nv.length : Int) := by omega
          obtain ⟨b, o, rfl, hb, _, _, hcell⟩ := (HN1.out).at hx
          obtain ⟨b2, o2, rfl, hb2, _, _, hcell2⟩ := (HN2.out).at hx
          have HC : Hid (∀ j, j < (encHeld x).size → wr.cell? ⟨b, o + k * 5 + j, none⟩ = (encHeld x)[j]?) := Lib.hid fun j hj => by rw [hB.cell (p := ⟨b, o + k * 5 + j, none⟩) hb]; exact hcell j hj
          have HC2 : Hid (∀ j, j < (encHeld x).size → wr.cell? ⟨b2, o2 + k * 5 + j, none⟩ = (encHeld x)[j]?) := Lib.hid fun j hj => by rw [hB.cell (p := ⟨b2, o2 + k * 5 + j, none⟩) hb2]; exact hcell2 j hj
          have hl1 : b < wr.heap.size := Nat.lt_of_lt_of_le hb hB.size
          have hl2 : b2 < wr.heap.size := Nat.lt_of_lt_of_le hb2 hB.size
          have heq : eqHeld x x = true := by simp [eqHeld]
          clear hx hcell hcell2 hb hb2
          go_wp2
          refine wp_region_ord [(0, true), (1, true), (2, true), (3, true), (4, true), (5, true), (6, true), (7, true), (8, true), (9, true), (10, true)] rfl (by kernel_rfl) (by kernel_rfl) (fun d _ _ _ _ h => by cases d <;> exact h) ?_
          refine wpB_fix rfl rfl (fun W hW => by go_simp; with_reducible rfl) ?_; simp only [pTs, pTn, pTz, pTc]
          refine wpB_fix (v := .slice (some ⟨b, o, none⟩) nv.length nc1) rfl rfl (fun W hW => by have e : W.cell? ⟨w.heap.size, 2, none⟩ = some (.slice (some ⟨b, o, none⟩) nv.length nc1) := ((hbA.drew.belowAll hW).cell 2).trans rfl; go_simp) ?_; simp only [pTs, pTn, pTz, pTc]
          iterate 2 (refine wpB_fix rfl rfl (fun W hW => by go_simp; with_reducible rfl) ?_; simp only [pTs, pTn, pTz, pTc])
          refine wpB_fix (v := .agg (encHeld x)) rfl rfl (fun W hW => run_load_mem (encHeld x) rfl (fun j hj => (hW.cell (p := ⟨b, o + k * 5 + j, none⟩) hl1).trans (HC.out j hj)) Tryz.underlying114 rfl (by kernel_rfl)) ?_; simp only [pTs, pTn, pTz, pTc]
          refine wpB_fix rfl rfl (fun W hW => by go_simp; with_reducible rfl) ?_; simp only [pTs, pTn, pTz, pTc]
          refine wpB_fix (v := .slice (some ⟨b2, o2, none⟩) nv.length nc2) rfl rfl (fun W hW => by have e : W.cell? ⟨w.heap.size + 1, 2, none⟩ = some (.slice (some ⟨b2, o2, none⟩) nv.length nc2) := ((hbB.drew.belowAll hW).cell 2).trans rfl; go_simp) ?_; simp only [pTs, pTn, pTz, pTc]
          iterate 2 (refine wpB_fix rfl rfl (fun W hW => by go_simp; with_reducible rfl) ?_; simp only [pTs, pTn, pTz, pTc])
          refine wpB_fix (v := .agg (encHeld x)) rfl rfl (fun W hW => run_load_mem (encHeld x) rfl (fun j hj => (hW.cell (p := ⟨b2, o2 + k * 5 + j, none⟩) hl2).trans (HC2.out j hj)) Tryz.underlying114 rfl (by kernel_rfl)) ?_; simp only [pTs, pTn, pTz, pTc]
          refine wpB_fix rfl rfl (fun W hW => by go_simp; with_reducible rfl) ?_; simp only [pTs, pTn, pTz, pTc]
          simp only [wpB]
          go_wp2
          go_roundw
          case rel => exact ⟨k + 1, by omega, by go_num, hbA.drew, hbB.drew, hB.drew⟩
          case measure => simp [intOf]; omega
        · have hi0 : ¬ (k : Int) < (nv.length : Int) := by omega
          go_wp2
          clear hi0 hlt hcA hcB hk
          go_loopw [7] (fun i wr => ∃ k : Nat, k ≤ iv1.length ∧ i = .int .i64 k ∧ BoxAt wr w.heap.size 58 (encRegister ⟨⟨pa1, pc1, pv1⟩, ⟨wa1, wc1, wv⟩, ⟨na1, nc1, nv⟩, ⟨ia1, ic1, iv1⟩, ⟨ra1, rc1, rv1⟩, ⟨ca1, cc1, cv⟩⟩) ∧ BoxAt wr (w.heap.size + 1) 58 (encRegister ⟨⟨pa2, pc2, pv2⟩, ⟨wa2, wc2, wv⟩, ⟨na2, nc2, nv⟩, ⟨ia2, ic2, iv2⟩, ⟨ra2, rc2, rv2⟩, ⟨ca2, cc2, cv⟩⟩) ∧ Below w.heap.size w wr) (fun i _ => iv1.length - (intOf i).toNat)
          case atStart => exact ⟨0, Nat.zero_le _, rfl, hbA, hbB, hB⟩
          case round =>
            clear hbA hbB hB
            obtain ⟨k, hk, hik, hbA, hbB, hB⟩ := hrel
            subst hik
            have hcA : wr.cell? ⟨w.heap.size, 3, none⟩ = some (.slice ia1 iv1.length ic1) := (hbA.cell 3).trans rfl
            have hcB : wr.cell? ⟨w.heap.size + 1, 3, none⟩ = some (.slice ia2 iv2.length ic2) := (hbB.cell 3).trans rfl
            by_cases hlt : k < iv1.length
            · have hlt2 : k < iv2.length := by have := HIL.out; omega
              obtain ⟨x, hx⟩ : ∃ x, iv1[k]? = some x := ⟨_, List.getElem?_eq_getElem hlt⟩
              obtain ⟨y, hy⟩ : ∃ y, iv2[k]? = some y := ⟨_, List.getElem?_eq_getElem hlt2⟩
              have hxy : y.abs = x.abs := by
                have h1 : (iv2.map Item.abs)[k]? = some y.abs := by rw [List.getElem?_map, hy]; rfl
                have h2 : (iv1.map Item.abs)[k]? = some x.abs := by rw [List.getElem?_map, hx]; rfl
                rw [← HIE.out, h2] at h1
                exact (Option.some.inj h1).symm
              have hi1 : (k : Int) < (iv1.length : Int) := by omega
              have hi2 : (k : Int) < (iv2.length : Int) := by omega
              obtain ⟨b, o, rfl, hb, _, hokx, hcell⟩ := (HI1.out).at hx
              obtain ⟨b2, o2, rfl, hb2, _, hoky, hcell2⟩ := (HI2.out).at hy
              have HC : Hid (∀ j, j < (encItem x).size → wr.cell? ⟨b, o + k * 12 + j, none⟩ = (encItem x)[j]?) := Lib.hid fun j hj => by rw [hB.cell (p := ⟨b, o + k * 12 + j, none⟩) hb]; exact hcell j hj
              have HC2 : Hid (∀ j, j < (encItem y).size → wr.cell? ⟨b2, o2 + k * 12 + j, none⟩ = (encItem y)[j]?) := Lib.hid fun j hj => by rw [hB.cell (p := ⟨b2, o2 + k * 12 + j, none⟩) hb2]; exact hcell2 j hj
              have hl1 : b < wr.heap.size := Nat.lt_of_lt_of_le hb hB.size
              have hl2 : b2 < wr.heap.size := Nat.lt_of_lt_of_le hb2 hB.size
              have HCL : Hid (∀ W, Below wr.heap.size wr W → Calls Tryz.prog 59 #[.agg (encItem x), .agg (encItem y)] W fun e w' => e = .returned (.bool true) ∧ Below W.heap.size W w') := Lib.hid fun W hW => by
                have h := refItem_g D x y W (okItem.ext hokx ((Ext.of_below hB).trans (Ext.of_below hW))) (okItem.ext hoky ((Ext.of_below hB).trans (Ext.of_below hW)))
                rw [decide_eq_true hxy] at h; exact h
              clear hx hy hcell hcell2 hb hb2 hxy hokx hoky
              go_wp2
              refine wp_region_ord [(0, true), (1, true), (2, true), (3, true), (4, true), (5, true), (6, true), (7, true), (8, true), (9, true), (10, false), (11, true)] rfl (by kernel_rfl) (by kernel_rfl) (fun d _ _ _ _ h => by cases d <;> exact h) ?_
              refine wpB_fix rfl rfl (fun W hW => by go_simp; with_reducible rfl) ?_; simp only [pTs, pTn, pTz, pTc]
              refine wpB_fix (v := .slice (some ⟨b, o, none⟩) iv1.length ic1) rfl rfl (fun W hW => by have e : W.cell? ⟨w.heap.size, 3, none⟩ = some (.slice (some ⟨b, o, none⟩) iv1.length ic1) := ((hbA.drew.belowAll hW).cell 3).trans rfl; go_simp) ?_; simp only [pTs, pTn, pTz, pTc]
              iterate 2 (refine wpB_fix rfl rfl (fun W hW => by go_simp; with_reducible rfl) ?_; simp only [pTs, pTn, pTz, pTc])
              refine wpB_fix (v := .agg (encItem x)) rfl rfl (fun W hW => run_load_mem (encItem x) rfl (fun j hj => (hW.cell (p := ⟨b, o + k * 12 + j, none⟩) hl1).trans (HC.out j hj)) Tryz.underlying38 rfl (by kernel_rfl)) ?_; simp only [pTs, pTn, pTz, pTc]
              refine wpB_fix rfl rfl (fun W hW => by go_simp; with_reducible rfl) ?_; simp only [pTs, pTn, pTz, pTc]
              refine wpB_fix (v := .slice (some ⟨b2, o2, none⟩) iv2.length ic2) rfl rfl (fun W hW => by have e : W.cell? ⟨w.heap.size + 1, 3, none⟩ = some (.slice (some ⟨b2, o2, none⟩) iv2.length ic2) := ((hbB.drew.belowAll hW).cell 3).trans rfl; go_simp) ?_; simp only [pTs, pTn, pTz, pTc]
              iterate 2 (refine wpB_fix rfl rfl (fun W hW => by go_simp; with_reducible rfl) ?_; simp only [pTs, pTn, pTz, pTc])
              refine wpB_fix (v := .agg (encItem y)) rfl rfl (fun W hW => run_load_mem (encItem y) rfl (fun j hj => (hW.cell (p := ⟨b2, o2 + k * 12 + j, none⟩) hl2).trans (HC2.out j hj)) Tryz.underlying38 rfl (by kernel_rfl)) ?_; simp only [pTs, pTn, pTz, pTc]
              refine wpB_act rfl rfl (fun K hK => ?_)
              go_simp
              refine (HCL.out _ ((Below.refl _ _).drew)).mono ?_
              rintro e w1 ⟨rfl, hb1⟩
              refine hK _ _ hb1 ?_
              clear hK K
              try simp only [pTs, pTn, pTz, pTc]
              refine wpB_fix rfl rfl (fun W hW => by go_simp; with_reducible rfl) ?_; simp only [pTs, pTn, pTz, pTc]
              simp only [wpB]
              go_wp2
              go_roundw
              case rel => exact ⟨k + 1, by omega, by go_num, hbA.drew.belowAll hb1, hbB.drew.belowAll hb1, hB.drew.trans (hb1.mono hB.drew.size)⟩
              case measure => simp [intOf]; omega
            · have hi0 : ¬ (k : Int) < (iv1.length : Int) := by omega
              go_wp2
              clear hi0 hlt hcA hcB hk
              go_loopw [8] (fun i wr => ∃ k : Nat, k ≤ rv1.length ∧ i = .int .i64 k ∧ BoxAt wr w.heap.size 58 (encRegister ⟨⟨pa1, pc1, pv1⟩, ⟨wa1, wc1, wv⟩, ⟨na1, nc1, nv⟩, ⟨ia1, ic1, iv1⟩, ⟨ra1, rc1, rv1⟩, ⟨ca1, cc1, cv⟩⟩) ∧ BoxAt wr (w.heap.size + 1) 58 (encRegister ⟨⟨pa2, pc2, pv2⟩, ⟨wa2, wc2, wv⟩, ⟨na2, nc2, nv⟩, ⟨ia2, ic2, iv2⟩, ⟨ra2, rc2, rv2⟩, ⟨ca2, cc2, cv⟩⟩) ∧ Below w.heap.size w wr) (fun i _ => rv1.length - (intOf i).toNat)
              case atStart => exact ⟨0, Nat.zero_le _, rfl, hbA, hbB, hB⟩
              case round =>
                clear hbA hbB hB
                obtain ⟨k, hk, hik, hbA, hbB, hB⟩ := hrel
                subst hik
                have hcA : wr.cell? ⟨w.heap.size, 4, none⟩ = some (.slice ra1 rv1.length rc1) := (hbA.cell 4).trans rfl
                have hcB : wr.cell? ⟨w.heap.size + 1, 4, none⟩ = some (.slice ra2 rv2.length rc2) := (hbB.cell 4).trans rfl
                by_cases hlt : k < rv1.length
                · have hlt2 : k < rv2.length := by have := HRL.out; omega
                  obtain ⟨x, hx⟩ : ∃ x, rv1[k]? = some x := ⟨_, List.getElem?_eq_getElem hlt⟩
                  obtain ⟨y, hy⟩ : ∃ y, rv2[k]? = some y := ⟨_, List.getElem?_eq_getElem hlt2⟩
                  have hxy : y.abs = x.abs := by
                    have h1 : (rv2.map Relead.abs)[k]? = some y.abs := by rw [List.getElem?_map, hy]; rfl
                    have h2 : (rv1.map Relead.abs)[k]? = some x.abs := by rw [List.getElem?_map, hx]; rfl
                    rw [← HRE.out, h2] at h1
                    exact (Option.some.inj h1).symm
                  have hi1 : (k : Int) < (rv1.length : Int) := by omega
                  have hi2 : (k : Int) < (rv2.length : Int) := by omega
                  obtain ⟨b, o, rfl, hb, _, hokx, hcell⟩ := (HR1.out).at hx
                  obtain ⟨b2, o2, rfl, hb2, _, hoky, hcell2⟩ := (HR2.out).at hy
                  have HC : Hid (∀ j, j < (encRelead x).size → wr.cell? ⟨b, o + k * 2 + j, none⟩ = (encRelead x)[j]?) := Lib.hid fun j hj => by rw [hB.cell (p := ⟨b, o + k * 2 + j, none⟩) hb]; exact hcell j hj
                  have HC2 : Hid (∀ j, j < (encRelead y).size → wr.cell? ⟨b2, o2 + k * 2 + j, none⟩ = (encRelead y)[j]?) := Lib.hid fun j hj => by rw [hB.cell (p := ⟨b2, o2 + k * 2 + j, none⟩) hb2]; exact hcell2 j hj
                  have hl1 : b < wr.heap.size := Nat.lt_of_lt_of_le hb hB.size
                  have hl2 : b2 < wr.heap.size := Nat.lt_of_lt_of_le hb2 hB.size
                  have hyr : y.year = x.year := by have := congrArg ReleadA.year hxy; exact this
                  have hpv : y.panes.val = x.panes.val := by have := congrArg ReleadA.panes hxy; exact this
                  have hr1 : wr.cell? ⟨b, o + k * 2, none⟩ = some (vi x.year) := (HC.out 0 (by show 0 < 2; decide)).trans rfl
                  have hr2 : wr.cell? ⟨b2, o2 + k * 2, none⟩ = some (vi x.year) := by rw [← hyr]; exact (HC2.out 0 (by show 0 < 2; decide)).trans rfl
                  have hq1 : wr.cell? ⟨b, o + k * 2 + 1, none⟩ = some (.slice x.panes.a x.panes.val.length x.panes.cap) := (HC.out 1 (by show 1 < 2; decide)).trans rfl
                  have hq2 : wr.cell? ⟨b2, o2 + k * 2 + 1, none⟩ = some (.slice y.panes.a y.panes.val.length y.panes.cap) := (HC2.out 1 (by show 1 < 2; decide)).trans rfl
                  have HCL : Hid (∀ W, Below wr.heap.size wr W → Calls Tryz.prog 60 #[.slice x.panes.a x.panes.val.length x.panes.cap, .slice y.panes.a y.panes.val.length y.panes.cap] W fun e w' => e = .returned (.bool true) ∧ Below W.heap.size W w') := Lib.hid fun W hW => by
                    have h := refInts_g D x.panes y.panes W (Sl.OK.ext (w := w) (w' := W) (fun _ h => h) hokx.2 ((Ext.of_below hB).trans (Ext.of_below hW))) (Sl.OK.ext (w := w) (w' := W) (fun _ h => h) hoky.2 ((Ext.of_below hB).trans (Ext.of_below hW)))
                    rw [decide_eq_true hpv] at h; exact h
                  clear hyr hpv
                  clear hx hy hcell hcell2 hb hb2 hxy hokx hoky
                  go_wp2
                  refine wp_region_ord [(0, true), (1, true), (2, true), (3, true), (4, true), (5, true), (6, true), (7, true), (8, true), (9, true), (10, true), (11, true), (12, true), (13, true), (14, true), (15, true), (16, true), (17, true), (18, true), (19, true), (20, true), (21, true), (22, true), (23, true), (24, true), (25, true), (26, false), (27, true), (28, true)] rfl (by kernel_rfl) (by kernel_rfl) (fun d _ _ _ _ h => by cases d <;> exact h) ?_
                  refine wpB_fix rfl rfl (fun W hW => by go_simp; with_reducible rfl) ?_; simp only [pTs, pTn, pTz, pTc]
                  refine wpB_fix (v := .slice (some ⟨b, o, none⟩) rv1.length rc1) rfl rfl (fun W hW => by have e : W.cell? ⟨w.heap.size, 4, none⟩ = some (.slice (some ⟨b, o, none⟩) rv1.length rc1) := ((hbA.drew.belowAll hW).cell 4).trans rfl; go_simp) ?_; simp only [pTs, pTn, pTz, pTc]
                  iterate 3 (refine wpB_fix rfl rfl (fun W hW => by go_simp; with_reducible rfl) ?_; simp only [pTs, pTn, pTz, pTc])
                  refine wpB_fix (v := vi x.year) rfl rfl (fun W hW => by have e := (hW.cell (p := ⟨b, o + k * 2, none⟩) hl1).trans hr1; go_simp) ?_; simp only [pTs, pTn, pTz, pTc]
                  refine wpB_fix rfl rfl (fun W hW => by go_simp; with_reducible rfl) ?_; simp only [pTs, pTn, pTz, pTc]
                  refine wpB_fix (v := .slice (some ⟨b2, o2, none⟩) rv2.length rc2) rfl rfl (fun W hW => by have e : W.cell? ⟨w.heap.size + 1, 4, none⟩ = some (.slice (some ⟨b2, o2, none⟩) rv2.length rc2) := ((hbB.drew.belowAll hW).cell 4).trans rfl; go_simp) ?_; simp only [pTs, pTn, pTz, pTc]
                  iterate 3 (refine wpB_fix rfl rfl (fun W hW => by go_simp; with_reducible rfl) ?_; simp only [pTs, pTn, pTz, pTc])
                  refine wpB_fix (v := vi x.year) rfl rfl (fun W hW => by have e := (hW.cell (p := ⟨b2, o2 + k * 2, none⟩) hl2).trans hr2; go_simp) ?_; simp only [pTs, pTn, pTz, pTc]
                  iterate 3 (refine wpB_fix rfl rfl (fun W hW => by go_simp; with_reducible rfl) ?_; simp only [pTs, pTn, pTz, pTc])
                  refine wpB_fix (v := .slice (some ⟨b, o, none⟩) rv1.length rc1) rfl rfl (fun W hW => by have e : W.cell? ⟨w.heap.size, 4, none⟩ = some (.slice (some ⟨b, o, none⟩) rv1.length rc1) := ((hbA.drew.belowAll hW).cell 4).trans rfl; go_simp) ?_; simp only [pTs, pTn, pTz, pTc]
                  iterate 3 (refine wpB_fix rfl rfl (fun W hW => by go_simp; with_reducible rfl) ?_; simp only [pTs, pTn, pTz, pTc])
                  refine wpB_fix (v := .slice x.panes.a x.panes.val.length x.panes.cap) rfl rfl (fun W hW => by have e := (hW.cell (p := ⟨b, o + k * 2 + 1, none⟩) hl1).trans hq1; go_simp) ?_; simp only [pTs, pTn, pTz, pTc]
                  refine wpB_fix rfl rfl (fun W hW => by go_simp; with_reducible rfl) ?_; simp only [pTs, pTn, pTz, pTc]
                  refine wpB_fix (v := .slice (some ⟨b2, o2, none⟩) rv2.length rc2) rfl rfl (fun W hW => by have e : W.cell? ⟨w.heap.size + 1, 4, none⟩ = some (.slice (some ⟨b2, o2, none⟩) rv2.length rc2) := ((hbB.drew.belowAll hW).cell 4).trans rfl; go_simp) ?_; simp only [pTs, pTn, pTz, pTc]
                  iterate 3 (refine wpB_fix rfl rfl (fun W hW => by go_simp; with_reducible rfl) ?_; simp only [pTs, pTn, pTz, pTc])
                  refine wpB_fix (v := .slice y.panes.a y.panes.val.length y.panes.cap) rfl rfl (fun W hW => by have e := (hW.cell (p := ⟨b2, o2 + k * 2 + 1, none⟩) hl2).trans hq2; go_simp) ?_; simp only [pTs, pTn, pTz, pTc]
                  refine wpB_act rfl rfl (fun K hK => ?_)
                  go_simp
                  refine (HCL.out _ ((Below.refl _ _).drew)).mono ?_
                  rintro e w1 ⟨rfl, hb1⟩
                  refine hK _ _ hb1 ?_
                  clear hK K
                  try simp only [pTs, pTn, pTz, pTc]
                  iterate 2 (refine wpB_fix rfl rfl (fun W hW => by go_simp; with_reducible rfl) ?_; simp only [pTs, pTn, pTz, pTc])
                  simp only [wpB]
                  go_wp2
                  go_roundw
                  case rel => exact ⟨k + 1, by omega, by go_num, hbA.drew.belowAll hb1, hbB.drew.belowAll hb1, hB.drew.trans (hb1.mono hB.drew.size)⟩
                  case measure => simp [intOf]; omega
                · have hi0 : ¬ (k : Int) < (rv1.length : Int) := by omega
                  go_wp2
                  clear hi0 hlt hcA hcB hk
                  go_loopw [9] (fun i wr => ∃ k : Nat, k ≤ cv.length ∧ i = .int .i64 k ∧ BoxAt wr w.heap.size 58 (encRegister ⟨⟨pa1, pc1, pv1⟩, ⟨wa1, wc1, wv⟩, ⟨na1, nc1, nv⟩, ⟨ia1, ic1, iv1⟩, ⟨ra1, rc1, rv1⟩, ⟨ca1, cc1, cv⟩⟩) ∧ BoxAt wr (w.heap.size + 1) 58 (encRegister ⟨⟨pa2, pc2, pv2⟩, ⟨wa2, wc2, wv⟩, ⟨na2, nc2, nv⟩, ⟨ia2, ic2, iv2⟩, ⟨ra2, rc2, rv2⟩, ⟨ca2, cc2, cv⟩⟩) ∧ Below w.heap.size w wr) (fun i _ => cv.length - (intOf i).toNat)
                  case atStart => exact ⟨0, Nat.zero_le _, rfl, hbA, hbB, hB⟩
                  case round =>
                    clear hbA hbB hB
                    obtain ⟨k, hk, hik, hbA, hbB, hB⟩ := hrel
                    subst hik
                    have hcA : wr.cell? ⟨w.heap.size, 5, none⟩ = some (.slice ca1 cv.length cc1) := (hbA.cell 5).trans rfl
                    have hcB : wr.cell? ⟨w.heap.size + 1, 5, none⟩ = some (.slice ca2 cv.length cc2) := (hbB.cell 5).trans rfl
                    by_cases hlt : k < cv.length
                    · obtain ⟨x, hx⟩ : ∃ x, cv[k]? = some x := ⟨_, List.getElem?_eq_getElem hlt⟩
                      have hi1 : (k : Int) < (cv.length : Int) := by omega
                      obtain ⟨b, o, rfl, hb, _, _, hcell⟩ := (HC1.out).at hx
                      obtain ⟨b2, o2, rfl, hb2, _, _, hcell2⟩ := (HC2.out).at hx
                      have HC : Hid (∀ j, j < (encRef x).size → wr.cell? ⟨b, o + k * 2 + j, none⟩ = (encRef x)[j]?) := Lib.hid fun j hj => by rw [hB.cell (p := ⟨b, o + k * 2 + j, none⟩) hb]; exact hcell j hj
                      have HC2 : Hid (∀ j, j < (encRef x).size → wr.cell? ⟨b2, o2 + k * 2 + j, none⟩ = (encRef x)[j]?) := Lib.hid fun j hj => by rw [hB.cell (p := ⟨b2, o2 + k * 2 + j, none⟩) hb2]; exact hcell2 j hj
                      have hl1 : b < wr.heap.size := Nat.lt_of_lt_of_le hb hB.size
                      have hl2 : b2 < wr.heap.size := Nat.lt_of_lt_of_le hb2 hB.size
                      have heq : eqRef x x = true := by simp [eqRef]
                      clear hx hcell hcell2 hb hb2
                      go_wp2
                      refine wp_region_ord [(0, true), (1, true), (2, true), (3, true), (4, true), (5, true), (6, true), (7, true), (8, true), (9, true), (10, true)] rfl (by kernel_rfl) (by kernel_rfl) (fun d _ _ _ _ h => by cases d <;> exact h) ?_
                      refine wpB_fix rfl rfl (fun W hW => by go_simp; with_reducible rfl) ?_; simp only [pTs, pTn, pTz, pTc]
                      refine wpB_fix (v := .slice (some ⟨b, o, none⟩) cv.length cc1) rfl rfl (fun W hW => by have e : W.cell? ⟨w.heap.size, 5, none⟩ = some (.slice (some ⟨b, o, none⟩) cv.length cc1) := ((hbA.drew.belowAll hW).cell 5).trans rfl; go_simp) ?_; simp only [pTs, pTn, pTz, pTc]
                      iterate 2 (refine wpB_fix rfl rfl (fun W hW => by go_simp; with_reducible rfl) ?_; simp only [pTs, pTn, pTz, pTc])
                      refine wpB_fix (v := .agg (encRef x)) rfl rfl (fun W hW => run_load_mem (encRef x) rfl (fun j hj => (hW.cell (p := ⟨b, o + k * 2 + j, none⟩) hl1).trans (HC.out j hj)) Tryz.underlying31 rfl (by kernel_rfl)) ?_; simp only [pTs, pTn, pTz, pTc]
                      refine wpB_fix rfl rfl (fun W hW => by go_simp; with_reducible rfl) ?_; simp only [pTs, pTn, pTz, pTc]
                      refine wpB_fix (v := .slice (some ⟨b2, o2, none⟩) cv.length cc2) rfl rfl (fun W hW => by have e : W.cell? ⟨w.heap.size + 1, 5, none⟩ = some (.slice (some ⟨b2, o2, none⟩) cv.length cc2) := ((hbB.drew.belowAll hW).cell 5).trans rfl; go_simp) ?_; simp only [pTs, pTn, pTz, pTc]
                      iterate 2 (refine wpB_fix rfl rfl (fun W hW => by go_simp; with_reducible rfl) ?_; simp only [pTs, pTn, pTz, pTc])
                      refine wpB_fix (v := .agg (encRef x)) rfl rfl (fun W hW => run_load_mem (encRef x) rfl (fun j hj => (hW.cell (p := ⟨b2, o2 + k * 2 + j, none⟩) hl2).trans (HC2.out j hj)) Tryz.underlying31 rfl (by kernel_rfl)) ?_; simp only [pTs, pTn, pTz, pTc]
                      refine wpB_fix rfl rfl (fun W hW => by go_simp; with_reducible rfl) ?_; simp only [pTs, pTn, pTz, pTc]
                      simp only [wpB]
                      go_wp2
                      go_roundw
                      case rel => exact ⟨k + 1, by omega, by go_num, hbA.drew, hbB.drew, hB.drew⟩
                      case measure => simp [intOf]; omega
                    · have hi0 : ¬ (k : Int) < (cv.length : Int) := by omega
                      go_wp2
                      clear hi0 hlt hcA hcB hk
                      go_ret
                      exact ⟨by simp, hB⟩

/-- two registers that say the same -/
theorem refRegister_eq (D : Nat → Prop) (R S : Register) (w : World) (h1 : okRegister D w R) (h2 : okRegister D w S) (h : R.abs = S.abs) :
    Calls Tryz.prog 26 #[.agg (encRegister R), .agg (encRegister S)] w fun e w' => e = .returned (.bool true) ∧ Below w.heap.size w w' := by
  obtain ⟨⟨pa1, pc1, pv1⟩, ⟨wa1, wc1, wv⟩, ⟨na1, nc1, nv⟩, ⟨ia1, ic1, iv1⟩, ⟨ra1, rc1, rv1⟩, ⟨ca1, cc1, cv⟩⟩ := R
  obtain ⟨⟨pa2, pc2, pv2⟩, ⟨wa2, wc2, wv2⟩, ⟨na2, nc2, nv2⟩, ⟨ia2, ic2, iv2⟩, ⟨ra2, rc2, rv2⟩, ⟨ca2, cc2, cv2⟩⟩ := S
  simp only [Register.abs, RegisterA.mk.injEq] at h
  obtain ⟨e1, rfl, rfl, e4, e5, rfl⟩ := h
  exact refRegister_same D _ _ _ _ _ _ _ _ _ _ _ _ _ _ _ _ _ _ _ _ _ _ _ _ _ _ _ _ _ _ _ _ _ w h1 h2 e1 e4 e5
end Go.Proofs.YtendmmhfjhgdaaaGreat
