/-
  Lists of pieces that are valid and rise; pieces that are equal: walked.
-/
import Derived.Test.YtnmgfnpphglphaaGreatNotes1
import Derived.Test.YtnmgfnpphglphaaGreatOrd
set_option maxHeartbeats 16000000
set_option maxRecDepth 100000
set_option linter.unusedVariables false
set_option linter.unusedSimpArgs false
namespace Go.Proofs.YtnmgfnpphglphaaGreat
open Go.RowKit
theorem piecesUpB_false {l : List Piece} {k : Nat} (h : piecesUpB (l.take k) = false) : piecesUpB l = false := by
 simp only [piecesUpB, Bool.and_eq_false_iff] at h ⊢
 rcases h with h | h
 ·refine .inl ?_
  rw [List.all_eq_false] at h ⊢
  obtain ⟨z, hz, hz2⟩ := h
  exact ⟨z, List.mem_of_mem_take hz, hz2⟩
 ·exact .inr (chainB_false _ h)
theorem validPieces_any (D : Nat → Prop) (s : Sl Piece) (most : Int) (w : World) (hs : s.OK 7 encPiece okPiece D w) :
  Calls Tryz.prog 179 #[.slice s.a s.val.length s.cap, .int .i64 most] w fun e w' => e = .returned (.bool (validPiecesB s.val most)) ∧ Below w.heap.size w w' := by
 have hroom := hs.room
 have HS := Lib.hid hs
 clear hs
 obtain ⟨a, cap, val⟩ := s
 simp only at hroom
 go_enter Tryz.func179, Tryz.ntmps179
 go_wp2
 go_loopw [5, 6, 9] (fun _ _ i wr => ∃ k : Nat, k ≤ val.length ∧ i = .int .i64 k ∧ Hid (piecesUpB (val.take k) = true) ∧ Below w.heap.size w wr) (fun _ _ i _ => val.length - (intOf i).toNat)
 case atStart => exact ⟨0, Nat.zero_le _, rfl, Lib.hid (by simp [piecesUpB, chainB]), Below.refl _ _⟩
 case round =>
  obtain ⟨k, hk, rfl, hn, hB⟩ := hrel
  by_cases hlt : k < val.length
  ·obtain ⟨y, hy⟩ : ∃ y, val[k]? = some y := ⟨_, List.getElem?_eq_getElem hlt⟩
   obtain ⟨b, o, rfl, hb, _, hok, hcell⟩ := HS.out.at hy
   have hBB := Ext.of_below (D := fun _ => False) hB
   have hbr : b < wr.heap.size := Nat.lt_of_lt_of_le hb hB.size
   have hbne : wr.heap.size ≠ b := Nat.ne_of_gt hbr
   have HC : Hid (∀ j, j < (encPiece y).size → wr.cell? ⟨b, o + k * 7 + j, none⟩ = (encPiece y)[j]?) := Lib.hid fun j hj => by
    rw [hBB.cell hb id]; exact hcell j hj
   have hi1 : (k : Int) < (val.length : Int) := by omega
   have HY := Lib.hid hy
   have hokr : okPiece D wr y := okPiece.ext hok (.of_below hB)
   have HV : Hid (∀ W, Below wr.heap.size wr W → Calls Tryz.prog 200 #[.agg (encPiece y)] W fun e w' => e = .returned (.bool (validPieceB y)) ∧ Below W.heap.size W w') :=
    Lib.hid fun W hW => validPiece_any D y W (okPiece.ext hokr (.of_below hW))
   have hnotin : Hid (validPieceB y = false → piecesUpB val = false) := Lib.hid fun h => by
    have : val.all validPieceB = false := by
     rw [List.all_eq_false]; exact ⟨y, List.mem_of_getElem? hy, by simp [h]⟩
    simp [piecesUpB, this]
   have hstep : Hid (∀ m, k = m + 1 → ∀ x, val[m]? = some x → piecesUpB (val.take (k + 1)) = (validPieceB y && decide (x.id < y.id))) := Lib.hid fun m hm x hx => by
    subst hm
    have h1 := hn.out
    simp only [piecesUpB, Bool.and_eq_true] at h1 ⊢
    rw [chainB_take _ hx hy, h1.2, List.take_add_one, hy]
    simp only [Option.toList, List.all_append, h1.1, List.all_cons, List.all_nil, Bool.true_and, Bool.and_true]
   clear hy hcell hok hokr
   by_cases hin : validPieceB y = true
   ·cases k with
    | zero =>
     have hd : decide ((0 : Int) < 0) = false := by simp
     have HR : Hid (piecesUpB (val.take 1) = true) := Lib.hid (by rw [List.take_add_one, HY.out]; simp [piecesUpB, chainB, hin])
     simp only [Nat.zero_mul, Nat.add_zero] at HC
     rw [show ((0 : Nat) : Int) = 0 from rfl]
     go_wp2_with (first
      | (refine wpList_load_at (o := ⟨some 13, _, _, _, _, _⟩) rfl 93 _ rfl b o rfl (encPiece y) _ HC.out Tryz.underlying93 rfl (by kernel_rfl) ?_)
      | (refine wpList_store_new (o := ⟨none, _, _, _, _, _⟩) rfl 93 _ _ rfl wr _ (encPiece y) rfl rfl (by kernel_rfl) rfl (encPiece_one y) ?_))
     refine wp_region_ord [(0, true), (1, false), (2, true), (3, true), (4, true), (5, true), (6, true), (7, true), (8, true), (9, true), (10, true), (11, true), (12, true), (13, true), (14, true), (15, true), (16, true), (17, true)] rfl (by kernel_rfl) (by kernel_rfl) (fun d _ _ _ _ h => by cases d <;> exact h) ?_
     refine wpB_fix (v := ?_) rfl rfl ?_ ?_; rotate_left; (focus (intro W hW; have hWc := fun b o => hW.cell (p := ⟨b, o, none⟩); go_simp; try with_reducible rfl)); simp only [pTs, pTn, pTz, pTc]
     refine wpB_act rfl rfl (fun K hK => ?_)
     go_simp
     refine (HV.out _ (((Below.refl _ _).alloc (Nat.le_refl _) _).drew)).mono ?_
     rintro e w1 ⟨rfl, hb1⟩
     refine hK _ _ hb1 ?_
     clear hK K
     try simp only [hin, pTs, pTn, pTz, pTc]
     iterate 5 (refine wpB_fix rfl rfl (fun W hW => by go_simp; with_reducible rfl) ?_; simp only [pTs, pTn, pTz, pTc])
     iterate 9 (refine wpB_skip rfl rfl ?_; simp only [pTs, pTn, pTz, pTc])
     iterate 2 (refine wpB_fix rfl rfl (fun W hW => by go_simp; with_reducible rfl) ?_; simp only [pTs, pTn, pTz, pTc])
     simp only [wpB]
     have hB1 : Below w.heap.size w w1 := ((hB.alloc hB.size _).drew).trans (hb1.mono (Nat.le_trans hB.size (by simp)))
     go_wp2
     go_roundw
     case rel => exact ⟨1, by omega, by go_num, HR, hB1⟩
     case measure => simp [intOf]; omega
    | succ m =>
     obtain ⟨x, hx⟩ : ∃ x, val[m]? = some x := ⟨_, List.getElem?_eq_getElem (by omega)⟩
     have hcell2 := HS.out.cell b o rfl _ _ hx
     have hc1 : wr.cell? ⟨b, o + m * 7, none⟩ = some (vi x.id) := by
      rw [hBB.cell hb id]; exact (by simpa [go_sem] using hcell2 0 (by decide))
     have HST := Lib.hid (hstep.out m rfl x hx)
     clear hx hcell2 hBB
     have h1 : IntKind.i64.wrap (m : Int) = m := IntWalk.i64_in _ (by omega)
     have h2 : (m : Int) < (val.length : Int) := by omega
     have h6 : (0 : Int) < (m : Int) + 1 := by omega
     have h3 : (m : Int) + 1 < (val.length : Int) := by omega
     have h4 : (0 : Int) ≤ (m : Int) + 1 := by omega
     have h5 : ((m : Int) + 1).toNat = m + 1 := by omega
     by_cases hxy : x.id < y.id
     ·have hd : decide (y.id ≤ x.id) = false := by simp; omega
      have HR : Hid (piecesUpB (val.take (m + 2)) = true) := Lib.hid (by rw [HST.out]; simp [hin, hxy])
      go_wp2_with (first
       | (refine wpList_load_at (o := ⟨some 13, _, _, _, _, _⟩) rfl 93 _ rfl b (o + (m + 1) * 7) rfl (encPiece y) _ HC.out Tryz.underlying93 rfl (by kernel_rfl) ?_)
       | (refine wpList_store_new (o := ⟨none, _, _, _, _, _⟩) rfl 93 _ _ rfl wr _ (encPiece y) rfl rfl (by kernel_rfl) rfl (encPiece_one y) ?_))
      go_region_held3 (fun W => W.cell? ⟨wr.heap.size, 0, none⟩ = some (vi y.id) ∧ W.cell? ⟨wr.heap.size, 1, none⟩ = some (vi y.colour) ∧ W.cell? ⟨wr.heap.size, 2, none⟩ = some (vi y.reverse) ∧ W.cell? ⟨wr.heap.size, 3, none⟩ = some (vi y.made) ∧ W.cell? ⟨wr.heap.size, 4, none⟩ = some (vi y.swell) ∧ W.cell? ⟨wr.heap.size, 5, none⟩ = some (y.gauges.v) ∧ W.cell? ⟨wr.heap.size, 6, none⟩ = some (y.marks.v) ∧ W.cell? ⟨b, o + m * 7, none⟩ = some (vi x.id)) (simp [go_sem, *, World.cell?_alloc_some])
       (first
        | (go_at_call 200; refine (HV.out _ (((Below.refl _ _).alloc (Nat.le_refl _) _).drew)).mono ?_; rintro e w1 ⟨rfl, hb1⟩; have hE : ∀ o', w1.cell? ⟨wr.heap.size, o', none⟩ = _ := fun o' => hb1.cell (p := ⟨wr.heap.size, o', none⟩) (by simp); have hE2 : ∀ o', w1.cell? ⟨b, o', none⟩ = _ := fun o' => hb1.cell (p := ⟨b, o', none⟩) (by simp; omega)))
      have hB1 : Below w.heap.size w w1 := ((hB.alloc hB.size _).drew).trans (hb1.mono (Nat.le_trans hB.size (by simp)))
      clear h1 h2 h4 h5 h6
      go_wp2
      all_goals try (exfalso; omega)
      go_roundw
      case rel => exact ⟨m + 2, by omega, by go_num, HR, hB1⟩
      case measure => simp [intOf]; omega
     ·have hd : decide (y.id ≤ x.id) = true := by simp; omega
      have HF : Hid (piecesUpB val = false) := Lib.hid (piecesUpB_false (k := m + 1 + 1) (by rw [HST.out, decide_eq_false hxy, Bool.and_false]))
      go_wp2_with (first
       | (refine wpList_load_at (o := ⟨some 13, _, _, _, _, _⟩) rfl 93 _ rfl b (o + (m + 1) * 7) rfl (encPiece y) _ HC.out Tryz.underlying93 rfl (by kernel_rfl) ?_)
       | (refine wpList_store_new (o := ⟨none, _, _, _, _, _⟩) rfl 93 _ _ rfl wr _ (encPiece y) rfl rfl (by kernel_rfl) rfl (encPiece_one y) ?_))
      go_region_held3 (fun W => W.cell? ⟨wr.heap.size, 0, none⟩ = some (vi y.id) ∧ W.cell? ⟨wr.heap.size, 1, none⟩ = some (vi y.colour) ∧ W.cell? ⟨wr.heap.size, 2, none⟩ = some (vi y.reverse) ∧ W.cell? ⟨wr.heap.size, 3, none⟩ = some (vi y.made) ∧ W.cell? ⟨wr.heap.size, 4, none⟩ = some (vi y.swell) ∧ W.cell? ⟨wr.heap.size, 5, none⟩ = some (y.gauges.v) ∧ W.cell? ⟨wr.heap.size, 6, none⟩ = some (y.marks.v) ∧ W.cell? ⟨b, o + m * 7, none⟩ = some (vi x.id)) (simp [go_sem, *, World.cell?_alloc_some])
       (first
        | (go_at_call 200; refine (HV.out _ (((Below.refl _ _).alloc (Nat.le_refl _) _).drew)).mono ?_; rintro e w1 ⟨rfl, hb1⟩; have hE : ∀ o', w1.cell? ⟨wr.heap.size, o', none⟩ = _ := fun o' => hb1.cell (p := ⟨wr.heap.size, o', none⟩) (by simp); have hE2 : ∀ o', w1.cell? ⟨b, o', none⟩ = _ := fun o' => hb1.cell (p := ⟨b, o', none⟩) (by simp; omega)))
      have hB1 : Below w.heap.size w w1 := ((hB.alloc hB.size _).drew).trans (hb1.mono (Nat.le_trans hB.size (by simp)))
      clear h1 h2 h4 h5 h6
      go_wp2
      all_goals try (exfalso; omega)
      go_ret
      exact ⟨by simp [validPiecesB, HF.out], hB1⟩
   ·have hin' : validPieceB y = false := by simpa using hin
    clear hin hBB
    go_wp2_with (first
     | (refine wpList_load_at (o := ⟨some 13, _, _, _, _, _⟩) rfl 93 _ rfl b (o + k * 7) rfl (encPiece y) _ HC.out Tryz.underlying93 rfl (by kernel_rfl) ?_)
     | (refine wpList_store_new (o := ⟨none, _, _, _, _, _⟩) rfl 93 _ _ rfl wr _ (encPiece y) rfl rfl (by kernel_rfl) rfl (encPiece_one y) ?_))
    refine wp_region_ord [(0, true), (1, false), (2, true), (3, true), (4, true), (5, true), (6, true), (7, true), (8, true), (9, true), (10, true), (11, true), (12, true), (13, true), (14, true), (15, true), (16, true), (17, true)] rfl (by kernel_rfl) (by kernel_rfl) (fun d _ _ _ _ h => by cases d <;> exact h) ?_
    refine wpB_fix (v := ?_) rfl rfl ?_ ?_; rotate_left; (focus (intro W hW; have hWc := fun b o => hW.cell (p := ⟨b, o, none⟩); go_simp; try with_reducible rfl)); simp only [pTs, pTn, pTz, pTc]
    refine wpB_act rfl rfl (fun K hK => ?_)
    go_simp
    refine (HV.out _ (((Below.refl _ _).alloc (Nat.le_refl _) _).drew)).mono ?_
    rintro e w1 ⟨rfl, hb1⟩
    refine hK _ _ hb1 ?_
    clear hK K
    try simp only [hin', pTs, pTn, pTz, pTc]
    iterate 2 (refine wpB_fix rfl rfl (fun W hW => by go_simp; with_reducible rfl) ?_; simp only [pTs, pTn, pTz, pTc])
    iterate 13 (refine wpB_skip rfl rfl ?_; simp only [pTs, pTn, pTz, pTc])
    refine wpB_fix rfl rfl (fun W hW => by go_simp; with_reducible rfl) ?_; simp only [pTs, pTn, pTz, pTc]
    simp only [wpB]
    have hB1 : Below w.heap.size w w1 := ((hB.alloc hB.size _).drew).trans (hb1.mono (Nat.le_trans hB.size (by simp)))
    go_wp2
    go_ret
    exact ⟨by simp [validPiecesB, hnotin.out hin'], hB1⟩
  ·have HH : Hid (piecesUpB val = true) := Lib.hid (by
    have : k = val.length := by omega
    have hh := hn.out
    rwa [this, List.take_length] at hh)
   go_wp2_with (go_at_call 39; refine (within_any _ _ _ _).mono ?_; rintro e w1 ⟨rfl, rfl⟩)
   go_ret
   exact ⟨by simp [validPiecesB, HH.out], hB⟩
end Go.Proofs.YtnmgfnpphglphaaGreat
