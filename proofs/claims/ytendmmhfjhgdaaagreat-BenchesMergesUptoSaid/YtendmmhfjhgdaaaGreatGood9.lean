/-
  A note is well-formed, by the reference: walked; it is what the program asks.
  The reference's names, order, CheckNote, CheckSet, Set, Before: walked; the program's Before.
-/
import Derived.Test.YtendmmhfjhgdaaaGreatContent9
import Derived.Test.YtendmmhfjhgdaaaGreatOwn1
import Derived.Test.YtendmmhfjhgdaaaGreatSet
set_option maxHeartbeats 16000000
set_option maxRecDepth 100000
section
set_option linter.unusedVariables false
set_option linter.unusedSimpArgs false
namespace Go.Proofs.YtendmmhfjhgdaaaGreat
open Go.RowKit
theorem used_bare (kind : Int) (n : Note) (h : 1 ≤ kind ∧ kind ≤ 8) : (usedN kind n).abs = (blankN n).abs ↔ (bareN kind n).abs = zNote.abs := by
 obtain ⟨a1, a2, a3, a4, a5, a6, a7, a8, a9, a10, ⟨s1, s2⟩, ⟨r1, r2⟩, ⟨p1, p2, p3⟩, ⟨q1, q2, q3⟩, ⟨d1, d2, d3⟩, ⟨i1, i2, i3, i4, i5, i6, i7, ⟨x1, x2, x3⟩, ⟨y1, y2, y3⟩, ⟨c1, c2⟩, ⟨z1, z2, z3⟩⟩⟩ := n
 have hk : kind = 1 ∨ kind = 2 ∨ kind = 3 ∨ kind = 4 ∨ kind = 5 ∨ kind = 6 ∨ kind = 7 ∨ kind = 8 := by omega
 rcases hk with rfl | rfl | rfl | rfl | rfl | rfl | rfl | rfl
 all_goals simp [usedN, bareN, blankN, Note.abs, Item.abs, zNote, zItem, Sl.nil, eq_comm]
 all_goals (constructor <;> intro hh <;> simp_all)
theorem upB_pieces (l : List Piece) : upB validPieceB (fun a b => decide (a.id < b.id)) l = piecesUpB l := rfl
theorem upB_rising (l : List Int) (m : Int) : upB (fun x => inB x 1 m) (fun a b => decide (a < b)) l = risingB l m := rfl
theorem test_used (kind : Int) (n : Note) (h : 1 ≤ kind ∧ kind ≤ 8) : testR kind n = usedB kind n := by
 have hk : kind = 1 ∨ kind = 2 ∨ kind = 3 ∨ kind = 4 ∨ kind = 5 ∨ kind = 6 ∨ kind = 7 ∨ kind = 8 := by omega
 rcases hk with rfl | rfl | rfl | rfl | rfl | rfl | rfl | rfl
 ·show (decide ((n.data.val.length : Int) = 1) && upB _ _ n.data.val) = validPiecesB n.data.val 1
  rw [upB_pieces]; unfold validPiecesB inB
  rw [Bool.and_comm]
  congr 1
  rw [Bool.eq_iff_iff]; simp; omega
 ·rfl
 ·show (decide (1 ≤ (n.panes.val.length : Int)) && upB _ _ n.panes.val) = (decide (0 < (n.panes.val.length : Int)) && risingB n.panes.val 64)
  rw [upB_rising]
  rfl
 ·show (decide (1 ≤ (n.pieces.val.length : Int)) && decide ((n.pieces.val.length : Int) ≤ 64) && upB _ _ n.pieces.val && decide (1 ≤ n.to) && decide (n.to ≤ 8)) = (inB n.pieces.val.length 1 64 && risingB n.pieces.val 65535 && inB n.to 1 8)
  rw [upB_rising]; simp only [inB, Bool.and_assoc]
 ·rfl
 ·show ((decide (1 ≤ n.pane) && decide (n.pane ≤ 64)) && (decide (n.piece = 0) && decide (1 ≤ n.colour) && decide (n.colour ≤ 16) && eqSetting n.setting ⟨0, false⟩ || (decide (1 ≤ n.piece) && decide (n.piece ≤ 65535)) && decide (n.colour = 0) && decide (0 ≤ n.setting.shift) && decide (n.setting.shift < 24))) = (inB n.pane 1 64 && (decide (n.piece = 0) && inB n.colour 1 16 && eqSetting n.setting ⟨0, false⟩ || inB n.piece 1 65535 && decide (n.colour = 0) && inB n.setting.shift 0 23))
  have e : decide (n.setting.shift < 24) = decide (n.setting.shift ≤ 23) := by rw [Bool.eq_iff_iff]; simp; omega
  rw [e]; simp only [inB, Bool.and_assoc]
 ·rfl
 ·show ((decide (1 ≤ n.piece) && decide (n.piece ≤ 65535)) && decide (1 ≤ (n.data.val.length : Int)) && decide ((n.data.val.length : Int) ≤ 4) && upB _ _ n.data.val) = (inB n.piece 1 65535 && validPiecesB n.data.val 4)
  rw [upB_pieces]; unfold validPiecesB inB
  simp only [Bool.and_assoc]
  congr 2
  rw [Bool.and_comm (piecesUpB n.data.val)]
  simp only [Bool.and_assoc]
theorem content_eq (kind : Int) (n : Note) (h : 1 ≤ kind ∧ kind ≤ 8) : contentR kind n = contentB kind n := by
 unfold contentR contentB
 rw [test_used kind n h, Bool.and_comm]
 congr 1
 rw [Bool.eq_iff_iff]; simp only [decide_eq_true_eq]
 exact used_bare kind n h
theorem content_ids {kind : Int} {n : Note} (h : contentR kind n = true) : (∀ p ∈ n.data.val, 1 ≤ p.id ∧ p.id ≤ 65535) ∧ (n.item.abs = zItem.abs ∨ (1 ≤ n.item.id ∧ n.item.id ≤ 65535)) := by
 unfold contentR at h
 rw [Bool.and_eq_true, decide_eq_true_eq] at h
 obtain ⟨h1, h2⟩ := h
 have hd : (usedN kind n).data.val.map Piece.abs = n.data.val.map Piece.abs := congrArg NoteA.data h1
 have hi : (usedN kind n).item.abs = n.item.abs := congrArg NoteA.item h1
 have hall : ∀ l : List Piece, upB validPieceB (fun a b => decide (a.id < b.id)) l = true → ∀ p ∈ l, 1 ≤ p.id ∧ p.id ≤ 65535 := fun l hl p hp => by
  simp only [upB, Bool.and_eq_true, List.all_eq_true] at hl
  have := hl.1 p hp
  simp only [validPieceB, inB, Bool.and_eq_true, decide_eq_true_eq] at this
  omega
 have hnil : (usedN kind n).data.val = [] → ∀ p ∈ n.data.val, 1 ≤ p.id ∧ p.id ≤ 65535 := fun e p hp => by
  rw [e] at hd
  have hl := congrArg List.length hd
  simp at hl
  rw [List.eq_nil_of_length_eq_zero hl.symm] at hp
  simp at hp
 have hzi : (usedN kind n).item = zItem → n.item.abs = zItem.abs := fun e => by rw [← hi, e]
 by_cases k1 : kind = 1
 ·subst k1
  have h2 : (decide ((n.data.val.length : Int) = 1) && upB validPieceB (fun a b => decide (a.id < b.id)) n.data.val) = true := h2
  rw [Bool.and_eq_true] at h2
  exact ⟨hall _ h2.2, .inl (hzi rfl)⟩
 by_cases k2 : kind = 2
 ·subst k2
  have h2 : refItemB n.item = true := h2
  refine ⟨hnil rfl, .inr ?_⟩
  simp only [refItemB, inB, Bool.and_eq_true, decide_eq_true_eq] at h2
  omega
 by_cases k8 : kind = 8
 ·subst k8
  have h2 : ((decide (1 ≤ n.piece) && decide (n.piece ≤ 65535)) && decide (1 ≤ (n.data.val.length : Int)) && decide ((n.data.val.length : Int) ≤ 4) && upB validPieceB (fun a b => decide (a.id < b.id)) n.data.val) = true := h2
  rw [Bool.and_eq_true] at h2
  exact ⟨hall _ h2.2, .inl (hzi rfl)⟩
 have e1 : (usedN kind n).data.val = [] := by
  unfold usedN
  rw [if_neg k1, if_neg k2]
  repeat' split
  all_goals first | rfl | exact absurd ‹kind = 8› k8
 have e2 : (usedN kind n).item = zItem := by
  unfold usedN
  rw [if_neg k1, if_neg k2]
  repeat' split
  all_goals first | rfl | exact absurd ‹kind = 8› k8
 exact ⟨hnil e1, .inl (hzi e2)⟩
theorem ids_ref (D : Nat → Prop) (n : Note) (w : World) (hok : okNote D w n) (hD : ∀ p ∈ n.data.val, 1 ≤ p.id ∧ p.id ≤ 65535) (hI : n.item.abs = zItem.abs ∨ (1 ≤ n.item.id ∧ n.item.id ≤ 65535)) (hb : 1 ≤ n.bench ∧ n.bench ≤ 8) :
  Calls Tryz.prog 81 #[.agg (encNote n)] w fun e w' => e = .returned (.bool (ownB n)) ∧ Below w.heap.size w w' := by
 have hbA0 : BoxAt (w.alloc (.cells (encNote n) 40)) w.heap.size 40 (encNote n) := BoxAt.new _ _ _
 have hB0 : Below w.heap.size w (w.alloc (.cells (encNote n) 40)) := (Below.refl _ _).alloc (Nat.le_refl _) _
 have HS0 := okNote_data hok
 have HSI : Hid (∀ W, Below w.heap.size w W → Calls Tryz.prog 59 #[.agg (encItem n.item), .agg (encItem zItem)] W fun e w' => e = .returned (.bool (decide (zItem.abs = n.item.abs))) ∧ Below W.heap.size W w') := Lib.hid fun W hW =>
  refItem_g D n.item zItem W (okNote_item (okNote.ext hok (.of_below hW))) (okItem_zero D W)
 have HB := Lib.hid hb
 have HI := Lib.hid hI
 have HE : Hid (ownB n = (!(n.data.val.any fun p => !itsB n.bench p.id) && (decide (zItem.abs = n.item.abs) || itsB n.bench n.item.id))) := Lib.hid (by
  unfold ownB; congr 2; rw [Bool.eq_iff_iff]; simp only [decide_eq_true_eq]; exact eq_comm)
 obtain ⟨⟨da, dc, dv⟩, hdata⟩ : ∃ s, n.data = s := ⟨_, rfl⟩
 rw [hdata] at HS0 HE hD
 simp only at HE hD
 have HDD := Lib.hid hD
 have HDV : Hid ((encNote n)[16]? = some (.slice da dv.length dc)) := Lib.hid (by rw [encNote_16, hdata]; rfl)
 have HS := Lib.hid HS0
 have hr1 : dv.length ≤ 4294967296 := HS0.room
 clear hok hD hI hb hdata HS0
 go_enter Tryz.func81, Tryz.ntmps81
 go_wp2
 go_loopw [3] (fun i wr => ∃ k : Nat, k ≤ dv.length ∧ i = .int .i64 k ∧ Hid (∀ (j : Nat) y, j < k → dv[j]? = some y → itsB n.bench y.id = true) ∧ BoxAt wr w.heap.size 40 (encNote n) ∧ Below w.heap.size w wr) (fun i _ => dv.length - (intOf i).toNat)
 case atStart => exact ⟨0, Nat.zero_le _, rfl, Lib.hid (by omega), hbA0, hB0⟩
 case round =>
  clear hbA0 hB0
  obtain ⟨k, hk, rfl, hn, hbA, hB⟩ := hrel
  have hcA : wr.cell? ⟨w.heap.size, 16, none⟩ = some (.slice da dv.length dc) := (hbA.cell 16).trans HDV.out
  by_cases hlt : k < dv.length
  ·obtain ⟨y, hy⟩ : ∃ y, dv[k]? = some y := ⟨_, List.getElem?_eq_getElem hlt⟩
   have hi1 : (k : Int) < (dv.length : Int) := by omega
   obtain ⟨b, o, rfl, hb, _, hok, hcell⟩ := HS.out.at hy
   have hc0 : wr.cell? ⟨b, o + k * 7, none⟩ = some (vi y.id) := by rw [hB.cell (p := ⟨b, o + k * 7, none⟩) hb]; exact hcell 0 (show 0 < 7 by decide)
   have hl1 : b < wr.heap.size := Nat.lt_of_lt_of_le hb hB.size
   have HY := Lib.hid hy
   have HOW := Lib.hid (fun W => own_ref n.bench y.id W (HDD.out y (List.mem_of_getElem? hy)) HB.out)
   clear hy hok hcell
   rcases hv : itsB n.bench y.id
   ·simp only [hv] at HOW
    have HF : Hid (ownB n = false) := Lib.hid (by
     have : (dv.any fun p => !itsB n.bench p.id) = true := List.any_eq_true.2 ⟨y, List.mem_of_getElem? HY.out, by simp [hv]⟩
     rw [HE.out, this]; rfl)
    go_wp2
    refine wp_region_ord [(0, true), (1, true), (2, true), (3, true), (4, true), (5, true), (6, true), (7, true), (8, false), (9, true)] rfl (by kernel_rfl) (by kernel_rfl) (fun d _ _ _ _ h => by cases d <;> exact h) ?_
    refine wpB_fix rfl rfl (fun W hW => by go_simp; with_reducible rfl) ?_; simp only [pTs, pTn, pTz, pTc]
    refine wpB_fix (v := vi n.bench) rfl rfl (fun W hW => by have e : W.cell? ⟨w.heap.size, 0, none⟩ = some (vi n.bench) := ((hbA.drew.belowAll hW).cell 0).trans (encNote_0 n); go_simp) ?_; simp only [pTs, pTn, pTz, pTc]
    refine wpB_fix rfl rfl (fun W hW => by go_simp; with_reducible rfl) ?_; simp only [pTs, pTn, pTz, pTc]
    refine wpB_fix (v := .slice (some ⟨b, o, none⟩) dv.length dc) rfl rfl (fun W hW => by have e : W.cell? ⟨w.heap.size, 16, none⟩ = some (.slice (some ⟨b, o, none⟩) dv.length dc) := ((hbA.drew.belowAll hW).cell 16).trans HDV.out; go_simp) ?_; simp only [pTs, pTn, pTz, pTc]
    iterate 3 (refine wpB_fix rfl rfl (fun W hW => by go_simp; with_reducible rfl) ?_; simp only [pTs, pTn, pTz, pTc])
    refine wpB_fix (v := vi y.id) rfl rfl (fun W hW => by have e : W.cell? ⟨b, o + k * 7, none⟩ = some (vi y.id) := (hW.cell (p := ⟨b, o + k * 7, none⟩) hl1).trans hc0; go_simp) ?_; simp only [pTs, pTn, pTz, pTc]
    refine wpB_act rfl rfl (fun K hK => ?_)
    go_simp
    refine (HOW.out _).mono ?_
    rintro e wq ⟨rfl, rfl⟩
    refine hK _ _ (Below.refl _ _) ?_
    clear hK K
    try simp only [pTs, pTn, pTz, pTc]
    refine wpB_fix rfl rfl (fun W hW => by go_simp; with_reducible rfl) ?_; simp only [pTs, pTn, pTz, pTc]
    simp only [wpB]
    go_wp2
    go_ret
    exact ⟨by simp [HF.out], hB.drew⟩
   ·simp only [hv] at HOW
    go_wp2
    refine wp_region_ord [(0, true), (1, true), (2, true), (3, true), (4, true), (5, true), (6, true), (7, true), (8, false), (9, true)] rfl (by kernel_rfl) (by kernel_rfl) (fun d _ _ _ _ h => by cases d <;> exact h) ?_
    refine wpB_fix rfl rfl (fun W hW => by go_simp; with_reducible rfl) ?_; simp only [pTs, pTn, pTz, pTc]
    refine wpB_fix (v := vi n.bench) rfl rfl (fun W hW => by have e : W.cell? ⟨w.heap.size, 0, none⟩ = some (vi n.bench) := ((hbA.drew.belowAll hW).cell 0).trans (encNote_0 n); go_simp) ?_; simp only [pTs, pTn, pTz, pTc]
    refine wpB_fix rfl rfl (fun W hW => by go_simp; with_reducible rfl) ?_; simp only [pTs, pTn, pTz, pTc]
    refine wpB_fix (v := .slice (some ⟨b, o, none⟩) dv.length dc) rfl rfl (fun W hW => by have e : W.cell? ⟨w.heap.size, 16, none⟩ = some (.slice (some ⟨b, o, none⟩) dv.length dc) := ((hbA.drew.belowAll hW).cell 16).trans HDV.out; go_simp) ?_; simp only [pTs, pTn, pTz, pTc]
    iterate 3 (refine wpB_fix rfl rfl (fun W hW => by go_simp; with_reducible rfl) ?_; simp only [pTs, pTn, pTz, pTc])
    refine wpB_fix (v := vi y.id) rfl rfl (fun W hW => by have e : W.cell? ⟨b, o + k * 7, none⟩ = some (vi y.id) := (hW.cell (p := ⟨b, o + k * 7, none⟩) hl1).trans hc0; go_simp) ?_; simp only [pTs, pTn, pTz, pTc]
    refine wpB_act rfl rfl (fun K hK => ?_)
    go_simp
    refine (HOW.out _).mono ?_
    rintro e wq ⟨rfl, rfl⟩
    refine hK _ _ (Below.refl _ _) ?_
    clear hK K
    try simp only [pTs, pTn, pTz, pTc]
    refine wpB_fix rfl rfl (fun W hW => by go_simp; with_reducible rfl) ?_; simp only [pTs, pTn, pTz, pTc]
    simp only [wpB]
    go_wp2
    go_roundw
    case rel =>
     refine ⟨k + 1, by omega, by go_num, Lib.hid fun j z hj hz => ?_, hbA.drew, hB.drew⟩
     rcases Nat.lt_succ_iff_lt_or_eq.1 hj with h | rfl
     ·exact hn.out j z h hz
     ·rw [HY.out] at hz; cases hz; exact hv
    case measure => simp [intOf]; omega
  ·have HF : Hid (ownB n = (decide (zItem.abs = n.item.abs) || itsB n.bench n.item.id)) := Lib.hid (by
    have : (dv.any fun p => !itsB n.bench p.id) = false := by
     rw [List.any_eq_false]
     intro y hy
     obtain ⟨j, hj⟩ := List.getElem?_of_mem hy
     simp [hn.out j y (by have := (List.getElem?_eq_some_iff.1 hj).1; omega) hj]
    rw [HE.out, this]; rfl)
   by_cases hz : zItem.abs = n.item.abs
   ·rw [decide_eq_true hz] at HSI HF
    go_wp2_with (first
     | ((with_reducible refine at_dst 22 ?_); refine wpList_loadB hbA rfl 38 _ rfl rfl (encItem n.item) (encNote_item n) Tryz.underlying38 rfl (by kernel_rfl) ?_)
     | (go_at_call 59; refine (HSI.out _ hB).mono ?_; rintro e w3 ⟨rfl, hb3⟩; have hB3 := Below.call hB hb3 (Nat.le_refl _)))
    go_ret
    exact ⟨by simp [HF.out], hB3⟩
   ·rw [decide_eq_false hz] at HSI HF
    have HOW := Lib.hid (fun W => own_ref n.bench n.item.id W (HI.out.resolve_left fun e => hz e.symm) HB.out)
    clear hz
    go_wp2_with (first
     | ((with_reducible refine at_dst 22 ?_); refine wpList_loadB hbA rfl 38 _ rfl rfl (encItem n.item) (encNote_item n) Tryz.underlying38 rfl (by kernel_rfl) ?_)
     | (go_at_call 59; refine (HSI.out _ hB).mono ?_; rintro e w3 ⟨rfl, hb3⟩; have hB3 := Below.call hB hb3 (Nat.le_refl _); have hbA3 := hbA.belowAll hb3; have d0 : w3.cell? ⟨w.heap.size, 0, none⟩ = some (vi n.bench) := (hbA3.cell 0).trans rfl; have d17 : w3.cell? ⟨w.heap.size, 17, none⟩ = some (vi n.item.id) := (hbA3.cell 17).trans rfl)
     | (go_at_call 132; refine (HOW.out _).mono ?_; rintro e wq ⟨rfl, rfl⟩))
    go_ret
    exact ⟨by simp [HF.out], hB3⟩
def NumOK (n : Note) : Prop := ¬ n.bench < 1 ∧ ¬ 8 < n.bench ∧ ¬ n.num < 1 ∧ ¬ 400 < n.num ∧ ¬ n.clock < 1 ∧ ¬ 1048576 < n.clock ∧ ¬ n.year < 0 ∧ ¬ 9999 < n.year
theorem good9_n (n : Note) (w : World) (hd : ¬ NumOK n) :
  Calls Tryz.prog 42 #[.agg (encNote n)] w fun e w' => e = .returned (.bool false) ∧ Below w.heap.size w w' := by
 by_cases g0 : ¬ n.bench < 1
 by_cases g1 : ¬ 8 < n.bench
 by_cases g2 : ¬ n.num < 1
 by_cases g3 : ¬ 400 < n.num
 by_cases g4 : ¬ n.clock < 1
 by_cases g5 : ¬ 1048576 < n.clock
 by_cases g6 : ¬ n.year < 0
 by_cases g7 : ¬ 9999 < n.year
 ·exact absurd ⟨g0, g1, g2, g3, g4, g5, g6, g7⟩ hd
 all_goals
  clear hd
  simp only [Int.not_lt] at *
  go_enter Tryz.func42, Tryz.ntmps42
  go_wp2
  go_ret
  exact ⟨by simp, (Below.refl _ _).alloc (Nat.le_refl _) _⟩
theorem good9_k1 (D : Nat → Prop) (n : Note) (w : World) (hok : okNote D w n) (hnum : NumOK n) (hk9 : ¬ n.kind = 9) (hk10 : ¬ n.kind = 10) (h : n.kind < 1) :
  Calls Tryz.prog 42 #[.agg (encNote n)] w fun e w' => e = .returned (.bool (false)) ∧ Below w.heap.size w w' := by
 obtain ⟨g0, g1, g2, g3, g4, g5, g6, g7⟩ := hnum
 have f0 : decide (n.bench < 1) = false := by simpa using g0
 have f1 : decide (8 < n.bench) = false := by simpa using g1
 have f2 : decide (n.num < 1) = false := by simpa using g2
 have f3 : decide (400 < n.num) = false := by simpa using g3
 have f4 : decide (n.clock < 1) = false := by simpa using g4
 have f5 : decide (1048576 < n.clock) = false := by simpa using g5
 have f6 : decide (n.year < 0) = false := by simpa using g6
 have f7 : decide (9999 < n.year) = false := by simpa using g7
 have k9 : (n.kind == 9) = false := by simpa using hk9
 have k10 : (n.kind == 10) = false := by simpa using hk10
 have e1 : decide (1 ≤ n.kind) = false := by simp; omega
 clear hok
 have hbA : BoxAt (w.alloc (.cells (encNote n) 40)) w.heap.size 40 (encNote n) := BoxAt.new _ _ _
 have hB : Below w.heap.size w (w.alloc (.cells (encNote n) 40)) := (Below.refl _ _).alloc (Nat.le_refl _) _
 go_enter Tryz.func42, Tryz.ntmps42
 go_wp2
 go_ret
 exact ⟨by simp, hB⟩
theorem good9_k2 (D : Nat → Prop) (n : Note) (w : World) (hok : okNote D w n) (hnum : NumOK n) (hk9 : ¬ n.kind = 9) (hk10 : ¬ n.kind = 10) (h : 8 < n.kind) :
  Calls Tryz.prog 42 #[.agg (encNote n)] w fun e w' => e = .returned (.bool (false)) ∧ Below w.heap.size w w' := by
 obtain ⟨g0, g1, g2, g3, g4, g5, g6, g7⟩ := hnum
 have f0 : decide (n.bench < 1) = false := by simpa using g0
 have f1 : decide (8 < n.bench) = false := by simpa using g1
 have f2 : decide (n.num < 1) = false := by simpa using g2
 have f3 : decide (400 < n.num) = false := by simpa using g3
 have f4 : decide (n.clock < 1) = false := by simpa using g4
 have f5 : decide (1048576 < n.clock) = false := by simpa using g5
 have f6 : decide (n.year < 0) = false := by simpa using g6
 have f7 : decide (9999 < n.year) = false := by simpa using g7
 have k9 : (n.kind == 9) = false := by simpa using hk9
 have k10 : (n.kind == 10) = false := by simpa using hk10
 have e1 : decide (1 ≤ n.kind) = true := by simp; omega
 have e2 : decide (n.kind ≤ 8) = false := by simp; omega
 clear hok
 have hbA : BoxAt (w.alloc (.cells (encNote n) 40)) w.heap.size 40 (encNote n) := BoxAt.new _ _ _
 have hB : Below w.heap.size w (w.alloc (.cells (encNote n) 40)) := (Below.refl _ _).alloc (Nat.le_refl _) _
 go_enter Tryz.func42, Tryz.ntmps42
 go_wp2
 go_ret
 exact ⟨by simp, hB⟩
theorem good9_k3 (D : Nat → Prop) (n : Note) (w : World) (hok : okNote D w n) (hnum : NumOK n) (hk9 : ¬ n.kind = 9) (hk10 : ¬ n.kind = 10) (h1 : 1 ≤ n.kind) (h2 : n.kind ≤ 8) (h : ¬ n.fix = 0) :
  Calls Tryz.prog 42 #[.agg (encNote n)] w fun e w' => e = .returned (.bool (false)) ∧ Below w.heap.size w w' := by
 obtain ⟨g0, g1, g2, g3, g4, g5, g6, g7⟩ := hnum
 have f0 : decide (n.bench < 1) = false := by simpa using g0
 have f1 : decide (8 < n.bench) = false := by simpa using g1
 have f2 : decide (n.num < 1) = false := by simpa using g2
 have f3 : decide (400 < n.num) = false := by simpa using g3
 have f4 : decide (n.clock < 1) = false := by simpa using g4
 have f5 : decide (1048576 < n.clock) = false := by simpa using g5
 have f6 : decide (n.year < 0) = false := by simpa using g6
 have f7 : decide (9999 < n.year) = false := by simpa using g7
 have k9 : (n.kind == 9) = false := by simpa using hk9
 have k10 : (n.kind == 10) = false := by simpa using hk10
 have e1 : decide (1 ≤ n.kind) = true := by simp; omega
 have e2 : decide (n.kind ≤ 8) = true := by simp; omega
 have e3 : (n.fix == 0) = false := by simpa using h
 clear hok
 have hbA : BoxAt (w.alloc (.cells (encNote n) 40)) w.heap.size 40 (encNote n) := BoxAt.new _ _ _
 have hB : Below w.heap.size w (w.alloc (.cells (encNote n) 40)) := (Below.refl _ _).alloc (Nat.le_refl _) _
 go_enter Tryz.func42, Tryz.ntmps42
 go_wp2
 go_ret
 exact ⟨by simp, hB⟩
theorem good9_k4 (D : Nat → Prop) (n : Note) (w : World) (hok : okNote D w n) (hnum : NumOK n) (hk9 : ¬ n.kind = 9) (hk10 : ¬ n.kind = 10) (h1 : 1 ≤ n.kind) (h2 : n.kind ≤ 8) (h : n.fix = 0) (hc : contentR n.kind n = false) :
  Calls Tryz.prog 42 #[.agg (encNote n)] w fun e w' => e = .returned (.bool (false)) ∧ Below w.heap.size w w' := by
 obtain ⟨g0, g1, g2, g3, g4, g5, g6, g7⟩ := hnum
 have f0 : decide (n.bench < 1) = false := by simpa using g0
 have f1 : decide (8 < n.bench) = false := by simpa using g1
 have f2 : decide (n.num < 1) = false := by simpa using g2
 have f3 : decide (400 < n.num) = false := by simpa using g3
 have f4 : decide (n.clock < 1) = false := by simpa using g4
 have f5 : decide (1048576 < n.clock) = false := by simpa using g5
 have f6 : decide (n.year < 0) = false := by simpa using g6
 have f7 : decide (9999 < n.year) = false := by simpa using g7
 have k9 : (n.kind == 9) = false := by simpa using hk9
 have k10 : (n.kind == 10) = false := by simpa using hk10
 have e1 : decide (1 ≤ n.kind) = true := by simp; omega
 have e2 : decide (n.kind ≤ 8) = true := by simp; omega
 have e3 : (n.fix == 0) = true := by simpa using h
 have HC : Hid (∀ W, Below w.heap.size w W → _) := Lib.hid fun W hW => content_ref D n.kind n W (okNote.ext hok (.of_below hW))
 simp only [hc] at HC
 clear hok
 have hbA : BoxAt (w.alloc (.cells (encNote n) 40)) w.heap.size 40 (encNote n) := BoxAt.new _ _ _
 have hB : Below w.heap.size w (w.alloc (.cells (encNote n) 40)) := (Below.refl _ _).alloc (Nat.le_refl _) _
 go_enter Tryz.func42, Tryz.ntmps42
 go_wp2_with (first
  | ((with_reducible refine at_dst 110 ?_); refine wpList_loadB hbA rfl 40 _ rfl rfl (encNote n) (whole_cells _) Tryz.underlying40 rfl (by kernel_rfl) ?_)
  | (go_at_call 80; refine (HC.out _ hB).mono ?_; rintro e w3 ⟨rfl, hb3⟩; have hB3 := Below.call hB hb3 (Nat.le_refl _); have hbA3 := hbA.belowAll hb3))
 go_ret
 exact ⟨by simp, hB3⟩
theorem good9_k5 (D : Nat → Prop) (n : Note) (w : World) (hok : okNote D w n) (hnum : NumOK n) (hk9 : ¬ n.kind = 9) (hk10 : ¬ n.kind = 10) (h1 : 1 ≤ n.kind) (h2 : n.kind ≤ 8) (h : n.fix = 0) (hc : contentR n.kind n = true) :
  Calls Tryz.prog 42 #[.agg (encNote n)] w fun e w' => e = .returned (.bool (ownB n)) ∧ Below w.heap.size w w' := by
 obtain ⟨g0, g1, g2, g3, g4, g5, g6, g7⟩ := hnum
 have f0 : decide (n.bench < 1) = false := by simpa using g0
 have f1 : decide (8 < n.bench) = false := by simpa using g1
 have f2 : decide (n.num < 1) = false := by simpa using g2
 have f3 : decide (400 < n.num) = false := by simpa using g3
 have f4 : decide (n.clock < 1) = false := by simpa using g4
 have f5 : decide (1048576 < n.clock) = false := by simpa using g5
 have f6 : decide (n.year < 0) = false := by simpa using g6
 have f7 : decide (9999 < n.year) = false := by simpa using g7
 have k9 : (n.kind == 9) = false := by simpa using hk9
 have k10 : (n.kind == 10) = false := by simpa using hk10
 have e1 : decide (1 ≤ n.kind) = true := by simp; omega
 have e2 : decide (n.kind ≤ 8) = true := by simp; omega
 have e3 : (n.fix == 0) = true := by simpa using h
 have HC : Hid (∀ W, Below w.heap.size w W → _) := Lib.hid fun W hW => content_ref D n.kind n W (okNote.ext hok (.of_below hW))
 have HD : Hid (∀ W, Below w.heap.size w W → _) := Lib.hid fun W hW => ids_ref D n W (okNote.ext hok (.of_below hW)) (content_ids hc).1 (content_ids hc).2 ⟨by omega, by omega⟩
 simp only [hc] at HC
 clear hok
 have hbA : BoxAt (w.alloc (.cells (encNote n) 40)) w.heap.size 40 (encNote n) := BoxAt.new _ _ _
 have hB : Below w.heap.size w (w.alloc (.cells (encNote n) 40)) := (Below.refl _ _).alloc (Nat.le_refl _) _
 go_enter Tryz.func42, Tryz.ntmps42
 go_wp2_with (first
  | ((with_reducible refine at_dst 110 ?_); refine wpList_loadB hbA rfl 40 _ rfl rfl (encNote n) (whole_cells _) Tryz.underlying40 rfl (by kernel_rfl) ?_)
  | (go_at_call 80; refine (HC.out _ hB).mono ?_; rintro e w3 ⟨rfl, hb3⟩; have hB3 := Below.call hB hb3 (Nat.le_refl _); have hbA3 := hbA.belowAll hb3)
  | ((with_reducible refine at_dst 116 ?_); refine wpList_loadB hbA3 rfl 40 _ rfl rfl (encNote n) (whole_cells _) Tryz.underlying40 rfl (by kernel_rfl) ?_)
  | (go_at_call 81; refine (HD.out _ hB3).mono ?_; rintro e w4 ⟨rfl, hb4⟩; have hB4 := Below.call hB3 hb4 (Nat.le_refl _)))
 go_ret
 exact ⟨by simp, hB4⟩
theorem good9_w90 (D : Nat → Prop) (n : Note) (w : World) (hok : okNote D w n) (hnum : NumOK n) (hk : n.kind = 9) (hr : validRefB n.ref = false) :
  Calls Tryz.prog 42 #[.agg (encNote n)] w fun e w' => e = .returned (.bool (false)) ∧ Below w.heap.size w w' := by
 obtain ⟨g0, g1, g2, g3, g4, g5, g6, g7⟩ := hnum
 have f0 : decide (n.bench < 1) = false := by simpa using g0
 have f1 : decide (8 < n.bench) = false := by simpa using g1
 have f2 : decide (n.num < 1) = false := by simpa using g2
 have f3 : decide (400 < n.num) = false := by simpa using g3
 have f4 : decide (n.clock < 1) = false := by simpa using g4
 have f5 : decide (1048576 < n.clock) = false := by simpa using g5
 have f6 : decide (n.year < 0) = false := by simpa using g6
 have f7 : decide (9999 < n.year) = false := by simpa using g7
 have k9 : (n.kind == 9) = true := by simp [hk]
 have k10 : (n.kind == 10) = false := by simp [hk]
 have HR : Hid (∀ W, _) := Lib.hid fun W => ref_ref n.ref W
 simp only [hr] at HR
 clear hk
 clear hok
 have hbA : BoxAt (w.alloc (.cells (encNote n) 40)) w.heap.size 40 (encNote n) := BoxAt.new _ _ _
 have hB : Below w.heap.size w (w.alloc (.cells (encNote n) 40)) := (Below.refl _ _).alloc (Nat.le_refl _) _
 go_enter Tryz.func42, Tryz.ntmps42
 go_wp2_with (first
  | ((with_reducible refine at_dst 51 ?_); refine wpList_loadB hbA rfl 31 _ rfl rfl (encRef n.ref) (encNote_ref n) Tryz.underlying31 rfl (by kernel_rfl) ?_)
  | (go_at_call 79; refine (HR.out _).mono ?_; rintro e w3 ⟨rfl, hb3⟩; have hB3 := Below.call hB hb3 (Nat.le_refl _); have hbA3 := hbA.belowAll hb3; have hs3 := hbA3.lt; have hcA : ∀ o, w3.cell? ⟨w.heap.size, o, none⟩ = (encNote n)[o]? := fun o => hbA3.cell o))
 go_ret
 exact ⟨by simp, hB3⟩
theorem good9_w100 (D : Nat → Prop) (n : Note) (w : World) (hok : okNote D w n) (hnum : NumOK n) (hk : n.kind = 10) (hr : validRefB n.ref = false) :
  Calls Tryz.prog 42 #[.agg (encNote n)] w fun e w' => e = .returned (.bool (false)) ∧ Below w.heap.size w w' := by
 obtain ⟨g0, g1, g2, g3, g4, g5, g6, g7⟩ := hnum
 have f0 : decide (n.bench < 1) = false := by simpa using g0
 have f1 : decide (8 < n.bench) = false := by simpa using g1
 have f2 : decide (n.num < 1) = false := by simpa using g2
 have f3 : decide (400 < n.num) = false := by simpa using g3
 have f4 : decide (n.clock < 1) = false := by simpa using g4
 have f5 : decide (1048576 < n.clock) = false := by simpa using g5
 have f6 : decide (n.year < 0) = false := by simpa using g6
 have f7 : decide (9999 < n.year) = false := by simpa using g7
 have k9 : (n.kind == 9) = false := by simp [hk]
 have k10 : (n.kind == 10) = true := by simp [hk]
 have HR : Hid (∀ W, _) := Lib.hid fun W => ref_ref n.ref W
 simp only [hr] at HR
 clear hk
 clear hok
 have hbA : BoxAt (w.alloc (.cells (encNote n) 40)) w.heap.size 40 (encNote n) := BoxAt.new _ _ _
 have hB : Below w.heap.size w (w.alloc (.cells (encNote n) 40)) := (Below.refl _ _).alloc (Nat.le_refl _) _
 go_enter Tryz.func42, Tryz.ntmps42
 go_wp2_with (first
  | ((with_reducible refine at_dst 51 ?_); refine wpList_loadB hbA rfl 31 _ rfl rfl (encRef n.ref) (encNote_ref n) Tryz.underlying31 rfl (by kernel_rfl) ?_)
  | (go_at_call 79; refine (HR.out _).mono ?_; rintro e w3 ⟨rfl, hb3⟩; have hB3 := Below.call hB hb3 (Nat.le_refl _); have hbA3 := hbA.belowAll hb3; have hs3 := hbA3.lt; have hcA : ∀ o, w3.cell? ⟨w.heap.size, o, none⟩ = (encNote n)[o]? := fun o => hbA3.cell o))
 go_ret
 exact ⟨by simp, hB3⟩
theorem good9_w101 (D : Nat → Prop) (n : Note) (w : World) (hok : okNote D w n) (hnum : NumOK n) (hk : n.kind = 10) (hr : validRefB n.ref = true) :
  Calls Tryz.prog 42 #[.agg (encNote n)] w fun e w' => e = .returned (.bool (decide (({ zNote with bench := n.bench, num := n.num, clock := n.clock, year := n.year, kind := n.kind } : Note).abs = (noRef n).abs))) ∧ Below w.heap.size w w' := by
 obtain ⟨g0, g1, g2, g3, g4, g5, g6, g7⟩ := hnum
 have f0 : decide (n.bench < 1) = false := by simpa using g0
 have f1 : decide (8 < n.bench) = false := by simpa using g1
 have f2 : decide (n.num < 1) = false := by simpa using g2
 have f3 : decide (400 < n.num) = false := by simpa using g3
 have f4 : decide (n.clock < 1) = false := by simpa using g4
 have f5 : decide (1048576 < n.clock) = false := by simpa using g5
 have f6 : decide (n.year < 0) = false := by simpa using g6
 have f7 : decide (9999 < n.year) = false := by simpa using g7
 have k9 : (n.kind == 9) = false := by simp [hk]
 have k10 : (n.kind == 10) = true := by simp [hk]
 have HR : Hid (∀ W, _) := Lib.hid fun W => ref_ref n.ref W
 simp only [hr] at HR
 have HSN : Hid (∀ W, Below w.heap.size w W → Calls Tryz.prog 56 #[.agg (encNote (noRef n)), .agg (encNote ({ zNote with bench := n.bench, num := n.num, clock := n.clock, year := n.year, kind := n.kind }))] W fun e w' => e = .returned (.bool (decide (({ zNote with bench := n.bench, num := n.num, clock := n.clock, year := n.year, kind := n.kind } : Note).abs = (noRef n).abs))) ∧ Below W.heap.size W w') := Lib.hid fun W hW =>
  refNote_g D (noRef n) ({ zNote with bench := n.bench, num := n.num, clock := n.clock, year := n.year, kind := n.kind }) W (okNote_ref0 (okNote.ext hok (.of_below hW))) (by
   have h1 := okNote.ext hok (.of_below hW)
   have hz := okNote_zero D W
   simp only [okNote] at h1 hz ⊢
   simp only [h1, hz, and_self])
 clear hk
 clear hok
 have hbA : BoxAt (w.alloc (.cells (encNote n) 40)) w.heap.size 40 (encNote n) := BoxAt.new _ _ _
 have hB : Below w.heap.size w (w.alloc (.cells (encNote n) 40)) := (Below.refl _ _).alloc (Nat.le_refl _) _
 go_enter Tryz.func42, Tryz.ntmps42
 go_wp2_with (first
  | ((with_reducible refine at_dst 51 ?_); refine wpList_loadB hbA rfl 31 _ rfl rfl (encRef n.ref) (encNote_ref n) Tryz.underlying31 rfl (by kernel_rfl) ?_)
  | (go_at_call 79; refine (HR.out _).mono ?_; rintro e w3 ⟨rfl, hb3⟩; have hB3 := Below.call hB hb3 (Nat.le_refl _); have hbA3 := hbA.belowAll hb3; have hs3 := hbA3.lt; have hcA : ∀ o, w3.cell? ⟨w.heap.size, o, none⟩ = (encNote n)[o]? := fun o => hbA3.cell o)
  | ((with_reducible refine at_dst 54 ?_); refine wpList_loadB hbA3 rfl 40 _ rfl rfl (encNote n) (whole_cells _) Tryz.underlying40 rfl (by kernel_rfl) ?_)
  | ((with_reducible refine at_storeT 40 ?_); refine wpList_store_last (cs := encNote n) rfl 40 _ _ rfl (by simp) rfl rfl (by kernel_rfl) rfl (encNote_one _) ?_; have hbR := BoxAt.new w3 40 (encNote n); have hbA4 := hbA3.alloc (.cells (encNote n) 40); have hB4 := hB3.alloc hB3.size (.cells (encNote n) 40))
  | ((with_reducible refine at_storeT 31 ?_); refine wpList_store_box hbR rfl _ _ _ rfl rfl (.agg (encRef ⟨0, 0⟩)) rfl (by kernel_rfl) rfl (one_agg (encRef_one _)) ?_; intro w5 hbR5 hT; have hbR6 := hbR5.eqv (cs' := encNote (noRef n)) (by simp [splice, encNote, noRef, encRef, Value.cells]); have hbA6 := hbA4.turn hT (by omega); have hB6 := hB4.trans (hT.below hB3.size); clear hT; have hcA6 : ∀ o, w5.cell? ⟨w.heap.size, o, none⟩ = (encNote n)[o]? := fun o => hbA6.cell o)
  | ((with_reducible refine at_dst 60 ?_); refine wpList_loadB hbR6 rfl 40 _ rfl rfl (encNote (noRef n)) (whole_cells _) Tryz.underlying40 rfl (by kernel_rfl) ?_)
  | (go_at_call 56; refine (HSN.out _ hB6).mono ?_; rintro e w7 ⟨rfl, hb7⟩; have hB7 := Below.call hB6 hb7 (Nat.le_refl _)))
 go_ret
 exact ⟨by simp, hB7⟩
theorem good9_w91 (D : Nat → Prop) (n : Note) (w : World) (hok : okNote D w n) (hnum : NumOK n) (hk : n.kind = 9) (hr : validRefB n.ref = true) (h : n.fix < 1) :
  Calls Tryz.prog 42 #[.agg (encNote n)] w fun e w' => e = .returned (.bool (false)) ∧ Below w.heap.size w w' := by
 obtain ⟨g0, g1, g2, g3, g4, g5, g6, g7⟩ := hnum
 have f0 : decide (n.bench < 1) = false := by simpa using g0
 have f1 : decide (8 < n.bench) = false := by simpa using g1
 have f2 : decide (n.num < 1) = false := by simpa using g2
 have f3 : decide (400 < n.num) = false := by simpa using g3
 have f4 : decide (n.clock < 1) = false := by simpa using g4
 have f5 : decide (1048576 < n.clock) = false := by simpa using g5
 have f6 : decide (n.year < 0) = false := by simpa using g6
 have f7 : decide (9999 < n.year) = false := by simpa using g7
 have k9 : (n.kind == 9) = true := by simp [hk]
 have k10 : (n.kind == 10) = false := by simp [hk]
 have HR : Hid (∀ W, _) := Lib.hid fun W => ref_ref n.ref W
 simp only [hr] at HR
 have e1 : decide (1 ≤ n.fix) = false := by simp; omega
 clear hk
 clear hok
 have hbA : BoxAt (w.alloc (.cells (encNote n) 40)) w.heap.size 40 (encNote n) := BoxAt.new _ _ _
 have hB : Below w.heap.size w (w.alloc (.cells (encNote n) 40)) := (Below.refl _ _).alloc (Nat.le_refl _) _
 go_enter Tryz.func42, Tryz.ntmps42
 go_wp2_with (first
  | ((with_reducible refine at_dst 51 ?_); refine wpList_loadB hbA rfl 31 _ rfl rfl (encRef n.ref) (encNote_ref n) Tryz.underlying31 rfl (by kernel_rfl) ?_)
  | (go_at_call 79; refine (HR.out _).mono ?_; rintro e w3 ⟨rfl, hb3⟩; have hB3 := Below.call hB hb3 (Nat.le_refl _); have hbA3 := hbA.belowAll hb3; have hs3 := hbA3.lt; have hcA : ∀ o, w3.cell? ⟨w.heap.size, o, none⟩ = (encNote n)[o]? := fun o => hbA3.cell o)
  | ((with_reducible refine at_dst 54 ?_); refine wpList_loadB hbA3 rfl 40 _ rfl rfl (encNote n) (whole_cells _) Tryz.underlying40 rfl (by kernel_rfl) ?_)
  | ((with_reducible refine at_storeT 40 ?_); refine wpList_store_last (cs := encNote n) rfl 40 _ _ rfl (by simp) rfl rfl (by kernel_rfl) rfl (encNote_one _) ?_; have hbR := BoxAt.new w3 40 (encNote n); have hbA4 := hbA3.alloc (.cells (encNote n) 40); have hB4 := hB3.alloc hB3.size (.cells (encNote n) 40))
  | ((with_reducible refine at_storeT 31 ?_); refine wpList_store_box hbR rfl _ _ _ rfl rfl (.agg (encRef ⟨0, 0⟩)) rfl (by kernel_rfl) rfl (one_agg (encRef_one _)) ?_; intro w5 hbR5 hT; have hbR6 := hbR5.eqv (cs' := encNote (noRef n)) (by simp [splice, encNote, noRef, encRef, Value.cells]); have hbA6 := hbA4.turn hT (by omega); have hB6 := hB4.trans (hT.below hB3.size); clear hT; have hcA6 : ∀ o, w5.cell? ⟨w.heap.size, o, none⟩ = (encNote n)[o]? := fun o => hbA6.cell o))
 go_ret
 exact ⟨by simp, hB6⟩
theorem good9_w92 (D : Nat → Prop) (n : Note) (w : World) (hok : okNote D w n) (hnum : NumOK n) (hk : n.kind = 9) (hr : validRefB n.ref = true) (h : 8 < n.fix) :
  Calls Tryz.prog 42 #[.agg (encNote n)] w fun e w' => e = .returned (.bool (false)) ∧ Below w.heap.size w w' := by
 obtain ⟨g0, g1, g2, g3, g4, g5, g6, g7⟩ := hnum
 have f0 : decide (n.bench < 1) = false := by simpa using g0
 have f1 : decide (8 < n.bench) = false := by simpa using g1
 have f2 : decide (n.num < 1) = false := by simpa using g2
 have f3 : decide (400 < n.num) = false := by simpa using g3
 have f4 : decide (n.clock < 1) = false := by simpa using g4
 have f5 : decide (1048576 < n.clock) = false := by simpa using g5
 have f6 : decide (n.year < 0) = false := by simpa using g6
 have f7 : decide (9999 < n.year) = false := by simpa using g7
 have k9 : (n.kind == 9) = true := by simp [hk]
 have k10 : (n.kind == 10) = false := by simp [hk]
 have HR : Hid (∀ W, _) := Lib.hid fun W => ref_ref n.ref W
 simp only [hr] at HR
 have e1 : decide (1 ≤ n.fix) = true := by simp; omega
 have e2 : decide (n.fix ≤ 8) = false := by simp; omega
 clear hk
 clear hok
 have hbA : BoxAt (w.alloc (.cells (encNote n) 40)) w.heap.size 40 (encNote n) := BoxAt.new _ _ _
 have hB : Below w.heap.size w (w.alloc (.cells (encNote n) 40)) := (Below.refl _ _).alloc (Nat.le_refl _) _
 go_enter Tryz.func42, Tryz.ntmps42
 go_wp2_with (first
  | ((with_reducible refine at_dst 51 ?_); refine wpList_loadB hbA rfl 31 _ rfl rfl (encRef n.ref) (encNote_ref n) Tryz.underlying31 rfl (by kernel_rfl) ?_)
  | (go_at_call 79; refine (HR.out _).mono ?_; rintro e w3 ⟨rfl, hb3⟩; have hB3 := Below.call hB hb3 (Nat.le_refl _); have hbA3 := hbA.belowAll hb3; have hs3 := hbA3.lt; have hcA : ∀ o, w3.cell? ⟨w.heap.size, o, none⟩ = (encNote n)[o]? := fun o => hbA3.cell o)
  | ((with_reducible refine at_dst 54 ?_); refine wpList_loadB hbA3 rfl 40 _ rfl rfl (encNote n) (whole_cells _) Tryz.underlying40 rfl (by kernel_rfl) ?_)
  | ((with_reducible refine at_storeT 40 ?_); refine wpList_store_last (cs := encNote n) rfl 40 _ _ rfl (by simp) rfl rfl (by kernel_rfl) rfl (encNote_one _) ?_; have hbR := BoxAt.new w3 40 (encNote n); have hbA4 := hbA3.alloc (.cells (encNote n) 40); have hB4 := hB3.alloc hB3.size (.cells (encNote n) 40))
  | ((with_reducible refine at_storeT 31 ?_); refine wpList_store_box hbR rfl _ _ _ rfl rfl (.agg (encRef ⟨0, 0⟩)) rfl (by kernel_rfl) rfl (one_agg (encRef_one _)) ?_; intro w5 hbR5 hT; have hbR6 := hbR5.eqv (cs' := encNote (noRef n)) (by simp [splice, encNote, noRef, encRef, Value.cells]); have hbA6 := hbA4.turn hT (by omega); have hB6 := hB4.trans (hT.below hB3.size); clear hT; have hcA6 : ∀ o, w5.cell? ⟨w.heap.size, o, none⟩ = (encNote n)[o]? := fun o => hbA6.cell o))
 go_ret
 exact ⟨by simp, hB6⟩
theorem good9_w93 (D : Nat → Prop) (n : Note) (w : World) (hok : okNote D w n) (hnum : NumOK n) (hk : n.kind = 9) (hr : validRefB n.ref = true) (h : n.fix = 5) :
  Calls Tryz.prog 42 #[.agg (encNote n)] w fun e w' => e = .returned (.bool (false)) ∧ Below w.heap.size w w' := by
 obtain ⟨g0, g1, g2, g3, g4, g5, g6, g7⟩ := hnum
 have f0 : decide (n.bench < 1) = false := by simpa using g0
 have f1 : decide (8 < n.bench) = false := by simpa using g1
 have f2 : decide (n.num < 1) = false := by simpa using g2
 have f3 : decide (400 < n.num) = false := by simpa using g3
 have f4 : decide (n.clock < 1) = false := by simpa using g4
 have f5 : decide (1048576 < n.clock) = false := by simpa using g5
 have f6 : decide (n.year < 0) = false := by simpa using g6
 have f7 : decide (9999 < n.year) = false := by simpa using g7
 have k9 : (n.kind == 9) = true := by simp [hk]
 have k10 : (n.kind == 10) = false := by simp [hk]
 have HR : Hid (∀ W, _) := Lib.hid fun W => ref_ref n.ref W
 simp only [hr] at HR
 have e1 : decide (1 ≤ n.fix) = true := by simp; omega
 have e2 : decide (n.fix ≤ 8) = true := by simp; omega
 have e3 : (n.fix != 5) = false := by simp [h]
 clear hk h
 clear hok
 have hbA : BoxAt (w.alloc (.cells (encNote n) 40)) w.heap.size 40 (encNote n) := BoxAt.new _ _ _
 have hB : Below w.heap.size w (w.alloc (.cells (encNote n) 40)) := (Below.refl _ _).alloc (Nat.le_refl _) _
 go_enter Tryz.func42, Tryz.ntmps42
 go_wp2_with (first
  | ((with_reducible refine at_dst 51 ?_); refine wpList_loadB hbA rfl 31 _ rfl rfl (encRef n.ref) (encNote_ref n) Tryz.underlying31 rfl (by kernel_rfl) ?_)
  | (go_at_call 79; refine (HR.out _).mono ?_; rintro e w3 ⟨rfl, hb3⟩; have hB3 := Below.call hB hb3 (Nat.le_refl _); have hbA3 := hbA.belowAll hb3; have hs3 := hbA3.lt; have hcA : ∀ o, w3.cell? ⟨w.heap.size, o, none⟩ = (encNote n)[o]? := fun o => hbA3.cell o)
  | ((with_reducible refine at_dst 54 ?_); refine wpList_loadB hbA3 rfl 40 _ rfl rfl (encNote n) (whole_cells _) Tryz.underlying40 rfl (by kernel_rfl) ?_)
  | ((with_reducible refine at_storeT 40 ?_); refine wpList_store_last (cs := encNote n) rfl 40 _ _ rfl (by simp) rfl rfl (by kernel_rfl) rfl (encNote_one _) ?_; have hbR := BoxAt.new w3 40 (encNote n); have hbA4 := hbA3.alloc (.cells (encNote n) 40); have hB4 := hB3.alloc hB3.size (.cells (encNote n) 40))
  | ((with_reducible refine at_storeT 31 ?_); refine wpList_store_box hbR rfl _ _ _ rfl rfl (.agg (encRef ⟨0, 0⟩)) rfl (by kernel_rfl) rfl (one_agg (encRef_one _)) ?_; intro w5 hbR5 hT; have hbR6 := hbR5.eqv (cs' := encNote (noRef n)) (by simp [splice, encNote, noRef, encRef, Value.cells]); have hbA6 := hbA4.turn hT (by omega); have hB6 := hB4.trans (hT.below hB3.size); clear hT; have hcA6 : ∀ o, w5.cell? ⟨w.heap.size, o, none⟩ = (encNote n)[o]? := fun o => hbA6.cell o))
 go_ret
 exact ⟨by simp, hB6⟩
theorem good9_w94 (D : Nat → Prop) (n : Note) (w : World) (hok : okNote D w n) (hnum : NumOK n) (hk : n.kind = 9) (hr : validRefB n.ref = true) (h1 : 1 ≤ n.fix) (h2 : n.fix ≤ 8) (h5 : ¬ n.fix = 5) (hc : contentR n.fix (noRef n) = false) :
  Calls Tryz.prog 42 #[.agg (encNote n)] w fun e w' => e = .returned (.bool (false)) ∧ Below w.heap.size w w' := by
 obtain ⟨g0, g1, g2, g3, g4, g5, g6, g7⟩ := hnum
 have f0 : decide (n.bench < 1) = false := by simpa using g0
 have f1 : decide (8 < n.bench) = false := by simpa using g1
 have f2 : decide (n.num < 1) = false := by simpa using g2
 have f3 : decide (400 < n.num) = false := by simpa using g3
 have f4 : decide (n.clock < 1) = false := by simpa using g4
 have f5 : decide (1048576 < n.clock) = false := by simpa using g5
 have f6 : decide (n.year < 0) = false := by simpa using g6
 have f7 : decide (9999 < n.year) = false := by simpa using g7
 have k9 : (n.kind == 9) = true := by simp [hk]
 have k10 : (n.kind == 10) = false := by simp [hk]
 have HR : Hid (∀ W, _) := Lib.hid fun W => ref_ref n.ref W
 simp only [hr] at HR
 have e1 : decide (1 ≤ n.fix) = true := by simp; omega
 have e2 : decide (n.fix ≤ 8) = true := by simp; omega
 have e3 : (n.fix != 5) = true := by simpa using h5
 have HC : Hid (∀ W, Below w.heap.size w W → _) := Lib.hid fun W hW => content_ref D n.fix (noRef n) W (okNote_ref0 (okNote.ext hok (.of_below hW)))
 simp only [hc] at HC
 clear hk h5
 clear hok
 have hbA : BoxAt (w.alloc (.cells (encNote n) 40)) w.heap.size 40 (encNote n) := BoxAt.new _ _ _
 have hB : Below w.heap.size w (w.alloc (.cells (encNote n) 40)) := (Below.refl _ _).alloc (Nat.le_refl _) _
 go_enter Tryz.func42, Tryz.ntmps42
 go_wp2_with (first
  | ((with_reducible refine at_dst 51 ?_); refine wpList_loadB hbA rfl 31 _ rfl rfl (encRef n.ref) (encNote_ref n) Tryz.underlying31 rfl (by kernel_rfl) ?_)
  | (go_at_call 79; refine (HR.out _).mono ?_; rintro e w3 ⟨rfl, hb3⟩; have hB3 := Below.call hB hb3 (Nat.le_refl _); have hbA3 := hbA.belowAll hb3; have hs3 := hbA3.lt; have hcA : ∀ o, w3.cell? ⟨w.heap.size, o, none⟩ = (encNote n)[o]? := fun o => hbA3.cell o)
  | ((with_reducible refine at_dst 54 ?_); refine wpList_loadB hbA3 rfl 40 _ rfl rfl (encNote n) (whole_cells _) Tryz.underlying40 rfl (by kernel_rfl) ?_)
  | ((with_reducible refine at_storeT 40 ?_); refine wpList_store_last (cs := encNote n) rfl 40 _ _ rfl (by simp) rfl rfl (by kernel_rfl) rfl (encNote_one _) ?_; have hbR := BoxAt.new w3 40 (encNote n); have hbA4 := hbA3.alloc (.cells (encNote n) 40); have hB4 := hB3.alloc hB3.size (.cells (encNote n) 40))
  | ((with_reducible refine at_storeT 31 ?_); refine wpList_store_box hbR rfl _ _ _ rfl rfl (.agg (encRef ⟨0, 0⟩)) rfl (by kernel_rfl) rfl (one_agg (encRef_one _)) ?_; intro w5 hbR5 hT; have hbR6 := hbR5.eqv (cs' := encNote (noRef n)) (by simp [splice, encNote, noRef, encRef, Value.cells]); have hbA6 := hbA4.turn hT (by omega); have hB6 := hB4.trans (hT.below hB3.size); clear hT; have hcA6 : ∀ o, w5.cell? ⟨w.heap.size, o, none⟩ = (encNote n)[o]? := fun o => hbA6.cell o)
  | ((with_reducible refine at_dst 87 ?_); refine wpList_loadB hbR6 rfl 40 _ rfl rfl (encNote (noRef n)) (whole_cells _) Tryz.underlying40 rfl (by kernel_rfl) ?_)
  | (go_at_call 80; refine (HC.out _ hB6).mono ?_; rintro e w7 ⟨rfl, hb7⟩; have hB7 := Below.call hB6 hb7 (Nat.le_refl _); have hbA7 := hbA6.belowAll hb7))
 go_ret
 exact ⟨by simp, hB7⟩
theorem good9_w95 (D : Nat → Prop) (n : Note) (w : World) (hok : okNote D w n) (hnum : NumOK n) (hk : n.kind = 9) (hr : validRefB n.ref = true) (h1 : 1 ≤ n.fix) (h2 : n.fix ≤ 8) (h5 : ¬ n.fix = 5) (hc : contentR n.fix (noRef n) = true) :
  Calls Tryz.prog 42 #[.agg (encNote n)] w fun e w' => e = .returned (.bool (ownB n)) ∧ Below w.heap.size w w' := by
 obtain ⟨g0, g1, g2, g3, g4, g5, g6, g7⟩ := hnum
 have f0 : decide (n.bench < 1) = false := by simpa using g0
 have f1 : decide (8 < n.bench) = false := by simpa using g1
 have f2 : decide (n.num < 1) = false := by simpa using g2
 have f3 : decide (400 < n.num) = false := by simpa using g3
 have f4 : decide (n.clock < 1) = false := by simpa using g4
 have f5 : decide (1048576 < n.clock) = false := by simpa using g5
 have f6 : decide (n.year < 0) = false := by simpa using g6
 have f7 : decide (9999 < n.year) = false := by simpa using g7
 have k9 : (n.kind == 9) = true := by simp [hk]
 have k10 : (n.kind == 10) = false := by simp [hk]
 have HR : Hid (∀ W, _) := Lib.hid fun W => ref_ref n.ref W
 simp only [hr] at HR
 have e1 : decide (1 ≤ n.fix) = true := by simp; omega
 have e2 : decide (n.fix ≤ 8) = true := by simp; omega
 have e3 : (n.fix != 5) = true := by simpa using h5
 have HC : Hid (∀ W, Below w.heap.size w W → _) := Lib.hid fun W hW => content_ref D n.fix (noRef n) W (okNote_ref0 (okNote.ext hok (.of_below hW)))
 have HD : Hid (∀ W, Below w.heap.size w W → _) := Lib.hid fun W hW => ids_ref D n W (okNote.ext hok (.of_below hW)) (content_ids hc).1 (content_ids hc).2 ⟨by omega, by omega⟩
 simp only [hc] at HC
 clear hk h5
 clear hok
 have hbA : BoxAt (w.alloc (.cells (encNote n) 40)) w.heap.size 40 (encNote n) := BoxAt.new _ _ _
 have hB : Below w.heap.size w (w.alloc (.cells (encNote n) 40)) := (Below.refl _ _).alloc (Nat.le_refl _) _
 go_enter Tryz.func42, Tryz.ntmps42
 go_wp2_with (first
  | ((with_reducible refine at_dst 51 ?_); refine wpList_loadB hbA rfl 31 _ rfl rfl (encRef n.ref) (encNote_ref n) Tryz.underlying31 rfl (by kernel_rfl) ?_)
  | (go_at_call 79; refine (HR.out _).mono ?_; rintro e w3 ⟨rfl, hb3⟩; have hB3 := Below.call hB hb3 (Nat.le_refl _); have hbA3 := hbA.belowAll hb3; have hs3 := hbA3.lt; have hcA : ∀ o, w3.cell? ⟨w.heap.size, o, none⟩ = (encNote n)[o]? := fun o => hbA3.cell o)
  | ((with_reducible refine at_dst 54 ?_); refine wpList_loadB hbA3 rfl 40 _ rfl rfl (encNote n) (whole_cells _) Tryz.underlying40 rfl (by kernel_rfl) ?_)
  | ((with_reducible refine at_storeT 40 ?_); refine wpList_store_last (cs := encNote n) rfl 40 _ _ rfl (by simp) rfl rfl (by kernel_rfl) rfl (encNote_one _) ?_; have hbR := BoxAt.new w3 40 (encNote n); have hbA4 := hbA3.alloc (.cells (encNote n) 40); have hB4 := hB3.alloc hB3.size (.cells (encNote n) 40))
  | ((with_reducible refine at_storeT 31 ?_); refine wpList_store_box hbR rfl _ _ _ rfl rfl (.agg (encRef ⟨0, 0⟩)) rfl (by kernel_rfl) rfl (one_agg (encRef_one _)) ?_; intro w5 hbR5 hT; have hbR6 := hbR5.eqv (cs' := encNote (noRef n)) (by simp [splice, encNote, noRef, encRef, Value.cells]); have hbA6 := hbA4.turn hT (by omega); have hB6 := hB4.trans (hT.below hB3.size); clear hT; have hcA6 : ∀ o, w5.cell? ⟨w.heap.size, o, none⟩ = (encNote n)[o]? := fun o => hbA6.cell o)
  | ((with_reducible refine at_dst 87 ?_); refine wpList_loadB hbR6 rfl 40 _ rfl rfl (encNote (noRef n)) (whole_cells _) Tryz.underlying40 rfl (by kernel_rfl) ?_)
  | (go_at_call 80; refine (HC.out _ hB6).mono ?_; rintro e w7 ⟨rfl, hb7⟩; have hB7 := Below.call hB6 hb7 (Nat.le_refl _); have hbA7 := hbA6.belowAll hb7)
  | ((with_reducible refine at_dst 93 ?_); refine wpList_loadB hbA7 rfl 40 _ rfl rfl (encNote n) (whole_cells _) Tryz.underlying40 rfl (by kernel_rfl) ?_)
  | (go_at_call 81; refine (HD.out _ hB7).mono ?_; rintro e w8 ⟨rfl, hb8⟩; have hB8 := Below.call hB7 hb8 (Nat.le_refl _)))
 go_ret
 exact ⟨by simp, hB8⟩
theorem well_withdraw (n : Note) (hk : n.kind = 10) : (decide (n.fix = 0) && contentB 10 n && ownB n) = (validRefB n.ref && decide (({ zNote with bench := n.bench, num := n.num, clock := n.clock, year := n.year, kind := n.kind } : Note).abs = (noRef n).abs)) := by
 have h1 : contentB 10 n = (validRefB n.ref && decide (({ blankN n with ref := ⟨0, 0⟩ } : Note).abs = zNote.abs)) := rfl
 have h2 : (({ zNote with bench := n.bench, num := n.num, clock := n.clock, year := n.year, kind := n.kind } : Note).abs = (noRef n).abs) ↔ (n.fix = 0 ∧ ({ blankN n with ref := ⟨0, 0⟩ } : Note).abs = zNote.abs) := by
  obtain ⟨a1, a2, a3, a4, a5, a6, a7, a8, a9, a10, ⟨s1, s2⟩, ⟨r1, r2⟩, ⟨p1, p2, p3⟩, ⟨q1, q2, q3⟩, ⟨d1, d2, d3⟩, ⟨i1, i2, i3, i4, i5, i6, i7, ⟨x1, x2, x3⟩, ⟨y1, y2, y3⟩, ⟨c1, c2⟩, ⟨z1, z2, z3⟩⟩⟩ := n
  simp [noRef, blankN, Note.abs, Item.abs, zNote, zItem, Sl.nil, eq_comm]
  try (constructor <;> intro hh <;> simp_all)
 rw [h1]
 by_cases h : ({ zNote with bench := n.bench, num := n.num, clock := n.clock, year := n.year, kind := n.kind } : Note).abs = (noRef n).abs
 ·obtain ⟨e1, e2⟩ := h2.1 h
  have ho : ownB n = true := by
   have hd : n.data.val = [] := by
    have := congrArg NoteA.data e2
    exact List.map_eq_nil_iff.1 this
   have hi : n.item.abs = zItem.abs := congrArg NoteA.item e2
   simp [ownB, hd, hi]
  rw [decide_eq_true h, decide_eq_true e1, decide_eq_true e2, ho]; simp
 ·rw [decide_eq_false h]
  by_cases e1 : n.fix = 0
  ·have e2 : ¬ ({ blankN n with ref := ⟨0, 0⟩ } : Note).abs = zNote.abs := fun e => h (h2.2 ⟨e1, e⟩)
   rw [decide_eq_false e2]; simp
  ·rw [decide_eq_false e1]; simp
theorem well_nums (n : Note) : (validRefB (refN n) && inB n.clock 1 1048576 && inB n.year 0 9999) = true ↔ (1 ≤ n.bench ∧ n.bench ≤ 8 ∧ 1 ≤ n.num ∧ n.num ≤ 400 ∧ 1 ≤ n.clock ∧ n.clock ≤ 1048576 ∧ 0 ≤ n.year ∧ n.year ≤ 9999) := by
 have h : validRefB (refN n) = (inB n.bench 1 8 && inB n.num 1 400) := rfl
 rw [h]
 simp only [inB, Bool.and_eq_true, decide_eq_true_eq, and_assoc]
theorem good_ref (D : Nat → Prop) (n : Note) (w : World) (hok : okNote D w n) :
  Calls Tryz.prog 42 #[.agg (encNote n)] w fun e w' => e = .returned (.bool (wellB n)) ∧ Below w.heap.size w w' := by
 by_cases hn : (validRefB (refN n) && inB n.clock 1 1048576 && inB n.year 0 9999) = true
 rotate_left
 ·have hw : wellB n = false := by
   have : (validRefB (refN n) && inB n.clock 1 1048576 && inB n.year 0 9999) = false := by simpa using hn
   unfold wellB; rw [this]; rfl
  rw [hw]
  rw [well_nums] at hn
  exact good9_n n w (fun ⟨g0, g1, g2, g3, g4, g5, g6, g7⟩ => hn ⟨by omega, by omega, by omega, by omega, by omega, by omega, by omega, by omega⟩)
 have hW : wellB n = (ownB n && (if inB n.kind 1 8 = true ∨ n.kind = 10 then decide (n.fix = 0) && contentB n.kind n
    else if n.kind = 9 then inB n.fix 1 8 && !decide (n.fix = 5) && validRefB n.ref && contentB n.fix (noRef n) else false)) := by
  unfold wellB; rw [hn]; rfl
 rw [hW]
 obtain ⟨b1, b2, b3, b4, b5, b6, b7, b8⟩ := (well_nums n).1 hn
 clear hn hW
 have hnum : NumOK n := ⟨by omega, by omega, by omega, by omega, by omega, by omega, by omega, by omega⟩
 by_cases hk9 : n.kind = 9
 ·have hin : ¬ (inB n.kind 1 8 = true ∨ n.kind = 10) := by simp [hk9, inB]
  rw [if_neg hin, if_pos hk9]
  cases hr : validRefB n.ref
  ·simp only [Bool.and_false, Bool.false_and]
   exact good9_w90 D n w hok hnum hk9 hr
  by_cases h1 : n.fix < 1
  ·have e : inB n.fix 1 8 = false := by simp [inB]; omega
   simp only [e, Bool.false_and, Bool.and_false]
   exact good9_w91 D n w hok hnum hk9 hr h1
  by_cases h2 : 8 < n.fix
  ·have e : inB n.fix 1 8 = false := by simp [inB]; omega
   simp only [e, Bool.false_and, Bool.and_false]
   exact good9_w92 D n w hok hnum hk9 hr h2
  have e : inB n.fix 1 8 = true := by simp [inB]; omega
  by_cases h5 : n.fix = 5
  ·simp only [decide_eq_true h5, Bool.not_true, Bool.false_and, Bool.and_false]
   exact good9_w93 D n w hok hnum hk9 hr h5
  rw [← content_eq n.fix (noRef n) ⟨by omega, by omega⟩]
  cases hc : contentR n.fix (noRef n)
  ·simp only [Bool.and_false]
   exact good9_w94 D n w hok hnum hk9 hr (by omega) (by omega) h5 hc
  ·simp only [e, decide_eq_false h5, Bool.not_false, Bool.and_true]
   exact good9_w95 D n w hok hnum hk9 hr (by omega) (by omega) h5 hc
 by_cases hk10 : n.kind = 10
 ·rw [if_pos (.inr hk10), hk10, Bool.and_comm, well_withdraw n hk10]
  cases hr : validRefB n.ref
  ·simp only [Bool.false_and]
   exact good9_w100 D n w hok hnum hk10 hr
  ·simp only [Bool.true_and]
   exact good9_w101 D n w hok hnum hk10 hr
 by_cases h1 : n.kind < 1
 ·have hin : ¬ (inB n.kind 1 8 = true ∨ n.kind = 10) := by simp [inB]; omega
  rw [if_neg hin, if_neg hk9, Bool.and_false]
  exact good9_k1 D n w hok hnum hk9 hk10 h1
 by_cases h2 : 8 < n.kind
 ·have hin : ¬ (inB n.kind 1 8 = true ∨ n.kind = 10) := by simp [inB]; omega
  rw [if_neg hin, if_neg hk9, Bool.and_false]
  exact good9_k2 D n w hok hnum hk9 hk10 h2
 have hin : inB n.kind 1 8 = true := by simp [inB]; omega
 rw [if_pos (.inl hin)]
 by_cases h : n.fix = 0
 ·rw [decide_eq_true h, Bool.true_and, ← content_eq n.kind n ⟨by omega, by omega⟩]
  cases hc : contentR n.kind n
  ·rw [Bool.and_false]
   exact good9_k4 D n w hok hnum hk9 hk10 (by omega) (by omega) h hc
  ·rw [Bool.and_true]
   exact good9_k5 D n w hok hnum hk9 hk10 (by omega) (by omega) h hc
 ·rw [decide_eq_false h, Bool.false_and, Bool.and_false]
  exact good9_k3 D n w hok hnum hk9 hk10 (by omega) (by omega) h
end Go.Proofs.YtendmmhfjhgdaaaGreat
end
section
set_option linter.unusedVariables false
set_option linter.unusedSimpArgs false
namespace Go.Proofs.YtendmmhfjhgdaaaGreat
open Go.RowKit
theorem refOf_ref (n : Note) (w : World) :
  Calls Tryz.prog 43 #[.agg (encNote n)] w fun e w' => e = .returned (.agg (encRef (refN n))) ∧ Below w.heap.size w w' := by
 go_enter Tryz.func43, Tryz.ntmps43
 go_wp2
 exact bodyPost_ret (v := .agg (encRef (refN n))) (by simp [results, Tryz.results43, go_sem, encRef, refN]) rfl ⟨rfl, by repeat (first | exact Below.refl _ _ | assumption | refine Below.drew ?_ | refine Below.alloc ?_ (by simp; try omega) _)⟩
theorem ltRef_iff (a b : Ref) : ltRef a b = true ↔ (a.bench < b.bench ∨ a.bench = b.bench ∧ a.num < b.num) := by
 simp only [ltRef, decide_eq_true_eq, compareRefsI_lt]
theorem less_ref (a b : Ref) (w : World) :
  Calls Tryz.prog 44 #[.agg (encRef a), .agg (encRef b)] w fun e w' => e = .returned (.bool (ltRef a b)) ∧ Below w.heap.size w w' := by
 have hB : Below w.heap.size w ((w.alloc (.cells (encRef a) 31)).alloc (.cells (encRef b) 31)) := ((Below.refl _ _).alloc (Nat.le_refl _) _).alloc (by simp) _
 by_cases h1 : a.bench < b.bench
 ·have HE : Hid (ltRef a b = true) := Lib.hid ((ltRef_iff a b).2 (.inl h1))
  have e1 : decide (a.bench < b.bench) = true := by simpa using h1
  clear h1
  go_enter Tryz.func44, Tryz.ntmps44
  go_wp2
  go_ret
  exact ⟨by simp [HE.out], hB⟩
 ·have e1 : decide (a.bench < b.bench) = false := by simpa using h1
  by_cases h2 : a.bench = b.bench
  ·have HE : Hid (ltRef a b = decide (a.num < b.num)) := Lib.hid (by rw [Bool.eq_iff_iff, ltRef_iff, decide_eq_true_eq]; constructor <;> intro h <;> omega)
   have e2 : (a.bench == b.bench) = true := by simpa using h2
   clear h1 h2
   go_enter Tryz.func44, Tryz.ntmps44
   go_wp2
   go_ret
   exact ⟨by simp [HE.out], hB⟩
  ·have HE : Hid (ltRef a b = false) := Lib.hid (by rw [Bool.eq_false_iff]; intro h; rw [ltRef_iff] at h; omega)
   have e2 : (a.bench == b.bench) = false := by simpa using h2
   clear h1 h2
   go_enter Tryz.func44, Tryz.ntmps44
   go_wp2
   go_ret
   exact ⟨by simp [HE.out], hB⟩
theorem cmpRefs0 (a b : Ref) : compareRefsI a b = 0 ↔ b = a := by
 obtain ⟨a1, a2⟩ := a; obtain ⟨b1, b2⟩ := b
 simp only [compareRefsI, orI_cons, orI_nil, cmpI, Ref.mk.injEq]
 split <;> split <;> (try split) <;> (try split) <;> (try split) <;> simp_all <;> (try omega)
theorem cmpRefs1 (a b : Ref) : compareRefsI a b = 1 ↔ ltRef b a = true := by
 rw [ltRef_iff]
 simp only [compareRefsI, orI_cons, orI_nil, cmpI]
 split <;> split <;> (try split) <;> (try split) <;> (try split) <;> simp_all <;> (try omega)
theorem checkNote_ref (D : Nat → Prop) (n : Note) (w : World) (hok : okNote D w n) :
  Calls Tryz.prog 16 #[.agg (encNote n)] w fun e w' => e = .returned (.int .i64 (if wellB n then 0 else 90)) ∧ Below w.heap.size w w' := by
 have hB : Below w.heap.size w (w.alloc (.cells (encNote n) 40)) := (Below.refl _ _).alloc (Nat.le_refl _) _
 have hbA : BoxAt (w.alloc (.cells (encNote n) 40)) w.heap.size 40 (encNote n) := BoxAt.new _ _ _
 have HW := Lib.hid (good_ref D n _ (okNote.ext hok (.of_below hB)))
 clear hok
 rcases h0 : wellB n
 all_goals simp only [h0] at HW
 all_goals go_enter Tryz.func16, Tryz.ntmps16
 all_goals go_wp2_with (first
  | ((with_reducible refine at_dst 3 ?_); refine wpList_loadB hbA rfl 40 _ rfl rfl (encNote n) (whole_cells _) Tryz.underlying40 rfl (by kernel_rfl) ?_)
  | (go_at_call 42; refine HW.out.mono ?_; rintro e w1 ⟨rfl, hb1⟩))
 all_goals go_ret
 all_goals exact ⟨by simp, Below.call hB hb1 (Nat.le_refl _)⟩
theorem checkSet_ref (D : Nat → Prop) (s : Sl Note) (w : World) (hs : s.OK 29 encNote okNote D w) :
  Calls Tryz.prog 14 #[.slice s.a s.val.length s.cap] w fun e w' => e = .returned (.tuple #[.int .i64 (checkSetR s.val).1, .int .i64 (checkSetR s.val).2]) ∧ Below w.heap.size w w' := by
 have hroom := hs.room
 have HS := Lib.hid hs
 clear hs
 obtain ⟨a, cap, val⟩ := s
 simp only at hroom
 by_cases hlen : (400 : Int) < (val.length : Int)
 ·have HF : Hid (checkSetR val = (2, 0)) := Lib.hid (by unfold checkSetR; rw [if_pos hlen])
  go_enter Tryz.func14, Tryz.ntmps14
  go_wp2
  exact bodyPost_ret (v := .tuple #[.int .i64 2, .int .i64 0]) (by simp [results, Tryz.results14, go_sem]) rfl ⟨by simp [HF.out], Below.refl _ _⟩
 have H0 : Hid (checkSetR val = setFrom none 0 val) := Lib.hid (by unfold checkSetR; rw [if_neg hlen])
 go_enter Tryz.func14, Tryz.ntmps14
 go_wp2
 go_loopw [4] (fun i wr => ∃ k : Nat, k ≤ val.length ∧ i = .int .i64 k ∧ Hid (checkSetR val = setFrom (if k = 0 then none else val[k - 1]?) k (val.drop k)) ∧ Below w.heap.size w wr) (fun i _ => val.length - (intOf i).toNat)
 case atStart => exact ⟨0, Nat.zero_le _, rfl, Lib.hid (by rw [H0.out]; simp), Below.refl _ _⟩
 case round =>
  obtain ⟨k, hk, rfl, hn, hB⟩ := hrel
  by_cases hlt : k < val.length
  ·obtain ⟨y, hy⟩ : ∃ y, val[k]? = some y := ⟨_, List.getElem?_eq_getElem hlt⟩
   obtain ⟨b, o, rfl, hb, _, hok, hcell⟩ := HS.out.at hy
   have HC : Hid (∀ W, Below w.heap.size w W → ∀ j, j < (encNote y).size → W.cell? ⟨b, o + k * 29 + j, none⟩ = (encNote y)[j]?) := Lib.hid fun W hW j hj => by
    rw [(Ext.of_below (D := fun _ => False) hW).cell hb id]; exact hcell j hj
   have hi1 : (k : Int) < (val.length : Int) := by omega
   have HV : Hid (∀ W, Below w.heap.size w W → Calls Tryz.prog 42 #[.agg (encNote y)] W fun e w' => e = .returned (.bool (wellB y)) ∧ Below W.heap.size W w') := Lib.hid fun W hW => good_ref D y W (okNote.ext hok (.of_below hW))
   have hdrop : val.drop k = y :: val.drop (k + 1) := by
    rw [List.drop_eq_getElem_cons hlt]; congr 1; have := List.getElem?_eq_getElem hlt; rw [hy] at this; exact (Option.some.inj this).symm
   have HD := Lib.hid hdrop
   have HY := Lib.hid hy
   clear hy hcell hok hdrop
   rcases hw : wellB y
   ·simp only [hw] at HV
    have HF : Hid (checkSetR val = (90, (k : Int))) := Lib.hid (by rw [hn.out, HD.out]; unfold setFrom; rw [if_pos hw])
    go_wp2_with (first
     | ((with_reducible refine at_dst 17 ?_); refine wpList_load_at rfl 40 _ rfl b (o + k * 29) rfl (encNote y) _ (HC.out _ hB) Tryz.underlying40 rfl (by kernel_rfl) ?_)
     | (go_at_call 42; refine (HV.out _ hB).mono ?_; rintro e w1 ⟨rfl, hb1⟩))
    exact bodyPost_ret (v := .tuple #[.int .i64 90, .int .i64 (k : Int)]) (by simp [results, Tryz.results14, go_sem]) rfl ⟨by simp [HF.out], Below.call hB hb1 (Nat.le_refl _)⟩
   simp only [hw] at HV
   by_cases h0 : (0 : Int) < (k : Int)
   ·obtain ⟨m, hm⟩ : ∃ m, k = m + 1 := ⟨k - 1, by omega⟩
    obtain ⟨x, hx⟩ : ∃ x, val[m]? = some x := ⟨_, List.getElem?_eq_getElem (by omega)⟩
    have hcell2 := HS.out.cell b o rfl _ _ hx
    have HCX : Hid (∀ W, Below w.heap.size w W → ∀ j, j < (encNote x).size → W.cell? ⟨b, o + m * 29 + j, none⟩ = (encNote x)[j]?) := Lib.hid fun W hW j hj => by
     rw [(Ext.of_below (D := fun _ => False) hW).cell hb id]; exact hcell2 j hj
    have HSTEP : Hid (checkSetR val = if refN y = refN x then (91, (k : Int)) else if ltRef (refN y) (refN x) = true then (1, (k : Int)) else setFrom (some y) (k + 1) (val.drop (k + 1))) := Lib.hid (by
     rw [hn.out, HD.out, if_neg (by omega), show k - 1 = m by omega, hx, setFrom, if_neg (by simp [hw])]
     simp only [cmpRefs0, cmpRefs1])
    have HM := Lib.hid hm
    have hd : decide ((0 : Int) < (k : Int)) = true := by simpa using h0
    have hs1 : IntKind.i64.wrap ((k : Int) - 1) = (m : Int) := by rw [hm, show ((m + 1 : Nat) : Int) - 1 = (m : Int) by omega]; exact IntWalk.i64_in _ (by omega)
    have hs2 : wrap64 ((k : Int) - 1) = (m : Int) := by unfold wrap64; omega
    have hi2 : (m : Int) < (val.length : Int) := by omega
    clear hx hcell2 hm
    by_cases hc0 : refN y = refN x
    ·have heq : eqRef (refN y) (refN x) = true := by simpa [eqRef] using hc0
     have HF : Hid (checkSetR val = (91, (k : Int))) := Lib.hid (by rw [HSTEP.out, if_pos hc0])
     clear hc0
     go_wp2_with (first
      | ((with_reducible refine at_dst 17 ?_); refine wpList_load_at rfl 40 _ rfl b (o + k * 29) rfl (encNote y) _ (HC.out _ hB) Tryz.underlying40 rfl (by kernel_rfl) ?_)
      | (go_at_call 42; refine (HV.out _ hB).mono ?_; rintro e w1 ⟨rfl, hb1⟩))
     have hB1 := Below.call hB hb1 (Nat.le_refl _)
     have HC1 := Lib.hid (HC.out _ hB1)
     have hl1 : b < w1.heap.size := Nat.lt_of_lt_of_le hb hB1.size
     have HC2 := Lib.hid (HCX.out _ hB1)
     refine wp_region_ord [(0, true), (1, true), (2, true), (3, true), (4, true), (5, true), (6, true), (8, true), (9, true), (10, true), (11, true), (12, true), (7, false), (13, false), (14, true), (15, true)] rfl (by kernel_rfl) (by kernel_rfl) (fun d _ _ _ _ h => by cases d <;> exact h) ?_
     refine wpB_fix rfl rfl (fun W hW => by go_simp; with_reducible rfl) ?_; simp only [pTs, pTn, pTz, pTc]
     refine wpB_fix (v := .bool true) rfl rfl (fun W hW => by have h00 : 0 < k := (by omega); go_simp) ?_; simp only [pTs, pTn, pTz, pTc]
     iterate 4 (refine wpB_fix rfl rfl (fun W hW => by go_simp; with_reducible rfl) ?_; simp only [pTs, pTn, pTz, pTc])
     refine wpB_fix (v := .agg (encNote y)) rfl rfl (fun W hW => run_load_mem (encNote y) rfl (fun j hj => (hW.cell (p := ⟨b, o + k * 29 + j, none⟩) hl1).trans (HC1.out j hj)) Tryz.underlying40 rfl (by kernel_rfl)) ?_; simp only [pTs, pTn, pTz, pTc]
     iterate 4 (refine wpB_fix rfl rfl (fun W hW => by go_simp; with_reducible rfl) ?_; simp only [pTs, pTn, pTz, pTc])
     refine wpB_fix (v := .agg (encNote x)) rfl rfl (fun W hW => run_load_mem (encNote x) rfl (fun j hj => (hW.cell (p := ⟨b, o + m * 29 + j, none⟩) hl1).trans (HC2.out j hj)) Tryz.underlying40 rfl (by kernel_rfl)) ?_; simp only [pTs, pTn, pTz, pTc]
     refine wpB_act rfl rfl (fun K hK => ?_)
     go_simp
     refine (refOf_ref y _).mono ?_
     rintro e w2 ⟨rfl, hb2⟩
     have hB2 := Below.call hB1.drew hb2 (Nat.le_refl _)
     refine hK _ _ hb2 ?_
     clear hK K
     try simp only [pTs, pTn, pTz, pTc]
     refine wpB_act rfl rfl (fun K hK => ?_)
     go_simp
     refine (refOf_ref x _).mono ?_
     rintro e w3 ⟨rfl, hb3⟩
     have hB3 := Below.call hB2 hb3 (Nat.le_refl _)
     refine hK _ _ hb3 ?_
     clear hK K
     try simp only [pTs, pTn, pTz, pTc]
     iterate 2 (refine wpB_fix rfl rfl (fun W hW => by go_simp; with_reducible rfl) ?_; simp only [pTs, pTn, pTz, pTc])
     simp only [wpB]
     go_wp2
     exact bodyPost_ret (v := .tuple #[.int .i64 91, .int .i64 (k : Int)]) (by simp [results, Tryz.results14, go_sem]) rfl ⟨by simp [HF.out], hB3⟩
    have heq : eqRef (refN y) (refN x) = false := by simpa [eqRef] using hc0
    have HL := Lib.hid (less_ref (refN y) (refN x))
    rcases hc1 : ltRef (refN y) (refN x)
    ·simp only [hc1] at HL
     have HF : Hid (checkSetR val = setFrom (some y) (k + 1) (val.drop (k + 1))) := Lib.hid (by rw [HSTEP.out, if_neg hc0, if_neg (by simp [hc1])])
     clear hc0
     go_wp2_with (first
      | ((with_reducible refine at_dst 17 ?_); refine wpList_load_at rfl 40 _ rfl b (o + k * 29) rfl (encNote y) _ (HC.out _ hB) Tryz.underlying40 rfl (by kernel_rfl) ?_)
      | (go_at_call 42; refine (HV.out _ hB).mono ?_; rintro e w1 ⟨rfl, hb1⟩))
     have hB1 := Below.call hB hb1 (Nat.le_refl _)
     have HC1 := Lib.hid (HC.out _ hB1)
     have hl1 : b < w1.heap.size := Nat.lt_of_lt_of_le hb hB1.size
     have HC2 := Lib.hid (HCX.out _ hB1)
     refine wp_region_ord [(0, true), (1, true), (2, true), (3, true), (4, true), (5, true), (6, true), (8, true), (9, true), (10, true), (11, true), (12, true), (7, false), (13, false), (14, true), (15, true)] rfl (by kernel_rfl) (by kernel_rfl) (fun d _ _ _ _ h => by cases d <;> exact h) ?_
     refine wpB_fix rfl rfl (fun W hW => by go_simp; with_reducible rfl) ?_; simp only [pTs, pTn, pTz, pTc]
     refine wpB_fix (v := .bool true) rfl rfl (fun W hW => by have h00 : 0 < k := (by omega); go_simp) ?_; simp only [pTs, pTn, pTz, pTc]
     iterate 4 (refine wpB_fix rfl rfl (fun W hW => by go_simp; with_reducible rfl) ?_; simp only [pTs, pTn, pTz, pTc])
     refine wpB_fix (v := .agg (encNote y)) rfl rfl (fun W hW => run_load_mem (encNote y) rfl (fun j hj => (hW.cell (p := ⟨b, o + k * 29 + j, none⟩) hl1).trans (HC1.out j hj)) Tryz.underlying40 rfl (by kernel_rfl)) ?_; simp only [pTs, pTn, pTz, pTc]
     iterate 4 (refine wpB_fix rfl rfl (fun W hW => by go_simp; with_reducible rfl) ?_; simp only [pTs, pTn, pTz, pTc])
     refine wpB_fix (v := .agg (encNote x)) rfl rfl (fun W hW => run_load_mem (encNote x) rfl (fun j hj => (hW.cell (p := ⟨b, o + m * 29 + j, none⟩) hl1).trans (HC2.out j hj)) Tryz.underlying40 rfl (by kernel_rfl)) ?_; simp only [pTs, pTn, pTz, pTc]
     refine wpB_act rfl rfl (fun K hK => ?_)
     go_simp
     refine (refOf_ref y _).mono ?_
     rintro e w2 ⟨rfl, hb2⟩
     have hB2 := Below.call hB1.drew hb2 (Nat.le_refl _)
     refine hK _ _ hb2 ?_
     clear hK K
     try simp only [pTs, pTn, pTz, pTc]
     refine wpB_act rfl rfl (fun K hK => ?_)
     go_simp
     refine (refOf_ref x _).mono ?_
     rintro e w3 ⟨rfl, hb3⟩
     have hB3 := Below.call hB2 hb3 (Nat.le_refl _)
     refine hK _ _ hb3 ?_
     clear hK K
     try simp only [pTs, pTn, pTz, pTc]
     iterate 2 (refine wpB_fix rfl rfl (fun W hW => by go_simp; with_reducible rfl) ?_; simp only [pTs, pTn, pTz, pTc])
     simp only [wpB]
     have HC1b := Lib.hid (HC.out _ hB3)
     have HC2b := Lib.hid (HCX.out _ hB3)
     have hl3 : b < w3.heap.size := Nat.lt_of_lt_of_le hb hB3.size
     go_wp2
     refine wp_region_ord [(0, true), (1, true), (2, true), (3, true), (4, true), (5, true), (6, true), (8, true), (9, true), (10, true), (11, true), (12, true), (7, false), (13, false), (14, false), (15, true)] rfl (by kernel_rfl) (by kernel_rfl) (fun d _ _ _ _ h => by cases d <;> exact h) ?_
     refine wpB_fix rfl rfl (fun W hW => by go_simp; with_reducible rfl) ?_; simp only [pTs, pTn, pTz, pTc]
     refine wpB_fix (v := .bool true) rfl rfl (fun W hW => by have h00 : 0 < k := (by omega); go_simp) ?_; simp only [pTs, pTn, pTz, pTc]
     iterate 4 (refine wpB_fix rfl rfl (fun W hW => by go_simp; with_reducible rfl) ?_; simp only [pTs, pTn, pTz, pTc])
     refine wpB_fix (v := .agg (encNote y)) rfl rfl (fun W hW => run_load_mem (encNote y) rfl (fun j hj => (hW.cell (p := ⟨b, o + k * 29 + j, none⟩) hl3).trans (HC1b.out j hj)) Tryz.underlying40 rfl (by kernel_rfl)) ?_; simp only [pTs, pTn, pTz, pTc]
     iterate 4 (refine wpB_fix rfl rfl (fun W hW => by go_simp; with_reducible rfl) ?_; simp only [pTs, pTn, pTz, pTc])
     refine wpB_fix (v := .agg (encNote x)) rfl rfl (fun W hW => run_load_mem (encNote x) rfl (fun j hj => (hW.cell (p := ⟨b, o + m * 29 + j, none⟩) hl3).trans (HC2b.out j hj)) Tryz.underlying40 rfl (by kernel_rfl)) ?_; simp only [pTs, pTn, pTz, pTc]
     refine wpB_act rfl rfl (fun K hK => ?_)
     go_simp
     refine (refOf_ref y _).mono ?_
     rintro e w4 ⟨rfl, hb4⟩
     have hB4 := Below.call hB3.drew hb4 (Nat.le_refl _)
     refine hK _ _ hb4 ?_
     clear hK K
     try simp only [pTs, pTn, pTz, pTc]
     refine wpB_act rfl rfl (fun K hK => ?_)
     go_simp
     refine (refOf_ref x _).mono ?_
     rintro e w5 ⟨rfl, hb5⟩
     have hB5 := Below.call hB4 hb5 (Nat.le_refl _)
     refine hK _ _ hb5 ?_
     clear hK K
     try simp only [pTs, pTn, pTz, pTc]
     refine wpB_act rfl rfl (fun K hK => ?_)
     go_simp
     refine (HL.out _).mono ?_
     rintro e w6 ⟨rfl, hb6⟩
     have hB6 := Below.call hB5 hb6 (Nat.le_refl _)
     refine hK _ _ hb6 ?_
     clear hK K
     try simp only [pTs, pTn, pTz, pTc]
     refine wpB_fix rfl rfl (fun W hW => by go_simp; with_reducible rfl) ?_; simp only [pTs, pTn, pTz, pTc]
     simp only [wpB]
     go_wp2
     go_roundw
     case rel => exact ⟨k + 1, by omega, by go_num, Lib.hid (by rw [HF.out, if_neg (by omega), Nat.add_sub_cancel, HY.out]), hB6⟩
     case measure => simp [intOf]; omega
    ·simp only [hc1] at HL
     have HF : Hid (checkSetR val = (1, (k : Int))) := Lib.hid (by rw [HSTEP.out, if_neg hc0, if_pos hc1])
     clear hc0
     go_wp2_with (first
      | ((with_reducible refine at_dst 17 ?_); refine wpList_load_at rfl 40 _ rfl b (o + k * 29) rfl (encNote y) _ (HC.out _ hB) Tryz.underlying40 rfl (by kernel_rfl) ?_)
      | (go_at_call 42; refine (HV.out _ hB).mono ?_; rintro e w1 ⟨rfl, hb1⟩))
     have hB1 := Below.call hB hb1 (Nat.le_refl _)
     have HC1 := Lib.hid (HC.out _ hB1)
     have hl1 : b < w1.heap.size := Nat.lt_of_lt_of_le hb hB1.size
     have HC2 := Lib.hid (HCX.out _ hB1)
     refine wp_region_ord [(0, true), (1, true), (2, true), (3, true), (4, true), (5, true), (6, true), (8, true), (9, true), (10, true), (11, true), (12, true), (7, false), (13, false), (14, true), (15, true)] rfl (by kernel_rfl) (by kernel_rfl) (fun d _ _ _ _ h => by cases d <;> exact h) ?_
     refine wpB_fix rfl rfl (fun W hW => by go_simp; with_reducible rfl) ?_; simp only [pTs, pTn, pTz, pTc]
     refine wpB_fix (v := .bool true) rfl rfl (fun W hW => by have h00 : 0 < k := (by omega); go_simp) ?_; simp only [pTs, pTn, pTz, pTc]
     iterate 4 (refine wpB_fix rfl rfl (fun W hW => by go_simp; with_reducible rfl) ?_; simp only [pTs, pTn, pTz, pTc])
     refine wpB_fix (v := .agg (encNote y)) rfl rfl (fun W hW => run_load_mem (encNote y) rfl (fun j hj => (hW.cell (p := ⟨b, o + k * 29 + j, none⟩) hl1).trans (HC1.out j hj)) Tryz.underlying40 rfl (by kernel_rfl)) ?_; simp only [pTs, pTn, pTz, pTc]
     iterate 4 (refine wpB_fix rfl rfl (fun W hW => by go_simp; with_reducible rfl) ?_; simp only [pTs, pTn, pTz, pTc])
     refine wpB_fix (v := .agg (encNote x)) rfl rfl (fun W hW => run_load_mem (encNote x) rfl (fun j hj => (hW.cell (p := ⟨b, o + m * 29 + j, none⟩) hl1).trans (HC2.out j hj)) Tryz.underlying40 rfl (by kernel_rfl)) ?_; simp only [pTs, pTn, pTz, pTc]
     refine wpB_act rfl rfl (fun K hK => ?_)
     go_simp
     refine (refOf_ref y _).mono ?_
     rintro e w2 ⟨rfl, hb2⟩
     have hB2 := Below.call hB1.drew hb2 (Nat.le_refl _)
     refine hK _ _ hb2 ?_
     clear hK K
     try simp only [pTs, pTn, pTz, pTc]
     refine wpB_act rfl rfl (fun K hK => ?_)
     go_simp
     refine (refOf_ref x _).mono ?_
     rintro e w3 ⟨rfl, hb3⟩
     have hB3 := Below.call hB2 hb3 (Nat.le_refl _)
     refine hK _ _ hb3 ?_
     clear hK K
     try simp only [pTs, pTn, pTz, pTc]
     iterate 2 (refine wpB_fix rfl rfl (fun W hW => by go_simp; with_reducible rfl) ?_; simp only [pTs, pTn, pTz, pTc])
     simp only [wpB]
     have HC1b := Lib.hid (HC.out _ hB3)
     have HC2b := Lib.hid (HCX.out _ hB3)
     have hl3 : b < w3.heap.size := Nat.lt_of_lt_of_le hb hB3.size
     go_wp2
     refine wp_region_ord [(0, true), (1, true), (2, true), (3, true), (4, true), (5, true), (6, true), (8, true), (9, true), (10, true), (11, true), (12, true), (7, false), (13, false), (14, false), (15, true)] rfl (by kernel_rfl) (by kernel_rfl) (fun d _ _ _ _ h => by cases d <;> exact h) ?_
     refine wpB_fix rfl rfl (fun W hW => by go_simp; with_reducible rfl) ?_; simp only [pTs, pTn, pTz, pTc]
     refine wpB_fix (v := .bool true) rfl rfl (fun W hW => by have h00 : 0 < k := (by omega); go_simp) ?_; simp only [pTs, pTn, pTz, pTc]
     iterate 4 (refine wpB_fix rfl rfl (fun W hW => by go_simp; with_reducible rfl) ?_; simp only [pTs, pTn, pTz, pTc])
     refine wpB_fix (v := .agg (encNote y)) rfl rfl (fun W hW => run_load_mem (encNote y) rfl (fun j hj => (hW.cell (p := ⟨b, o + k * 29 + j, none⟩) hl3).trans (HC1b.out j hj)) Tryz.underlying40 rfl (by kernel_rfl)) ?_; simp only [pTs, pTn, pTz, pTc]
     iterate 4 (refine wpB_fix rfl rfl (fun W hW => by go_simp; with_reducible rfl) ?_; simp only [pTs, pTn, pTz, pTc])
     refine wpB_fix (v := .agg (encNote x)) rfl rfl (fun W hW => run_load_mem (encNote x) rfl (fun j hj => (hW.cell (p := ⟨b, o + m * 29 + j, none⟩) hl3).trans (HC2b.out j hj)) Tryz.underlying40 rfl (by kernel_rfl)) ?_; simp only [pTs, pTn, pTz, pTc]
     refine wpB_act rfl rfl (fun K hK => ?_)
     go_simp
     refine (refOf_ref y _).mono ?_
     rintro e w4 ⟨rfl, hb4⟩
     have hB4 := Below.call hB3.drew hb4 (Nat.le_refl _)
     refine hK _ _ hb4 ?_
     clear hK K
     try simp only [pTs, pTn, pTz, pTc]
     refine wpB_act rfl rfl (fun K hK => ?_)
     go_simp
     refine (refOf_ref x _).mono ?_
     rintro e w5 ⟨rfl, hb5⟩
     have hB5 := Below.call hB4 hb5 (Nat.le_refl _)
     refine hK _ _ hb5 ?_
     clear hK K
     try simp only [pTs, pTn, pTz, pTc]
     refine wpB_act rfl rfl (fun K hK => ?_)
     go_simp
     refine (HL.out _).mono ?_
     rintro e w6 ⟨rfl, hb6⟩
     have hB6 := Below.call hB5 hb6 (Nat.le_refl _)
     refine hK _ _ hb6 ?_
     clear hK K
     try simp only [pTs, pTn, pTz, pTc]
     refine wpB_fix rfl rfl (fun W hW => by go_simp; with_reducible rfl) ?_; simp only [pTs, pTn, pTz, pTc]
     simp only [wpB]
     go_wp2
     exact bodyPost_ret (v := .tuple #[.int .i64 1, .int .i64 (k : Int)]) (by simp [results, Tryz.results14, go_sem]) rfl ⟨by simp [HF.out], hB6⟩
   ·have hd : decide ((0 : Int) < (k : Int)) = false := by simpa using h0
    have HK0 : Hid (k = 0) := Lib.hid (by omega)
    have HF : Hid (checkSetR val = setFrom (some y) (k + 1) (val.drop (k + 1))) := Lib.hid (by rw [hn.out, HD.out, if_pos HK0.out]; simp [setFrom, hw])
    go_wp2_with (first
     | ((with_reducible refine at_dst 17 ?_); refine wpList_load_at rfl 40 _ rfl b (o + k * 29) rfl (encNote y) _ (HC.out _ hB) Tryz.underlying40 rfl (by kernel_rfl) ?_)
     | (go_at_call 42; refine (HV.out _ hB).mono ?_; rintro e w1 ⟨rfl, hb1⟩))
    have hB1 := Below.call hB hb1 (Nat.le_refl _)
    have HC1 := Lib.hid (HC.out _ hB1)
    have hl1 : b < w1.heap.size := Nat.lt_of_lt_of_le hb hB1.size
    refine wp_region_ord [(0, true), (1, true), (2, true), (3, true), (4, true), (5, true), (6, true), (8, true), (9, true), (10, true), (11, true), (12, true), (7, false), (13, false), (14, true), (15, true)] rfl (by kernel_rfl) (by kernel_rfl) (fun d _ _ _ _ h => by cases d <;> exact h) ?_
    refine wpB_fix rfl rfl (fun W hW => by go_simp; with_reducible rfl) ?_; simp only [pTs, pTn, pTz, pTc]
    refine wpB_fix (v := .bool false) rfl rfl (fun W hW => by have h00 : k = 0 := HK0.out; go_simp) ?_; simp only [pTs, pTn, pTz, pTc]
    refine wpB_fix rfl rfl (fun W hW => by go_simp; with_reducible rfl) ?_; simp only [pTs, pTn, pTz, pTc]
    iterate 9 (refine wpB_skip rfl rfl ?_; simp only [pTs, pTn, pTz, pTc])
    iterate 2 (refine wpB_skip_act rfl rfl ?_; simp only [pTs, pTn, pTz, pTc])
    refine wpB_skip rfl rfl ?_; simp only [pTs, pTn, pTz, pTc]
    refine wpB_fix rfl rfl (fun W hW => by go_simp; with_reducible rfl) ?_; simp only [pTs, pTn, pTz, pTc]
    simp only [wpB]
    have hB3 := hB1.drew
    go_wp2
    refine wp_region_ord [(0, true), (1, true), (2, true), (3, true), (4, true), (5, true), (6, true), (8, true), (9, true), (10, true), (11, true), (12, true), (7, false), (13, false), (14, false), (15, true)] rfl (by kernel_rfl) (by kernel_rfl) (fun d _ _ _ _ h => by cases d <;> exact h) ?_
    refine wpB_fix rfl rfl (fun W hW => by go_simp; with_reducible rfl) ?_; simp only [pTs, pTn, pTz, pTc]
    refine wpB_fix (v := .bool false) rfl rfl (fun W hW => by have h00 : k = 0 := HK0.out; go_simp) ?_; simp only [pTs, pTn, pTz, pTc]
    refine wpB_fix rfl rfl (fun W hW => by go_simp; with_reducible rfl) ?_; simp only [pTs, pTn, pTz, pTc]
    iterate 9 (refine wpB_skip rfl rfl ?_; simp only [pTs, pTn, pTz, pTc])
    iterate 3 (refine wpB_skip_act rfl rfl ?_; simp only [pTs, pTn, pTz, pTc])
    refine wpB_fix rfl rfl (fun W hW => by go_simp; with_reducible rfl) ?_; simp only [pTs, pTn, pTz, pTc]
    simp only [wpB]
    go_wp2
    go_roundw
    case rel => exact ⟨k + 1, by omega, by go_num, Lib.hid (by rw [HF.out, if_neg (by omega), Nat.add_sub_cancel, HY.out]), hB3.drew⟩
    case measure => simp [intOf]; omega
  ·have HH : Hid (checkSetR val = (0, 0)) := Lib.hid (by
    have : k = val.length := by omega
    rw [hn.out, this, List.drop_length]; rfl)
   go_wp2
   exact bodyPost_ret (v := .tuple #[.int .i64 0, .int .i64 0]) (by simp [results, Tryz.results14, go_sem]) rfl ⟨by simp [HH.out], hB⟩
theorem set_ref (D : Nat → Prop) (s : Sl Note) (w : World) (hs : s.OK 29 encNote okNote D w) :
  Calls Tryz.prog 50 #[.slice s.a s.val.length s.cap] w fun e w' => e = .returned (.bool (isSetB s.val)) ∧ Below w.heap.size w w' := by
 have HC := Lib.hid (checkSet_ref D s w hs)
 clear hs
 go_enter Tryz.func50, Tryz.ntmps50
 go_wp2_with (go_at_call 14; refine HC.out.mono ?_; rintro e w1 ⟨rfl, hb1⟩)
 all_goals go_ret
 all_goals exact ⟨by simp [isSetB], hb1⟩
theorem before_iff (a b : NoteA) : whenI a b < 0 ↔ (a.year < b.year ∨ a.year = b.year ∧ (a.clock < b.clock ∨ a.clock = b.clock ∧ ltRef a.name b.name = true)) := by
 rw [ltRef_iff]
 have h := @compareRefsI_lt a.name b.name
 simp only [whenI, orI_cons, orI_nil]
 generalize compareRefsI a.name b.name = q at h
 simp only [cmpI]
 split <;> split <;> (try split) <;> (try split) <;> (try split) <;> (try split) <;> simp_all <;> (try omega)
def beforeB (a b : Note) : Bool := decide (whenI a.abs b.abs < 0)
theorem before_ref (a b : Note) (w : World) :
  Calls Tryz.prog 18 #[.agg (encNote a), .agg (encNote b)] w fun e w' => e = .returned (.bool (beforeB a b)) ∧ Below w.heap.size w w' := by
 have hW : ∀ ob1 ob2, Below w.heap.size w ((w.alloc ob1).alloc ob2) := fun _ _ => ((Below.refl _ _).alloc (Nat.le_refl _) _).alloc (by simp) _
 have hbA : BoxAt ((w.alloc (.cells (encNote a) 40)).alloc (.cells (encNote b) 40)) w.heap.size 40 (encNote a) := (BoxAt.new _ _ _).alloc _
 have hbB : BoxAt ((w.alloc (.cells (encNote a) 40)).alloc (.cells (encNote b) 40)) (w.heap.size + 1) 40 (encNote b) := by have h := BoxAt.new (w.alloc (.cells (encNote a) 40)) 40 (encNote b); rwa [World.size_alloc] at h
 have hB : Below w.heap.size w ((w.alloc (.cells (encNote a) 40)).alloc (.cells (encNote b) 40)) := hW _ _
 have HI : Hid (∀ x y : Note, beforeB x y = true ↔ (x.year < y.year ∨ x.year = y.year ∧ (x.clock < y.clock ∨ x.clock = y.clock ∧ ltRef (refN x) (refN y) = true))) := Lib.hid fun x y => by unfold beforeB; rw [decide_eq_true_eq]; exact before_iff x.abs y.abs
 by_cases h1 : a.year = b.year
 rotate_left
 ·have e1 : (a.year != b.year) = true := by simpa using h1
  have HE : Hid (beforeB a b = decide (a.year < b.year)) := Lib.hid (by rw [Bool.eq_iff_iff, HI.out, decide_eq_true_eq]; constructor <;> intro h <;> omega)
  clear h1
  go_enter Tryz.func18, Tryz.ntmps18
  go_wp2
  go_ret
  exact ⟨by simp [HE.out], hB⟩
 have e1 : (a.year != b.year) = false := by simpa using h1
 by_cases h2 : a.clock = b.clock
 rotate_left
 ·have e2 : (a.clock != b.clock) = true := by simpa using h2
  have HE : Hid (beforeB a b = decide (a.clock < b.clock)) := Lib.hid (by rw [Bool.eq_iff_iff, HI.out, decide_eq_true_eq]; constructor <;> intro h <;> omega)
  clear h1 h2
  go_enter Tryz.func18, Tryz.ntmps18
  go_wp2
  go_ret
  exact ⟨by simp [HE.out], hB⟩
 have e2 : (a.clock != b.clock) = false := by simpa using h2
 have HE : Hid (beforeB a b = ltRef (refN a) (refN b)) := Lib.hid (by
  rw [Bool.eq_iff_iff, HI.out]
  constructor
  ·rintro (h | ⟨_, h | ⟨_, h⟩⟩)
   ·omega
   ·omega
   ·exact h
  ·intro h; exact .inr ⟨h1, .inr ⟨h2, h⟩⟩)
 clear h1 h2
 go_enter Tryz.func18, Tryz.ntmps18
 go_wp2
 refine wp_region_ord [(0, true), (2, true), (1, false), (3, false), (4, false), (5, true)] rfl (by kernel_rfl) (by kernel_rfl) (fun d _ _ _ _ h => by cases d <;> exact h) ?_
 refine wpB_fix (v := .agg (encNote a)) rfl rfl (fun W hW => run_load_box (encNote a) (hbA.drew.belowAll hW) rfl (whole_cells _) Tryz.underlying40 rfl (by kernel_rfl)) ?_; simp only [pTs, pTn, pTz, pTc]
 refine wpB_fix (v := .agg (encNote b)) rfl rfl (fun W hW => run_load_box (encNote b) (hbB.drew.belowAll hW) rfl (whole_cells _) Tryz.underlying40 rfl (by kernel_rfl)) ?_; simp only [pTs, pTn, pTz, pTc]
 refine wpB_act rfl rfl (fun K hK => ?_)
 go_simp
 refine (refOf_ref a _).mono ?_
 rintro e w2 ⟨rfl, hb2⟩
 have hB2 := Below.call hB.drew hb2 (Nat.le_refl _)
 refine hK _ _ hb2 ?_
 clear hK K
 try simp only [pTs, pTn, pTz, pTc]
 refine wpB_act rfl rfl (fun K hK => ?_)
 go_simp
 refine (refOf_ref b _).mono ?_
 rintro e w3 ⟨rfl, hb3⟩
 have hB3 := Below.call hB2 hb3 (Nat.le_refl _)
 refine hK _ _ hb3 ?_
 clear hK K
 try simp only [pTs, pTn, pTz, pTc]
 refine wpB_act rfl rfl (fun K hK => ?_)
 go_simp
 refine (less_ref _ _ _).mono ?_
 rintro e w4 ⟨rfl, hb4⟩
 have hB4 := Below.call hB3 hb4 (Nat.le_refl _)
 refine hK _ _ hb4 ?_
 clear hK K
 try simp only [pTs, pTn, pTz, pTc]
 refine wpB_fix rfl rfl (fun W hW => by go_simp; with_reducible rfl) ?_; simp only [pTs, pTn, pTz, pTc]
 simp only [wpB]
 go_wp2
 go_ret
 exact ⟨by simp [HE.out], hB4⟩
theorem before_any (a b : Note) (w : World) :
  Calls Tryz.prog 17 #[.agg (encNote a), .agg (encNote b)] w fun e w' => e = .returned (.bool (beforeB a b)) ∧ Below w.heap.size w w' := by
 have hbA : BoxAt ((w.alloc (.cells (encNote a) 40)).alloc (.cells (encNote b) 40)) w.heap.size 40 (encNote a) := (BoxAt.new _ _ _).alloc _
 have hbB : BoxAt ((w.alloc (.cells (encNote a) 40)).alloc (.cells (encNote b) 40)) (w.heap.size + 1) 40 (encNote b) := by have h := BoxAt.new (w.alloc (.cells (encNote a) 40)) 40 (encNote b); rwa [World.size_alloc] at h
 have hB : Below w.heap.size w ((w.alloc (.cells (encNote a) 40)).alloc (.cells (encNote b) 40)) := ((Below.refl _ _).alloc (Nat.le_refl _) _).alloc (by simp) _
 go_enter Tryz.func17, Tryz.ntmps17
 go_wp2_with (first
  | ((with_reducible refine at_dst 5 ?_); refine wpList_loadB hbA rfl 40 _ rfl rfl (encNote a) (whole_cells _) Tryz.underlying40 rfl (by kernel_rfl) ?_)
  | ((with_reducible refine at_dst 6 ?_); refine wpList_loadB hbB rfl 40 _ rfl rfl (encNote b) (whole_cells _) Tryz.underlying40 rfl (by kernel_rfl) ?_)
  | (go_at_call 45; refine (when_lays a b _).mono ?_; rintro e w2 ⟨rfl, hL⟩; have hb2 := hL.below (Nat.le_refl _)))
 go_ret
 exact ⟨by simp [beforeB], Below.call hB hb2 (Nat.le_refl _)⟩
end Go.Proofs.YtendmmhfjhgdaaaGreat
end
