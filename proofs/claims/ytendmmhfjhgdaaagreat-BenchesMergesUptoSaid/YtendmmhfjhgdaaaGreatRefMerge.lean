/-
  The reference's Merge, walked.
-/
import Derived.Test.YtendmmhfjhgdaaaGreatRefSame
import Derived.Test.YtendmmhfjhgdaaaGreatGood9
import Derived.Test.YtendmmhfjhgdaaaGreatMergeP
import Derived.Test.YtendmmhfjhgdaaaGreatEff
set_option maxHeartbeats 16000000
set_option maxRecDepth 100000
set_option linter.unusedVariables false
set_option linter.unusedSimpArgs false
namespace Go.Proofs.YtendmmhfjhgdaaaGreat
open Go.RowKit
theorem drop_at {α : Type} {l : List α} {k : Nat} {x : α} (h : l[k]? = some x) : l.drop k = x :: l.drop (k + 1) := by
 obtain ⟨hk, e⟩ := List.getElem?_eq_some_iff.1 h
 rw [List.drop_eq_getElem_cons hk, e]
theorem sl_of {w : World} {base : Nat} {e : TypeId} {v : Value} {l : List Note} {D : Nat → Prop} (h : OwnL encNote 29 w base e v l) (hok : ∀ x ∈ l, okNote D w x) (hl : l.length ≤ 4294967296) :
  ∃ s : Sl Note, v = s.v ∧ s.val = l ∧ Sl.OK 29 encNote okNote (fun _ => False) w s := by
 obtain ⟨s, h1, h2, h3, _⟩ := h.sl (fun _ => rfl) okNote (fun _ => False) (fun x hx => okNote.mono (hok x hx) (fun _ h => h.elim)) (fun _ _ h => h) hl
 exact ⟨s, h1, h2, h3⟩
theorem mergeA_steps {A B : List NoteA} (hA : SetA A) (hB : SetA B) : mergeA A B = if (merge2 A B).2 = true then ([], 91) else if 400 < (merge2 A B).1.length then ([], 2) else ((merge2 A B).1, 0) := by
 unfold mergeA; rw [if_pos ⟨hA, hB⟩]; exact union_merge2 hA hB
theorem mergeA_first {A B : List NoteA} (h : ¬ SetA A) : mergeA A B = ([], 1) := by unfold mergeA; rw [if_neg fun k => h k.1]
theorem mergeA_second {A B : List NoteA} (h : ¬ SetA B) : mergeA A B = ([], 1) := by unfold mergeA; rw [if_neg fun k => h k.2]
theorem refMerge_any (D : Nat → Prop) (s t : Sl Note) (w : World) (hs : s.OK 29 encNote okNote D w) (ht : t.OK 29 encNote okNote D w) (hl1 : s.val.length ≤ 500) (hl2 : t.val.length ≤ 500) :
  Calls Tryz.prog 23 #[.slice s.a s.val.length s.cap, .slice t.a t.val.length t.cap] w fun e w' => ∃ s1 : Sl Note, e = .returned (.tuple #[s1.v, .int .i64 (mergeA (s.val.map Note.abs) (t.val.map Note.abs)).2]) ∧
   s1.val.map Note.abs = (mergeA (s.val.map Note.abs) (t.val.map Note.abs)).1 ∧ Sl.OK 29 encNote okNote (fun _ => False) w' s1 ∧ Below w.heap.size w w' := by
 obtain ⟨a, cap, val⟩ := s
 obtain ⟨a2, cap2, val2⟩ := t
 simp only at hl1 hl2
 have HS1 : Hid (∀ W, Below w.heap.size w W → Calls Tryz.prog 50 #[.slice a val.length cap] W fun e w' => e = .returned (.bool (isSetB val)) ∧ Below W.heap.size W w') := Lib.hid fun W hW => set_ref D ⟨a, cap, val⟩ W (hs.ext (w := w) (fun _ h => okNote.ext h (.of_below hW)) (.of_below hW))
 have HS2 : Hid (∀ W, Below w.heap.size w W → Calls Tryz.prog 50 #[.slice a2 val2.length cap2] W fun e w' => e = .returned (.bool (isSetB val2)) ∧ Below W.heap.size W w') := Lib.hid fun W hW => set_ref D ⟨a2, cap2, val2⟩ W (ht.ext (w := w) (fun _ h => okNote.ext h (.of_below hW)) (.of_below hW))
 have HS := Lib.hid hs
 have HT := Lib.hid ht
 clear hs ht
 rcases h1 : isSetB val
 case false =>
  have HN : Hid (mergeA (val.map Note.abs) (val2.map Note.abs) = ([], 1)) := Lib.hid (mergeA_first fun h => by rw [(isSetB_iff val).2 h] at h1; cases h1)
  simp only [h1] at HS1
  go_enter Tryz.func23, Tryz.ntmps23
  go_wp2_with (go_at_call 50; (with_reducible refine (HS1.out _ (Below.refl _ _)).mono ?_); rintro e w1 ⟨rfl, hb1⟩)
  refine bodyPost_ret (v := .tuple #[.slice none 0 0, .int .i64 1]) (by simp [results, Tryz.results23, go_sem]) rfl ?_
  exact ⟨Sl.nil, by rw [HN.out]; rfl, by rw [HN.out]; rfl, Sl.OK.nil _ _ _ _ _, hb1⟩
 rcases h2 : isSetB val2
 case false =>
  have HN : Hid (mergeA (val.map Note.abs) (val2.map Note.abs) = ([], 1)) := Lib.hid (mergeA_second fun h => by rw [(isSetB_iff val2).2 h] at h2; cases h2)
  simp only [h1] at HS1
  simp only [h2] at HS2
  go_enter Tryz.func23, Tryz.ntmps23
  go_wp2_with (first
   | (go_at_call 50; (with_reducible refine (HS1.out _ (Below.refl _ _)).mono ?_); rintro e w1 ⟨rfl, hb1⟩)
   | (go_at_call 50; (with_reducible refine (HS2.out _ hb1).mono ?_); rintro e w2 ⟨rfl, hb2⟩; have hB2 := Below.call hb1 hb2 (Nat.le_refl _)))
  refine bodyPost_ret (v := .tuple #[.slice none 0 0, .int .i64 1]) (by simp [results, Tryz.results23, go_sem]) rfl ?_
  exact ⟨Sl.nil, by rw [HN.out]; rfl, by rw [HN.out]; rfl, Sl.OK.nil _ _ _ _ _, hB2⟩
 have HY := Lib.hid (mergeA_steps ((isSetB_iff val).1 h1) ((isSetB_iff val2).1 h2))
 simp only [h1] at HS1
 simp only [h2] at HS2
 go_enter Tryz.func23, Tryz.ntmps23
 go_wp2_with (first
  | (go_at_call 50; (with_reducible refine (HS1.out _ (Below.refl _ _)).mono ?_); rintro e w1 ⟨rfl, hB1⟩)
  | (go_at_call 50; (with_reducible refine (HS2.out _ hB1).mono ?_); rintro e w2 ⟨rfl, hb2⟩; have hB2 := Below.call hB1 hb2 (Nat.le_refl _); clear hb2))
 go_loopw [6, 7, 8, 9] (fun v i k f wr => ∃ (ka kb : Nat) (fb : Bool) (outs : List Note), ka ≤ val.length ∧ kb ≤ val2.length ∧ i = .int .i64 ka ∧ k = .int .i64 kb ∧ f = .bool fb ∧ outs.length ≤ ka + kb ∧
   Hid (merge2 (val.map Note.abs) (val2.map Note.abs) = (outs.map Note.abs ++ (merge2 ((val.drop ka).map Note.abs) ((val2.drop kb).map Note.abs)).1, fb || (merge2 ((val.drop ka).map Note.abs) ((val2.drop kb).map Note.abs)).2)) ∧
   Hid (∀ p ∈ outs, p ∈ val ∨ p ∈ val2) ∧ Hid (OwnL encNote 29 wr w.heap.size 40 v outs) ∧ Below w.heap.size w wr) (fun _ i k _ _ => (val.length - (intOf i).toNat) + (val2.length - (intOf k).toNat))
 case atStart => exact ⟨0, 0, false, [], Nat.zero_le _, Nat.zero_le _, rfl, rfl, rfl, by simp, Lib.hid (by simp), Lib.hid (by simp), Lib.hid (OwnL.nil _ _ _ _ _), hB2⟩
 case round =>
  clear hB1 hB2
  obtain ⟨ka, kb, fb, outs, hka, hkb, rfl, rfl, rfl, hol, HM, HP, HOL, hB⟩ := hrel
  have hrm := HS.out.room
  have hrm2 := HT.out.room
  simp only at hrm hrm2
  by_cases hia : ka < val.length
  ·obtain ⟨x, hx⟩ : ∃ x, val[ka]? = some x := ⟨_, List.getElem?_eq_getElem hia⟩
   obtain ⟨b, o, rfl, hbx, _, hokx, hcell⟩ := HS.out.at hx
   have HCX : Hid (∀ W, Below w.heap.size w W → ∀ j, j < (encNote x).size → W.cell? ⟨b, o + ka * 29 + j, none⟩ = (encNote x)[j]?) := Lib.hid fun W hW j hj => by
    rw [(Ext.of_below (D := fun _ => False) hW).cell hbx id]; exact hcell j hj
   have hi1 : (ka : Int) < (val.length : Int) := by omega
   have HMX := Lib.hid (List.mem_of_getElem? hx)
   have HDX : Hid ((val.drop ka).map Note.abs = x.abs :: (val.drop (ka + 1)).map Note.abs) := Lib.hid (by rw [drop_at hx]; rfl)
   clear hcell
   by_cases hib : kb < val2.length
   ·obtain ⟨y, hy⟩ : ∃ y, val2[kb]? = some y := ⟨_, List.getElem?_eq_getElem hib⟩
    obtain ⟨b2, o2, rfl, hby, _, hoky, hcell⟩ := HT.out.at hy
    have HCY : Hid (∀ W, Below w.heap.size w W → ∀ j, j < (encNote y).size → W.cell? ⟨b2, o2 + kb * 29 + j, none⟩ = (encNote y)[j]?) := Lib.hid fun W hW j hj => by
     rw [(Ext.of_below (D := fun _ => False) hW).cell hby id]; exact hcell j hj
    have hi2 : (kb : Int) < (val2.length : Int) := by omega
    have HMY := Lib.hid (List.mem_of_getElem? hy)
    have HDY : Hid ((val2.drop kb).map Note.abs = y.abs :: (val2.drop (kb + 1)).map Note.abs) := Lib.hid (by rw [drop_at hy]; rfl)
    have hne : (((kb : Int)) == (val2.length : Int)) = false := by simp; omega
    have HLS : Hid (∀ W, _) := Lib.hid fun W => less_ref (refN x) (refN y) W
    have HSN : Hid (∀ W, Below w.heap.size w W → Calls Tryz.prog 56 #[.agg (encNote x), .agg (encNote y)] W fun e w' => e = .returned (.bool (decide (y.abs = x.abs))) ∧ Below W.heap.size W w') := Lib.hid fun W hW =>
     refNote_g D x y W (okNote.ext hokx (.of_below hW)) (okNote.ext hoky (.of_below hW))
    clear hx hy hcell hokx hoky
    have HX0 := Lib.hid (HCX.out _ hB)
    have HY0 := Lib.hid (HCY.out _ hB)
    have hx0 : b < wr.heap.size := Nat.lt_of_lt_of_le hbx hB.size
    have hy0 : b2 < wr.heap.size := Nat.lt_of_lt_of_le hby hB.size
    rcases hlt : ltRef (refN x) (refN y)
    ·rw [hlt] at HLS
     by_cases hnm : refN x = refN y
     ·have heq : eqRef (refN x) (refN y) = true := by simpa [eqRef] using hnm
      have HEQ : Hid (∀ A B, merge2 (x.abs :: A) (y.abs :: B) = (y.abs :: (merge2 A B).1, !decide (y.abs = x.abs) || (merge2 A B).2)) := Lib.hid fun A B => merge2_eq A B hnm
      clear hnm
      go_wp2
      refine wp_region_ord [(0, true), (1, true), (2, true), (3, true), (4, true), (5, true), (6, true), (7, true), (8, true), (9, true), (10, true), (11, true), (12, true), (13, true), (15, true), (16, true), (17, true), (18, true), (14, false), (19, false), (20, false), (21, true), (22, true)] rfl (by kernel_rfl) (by kernel_rfl) (fun d _ _ _ _ h => by cases d <;> exact h) ?_
      iterate 13 (refine wpB_fix rfl rfl (fun W hW => by go_simp; with_reducible rfl) ?_; simp only [pTs, pTn, pTz, pTc])
      refine wpB_fix (v := .agg (encNote x)) rfl rfl (fun W hW => run_load_mem (encNote x) rfl (fun j hj => (hW.cell (p := ⟨b, o + ka * 29 + j, none⟩) hx0).trans (HX0.out j hj)) Tryz.underlying40 rfl (by kernel_rfl)) ?_; simp only [pTs, pTn, pTz, pTc]
      iterate 3 (refine wpB_fix rfl rfl (fun W hW => by go_simp; with_reducible rfl) ?_; simp only [pTs, pTn, pTz, pTc])
      refine wpB_fix (v := .agg (encNote y)) rfl rfl (fun W hW => run_load_mem (encNote y) rfl (fun j hj => (hW.cell (p := ⟨b2, o2 + kb * 29 + j, none⟩) hy0).trans (HY0.out j hj)) Tryz.underlying40 rfl (by kernel_rfl)) ?_; simp only [pTs, pTn, pTz, pTc]
      refine wpB_act rfl rfl (fun K hK => ?_)
      go_simp
      refine (refOf_ref x _).mono ?_
      rintro e w1 ⟨rfl, hb1⟩
      have hB1 := Below.call hB.drew hb1 (Nat.le_refl _)
      refine hK _ _ hb1 ?_
      clear hK K
      try simp only [pTs, pTn, pTz, pTc]
      refine wpB_act rfl rfl (fun K hK => ?_)
      go_simp
      refine (refOf_ref y _).mono ?_
      rintro e w2 ⟨rfl, hb2⟩
      have hB2 := Below.call hB1 hb2 (Nat.le_refl _)
      refine hK _ _ hb2 ?_
      clear hK K
      try simp only [pTs, pTn, pTz, pTc]
      refine wpB_act rfl rfl (fun K hK => ?_)
      go_simp
      refine (HLS.out _).mono ?_
      rintro e w3 ⟨rfl, hb3⟩
      have hB3 := Below.call hB2 hb3 (Nat.le_refl _)
      refine hK _ _ hb3 ?_
      clear hK K
      try simp only [pTs, pTn, pTz, pTc]
      iterate 2 (refine wpB_fix rfl rfl (fun W hW => by go_simp; with_reducible rfl) ?_; simp only [pTs, pTn, pTz, pTc])
      simp only [wpB]
      go_wp2
      have HX3 := Lib.hid (HCX.out _ hB3)
      have HY3 := Lib.hid (HCY.out _ hB3)
      have hx3 : b < w3.heap.size := Nat.lt_of_lt_of_le hbx hB3.size
      have hy3 : b2 < w3.heap.size := Nat.lt_of_lt_of_le hby hB3.size
      refine wp_region_ord [(0, true), (1, true), (2, true), (3, true), (4, true), (5, true), (6, true), (7, true), (8, true), (10, true), (11, true), (12, true), (13, true), (9, false), (14, false), (15, true), (16, true)] rfl (by kernel_rfl) (by kernel_rfl) (fun d _ _ _ _ h => by cases d <;> exact h) ?_
      iterate 8 (refine wpB_fix rfl rfl (fun W hW => by go_simp; with_reducible rfl) ?_; simp only [pTs, pTn, pTz, pTc])
      refine wpB_fix (v := .agg (encNote x)) rfl rfl (fun W hW => run_load_mem (encNote x) rfl (fun j hj => (hW.cell (p := ⟨b, o + ka * 29 + j, none⟩) hx3).trans (HX3.out j hj)) Tryz.underlying40 rfl (by kernel_rfl)) ?_; simp only [pTs, pTn, pTz, pTc]
      iterate 3 (refine wpB_fix rfl rfl (fun W hW => by go_simp; with_reducible rfl) ?_; simp only [pTs, pTn, pTz, pTc])
      refine wpB_fix (v := .agg (encNote y)) rfl rfl (fun W hW => run_load_mem (encNote y) rfl (fun j hj => (hW.cell (p := ⟨b2, o2 + kb * 29 + j, none⟩) hy3).trans (HY3.out j hj)) Tryz.underlying40 rfl (by kernel_rfl)) ?_; simp only [pTs, pTn, pTz, pTc]
      refine wpB_act rfl rfl (fun K hK => ?_)
      go_simp
      refine (refOf_ref x _).mono ?_
      rintro e w4 ⟨rfl, hb4⟩
      have hB4 := Below.call hB3.drew hb4 (Nat.le_refl _)
      refine hK _ _ hb4 ?_
      clear hK K
      try simp only [pTs, pTn, pTz, pTc]
      refine wpB_act rfl rfl (fun K hK => ?_)
      go_simp
      refine (refOf_ref y _).mono ?_
      rintro e w5 ⟨rfl, hb5⟩
      have hB5 := Below.call hB4 hb5 (Nat.le_refl _)
      refine hK _ _ hb5 ?_
      clear hK K
      try simp only [pTs, pTn, pTz, pTc]
      iterate 2 (refine wpB_fix rfl rfl (fun W hW => by go_simp; with_reducible rfl) ?_; simp only [pTs, pTn, pTz, pTc])
      simp only [wpB]
      go_wp2
      cases fb
      ·cases hsm : decide (y.abs = x.abs)
       ·rw [hsm] at HSN HEQ
        clear hsm
        have HX5 := Lib.hid (HCX.out _ hB5)
        have HY5 := Lib.hid (HCY.out _ hB5)
        have hx5 : b < w5.heap.size := Nat.lt_of_lt_of_le hbx hB5.size
        have hy5 : b2 < w5.heap.size := Nat.lt_of_lt_of_le hby hB5.size
        refine wp_region_ord [(0, true), (1, true), (2, true), (3, true), (4, true), (5, true), (6, true), (7, true), (8, true), (9, true), (10, false), (11, true), (12, true), (13, true)] rfl (by kernel_rfl) (by kernel_rfl) (fun d _ _ _ _ h => by cases d <;> exact h) ?_
        iterate 5 (refine wpB_fix rfl rfl (fun W hW => by go_simp; with_reducible rfl) ?_; simp only [pTs, pTn, pTz, pTc])
        refine wpB_fix (v := .agg (encNote x)) rfl rfl (fun W hW => run_load_mem (encNote x) rfl (fun j hj => (hW.cell (p := ⟨b, o + ka * 29 + j, none⟩) hx5).trans (HX5.out j hj)) Tryz.underlying40 rfl (by kernel_rfl)) ?_; simp only [pTs, pTn, pTz, pTc]
        iterate 3 (refine wpB_fix rfl rfl (fun W hW => by go_simp; with_reducible rfl) ?_; simp only [pTs, pTn, pTz, pTc])
        refine wpB_fix (v := .agg (encNote y)) rfl rfl (fun W hW => run_load_mem (encNote y) rfl (fun j hj => (hW.cell (p := ⟨b2, o2 + kb * 29 + j, none⟩) hy5).trans (HY5.out j hj)) Tryz.underlying40 rfl (by kernel_rfl)) ?_; simp only [pTs, pTn, pTz, pTc]
        refine wpB_act rfl rfl (fun K hK => ?_)
        go_simp
        refine (HSN.out _ hB5.drew).mono ?_
        rintro e w6 ⟨rfl, hb6⟩
        have hB6 := Below.call hB5.drew hb6 (Nat.le_refl _)
        refine hK _ _ hb6 ?_
        clear hK K
        try simp only [pTs, pTn, pTz, pTc]
        iterate 3 (refine wpB_fix rfl rfl (fun W hW => by go_simp; with_reducible rfl) ?_; simp only [pTs, pTn, pTz, pTc])
        simp only [wpB]
        have HYE := Lib.hid (HCY.out _ hB6)
        have hBw := hB6
        have hsz2 : w.heap.size ≤ w6.heap.size := hBw.size
        have HOL2 := Lib.hid (HOL.out.belowAll ((Below.call (Below.call (Below.call (Below.call (Below.call (Below.call (Below.refl _ _).drew hb1 (Nat.le_refl _)) hb2 (Nat.le_refl _)) hb3 (Nat.le_refl _)).drew hb4 (Nat.le_refl _)) hb5 (Nat.le_refl _)).drew hb6 (Nat.le_refl _))))
        go_wp2_with (first
         | ((with_reducible refine at_dst 96 ?_); refine wpList_load_at rfl 40 _ rfl b2 (o2 + kb * 29) rfl (encNote y) _ HYE.out Tryz.underlying40 rfl (by kernel_rfl) ?_)
         | ((with_reducible refine at_dst 98 ?_); refine wpList_append_oneAt rfl _ _ 22 rfl w.heap.size einfo_Note (fun _ => rfl) (by decide) encNote_one (by decide) _ _ rfl (HOL2.out.belowAll ((Below.refl _ _).alloc (Nat.le_refl _) _)) w6.heap.size 0 1 y rfl (cells_of_eq (buildNote y)) (by omega) (Nat.le_trans hsz2 (by simp)) ?_; intro v9 w9 ho9 hg9 hne9 hat9; have HO9 := Lib.hid ho9; have hB9 := hBw.trans (app_below (n := w.heap.size) HOL2.out hg9 (Nat.le_refl _) hsz2); clear ho9 hg9 hat9))
        go_roundw
        case rel => exact ⟨ka + 1, kb + 1, true, outs ++ [y], by omega, by omega, by go_num, by go_num, rfl, by simp; omega, Lib.hid (by rw [HM.out, List.map_append, List.append_assoc]; rw [HDX.out, HDY.out, HEQ.out]; simp), Lib.hid (fun p hp => by rcases List.mem_append.1 hp with hp | hp; exact HP.out p hp; rw [List.mem_singleton.1 hp]; exact .inr HMY.out), HO9, hB9⟩
        case measure => simp [intOf]; omega
       ·rw [hsm] at HSN HEQ
        clear hsm
        have HX5 := Lib.hid (HCX.out _ hB5)
        have HY5 := Lib.hid (HCY.out _ hB5)
        have hx5 : b < w5.heap.size := Nat.lt_of_lt_of_le hbx hB5.size
        have hy5 : b2 < w5.heap.size := Nat.lt_of_lt_of_le hby hB5.size
        refine wp_region_ord [(0, true), (1, true), (2, true), (3, true), (4, true), (5, true), (6, true), (7, true), (8, true), (9, true), (10, false), (11, true), (12, true), (13, true)] rfl (by kernel_rfl) (by kernel_rfl) (fun d _ _ _ _ h => by cases d <;> exact h) ?_
        iterate 5 (refine wpB_fix rfl rfl (fun W hW => by go_simp; with_reducible rfl) ?_; simp only [pTs, pTn, pTz, pTc])
        refine wpB_fix (v := .agg (encNote x)) rfl rfl (fun W hW => run_load_mem (encNote x) rfl (fun j hj => (hW.cell (p := ⟨b, o + ka * 29 + j, none⟩) hx5).trans (HX5.out j hj)) Tryz.underlying40 rfl (by kernel_rfl)) ?_; simp only [pTs, pTn, pTz, pTc]
        iterate 3 (refine wpB_fix rfl rfl (fun W hW => by go_simp; with_reducible rfl) ?_; simp only [pTs, pTn, pTz, pTc])
        refine wpB_fix (v := .agg (encNote y)) rfl rfl (fun W hW => run_load_mem (encNote y) rfl (fun j hj => (hW.cell (p := ⟨b2, o2 + kb * 29 + j, none⟩) hy5).trans (HY5.out j hj)) Tryz.underlying40 rfl (by kernel_rfl)) ?_; simp only [pTs, pTn, pTz, pTc]
        refine wpB_act rfl rfl (fun K hK => ?_)
        go_simp
        refine (HSN.out _ hB5.drew).mono ?_
        rintro e w6 ⟨rfl, hb6⟩
        have hB6 := Below.call hB5.drew hb6 (Nat.le_refl _)
        refine hK _ _ hb6 ?_
        clear hK K
        try simp only [pTs, pTn, pTz, pTc]
        iterate 3 (refine wpB_fix rfl rfl (fun W hW => by go_simp; with_reducible rfl) ?_; simp only [pTs, pTn, pTz, pTc])
        simp only [wpB]
        have HYE := Lib.hid (HCY.out _ hB6)
        have hBw := hB6
        have hsz2 : w.heap.size ≤ w6.heap.size := hBw.size
        have HOL2 := Lib.hid (HOL.out.belowAll ((Below.call (Below.call (Below.call (Below.call (Below.call (Below.call (Below.refl _ _).drew hb1 (Nat.le_refl _)) hb2 (Nat.le_refl _)) hb3 (Nat.le_refl _)).drew hb4 (Nat.le_refl _)) hb5 (Nat.le_refl _)).drew hb6 (Nat.le_refl _))))
        go_wp2_with (first
         | ((with_reducible refine at_dst 96 ?_); refine wpList_load_at rfl 40 _ rfl b2 (o2 + kb * 29) rfl (encNote y) _ HYE.out Tryz.underlying40 rfl (by kernel_rfl) ?_)
         | ((with_reducible refine at_dst 98 ?_); refine wpList_append_oneAt rfl _ _ 22 rfl w.heap.size einfo_Note (fun _ => rfl) (by decide) encNote_one (by decide) _ _ rfl (HOL2.out.belowAll ((Below.refl _ _).alloc (Nat.le_refl _) _)) w6.heap.size 0 1 y rfl (cells_of_eq (buildNote y)) (by omega) (Nat.le_trans hsz2 (by simp)) ?_; intro v9 w9 ho9 hg9 hne9 hat9; have HO9 := Lib.hid ho9; have hB9 := hBw.trans (app_below (n := w.heap.size) HOL2.out hg9 (Nat.le_refl _) hsz2); clear ho9 hg9 hat9))
        go_roundw
        case rel => exact ⟨ka + 1, kb + 1, false, outs ++ [y], by omega, by omega, by go_num, by go_num, rfl, by simp; omega, Lib.hid (by rw [HM.out, List.map_append, List.append_assoc]; rw [HDX.out, HDY.out, HEQ.out]; simp), Lib.hid (fun p hp => by rcases List.mem_append.1 hp with hp | hp; exact HP.out p hp; rw [List.mem_singleton.1 hp]; exact .inr HMY.out), HO9, hB9⟩
        case measure => simp [intOf]; omega
      ·go_wp2
       have HX5 := Lib.hid (HCX.out _ hB5)
       have HY5 := Lib.hid (HCY.out _ hB5)
       have hx5 : b < w5.heap.size := Nat.lt_of_lt_of_le hbx hB5.size
       have hy5 : b2 < w5.heap.size := Nat.lt_of_lt_of_le hby hB5.size
       refine wp_region_ord [(0, true), (1, true), (2, true), (3, true), (4, true), (5, true), (6, true), (7, true), (8, true), (9, true), (10, false), (11, true), (12, true), (13, true)] rfl (by kernel_rfl) (by kernel_rfl) (fun d _ _ _ _ h => by cases d <;> exact h) ?_
       iterate 2 (refine wpB_fix rfl rfl (fun W hW => by go_simp; with_reducible rfl) ?_; simp only [pTs, pTn, pTz, pTc])
       iterate 8 (refine wpB_skip rfl rfl ?_; simp only [pTs, pTn, pTz, pTc])
       refine wpB_skip_act rfl rfl ?_; simp only [pTs, pTn, pTz, pTc]
       refine wpB_skip rfl rfl ?_; simp only [pTs, pTn, pTz, pTc]
       iterate 2 (refine wpB_fix rfl rfl (fun W hW => by go_simp; with_reducible rfl) ?_; simp only [pTs, pTn, pTz, pTc])
       simp only [wpB]
       have HYE := Lib.hid (HCY.out _ hB5.drew)
       have hBw := hB5.drew
       have hsz2 : w.heap.size ≤ w5.drew.heap.size := hBw.size
       have HOL2 := Lib.hid (HOL.out.belowAll ((Below.call (Below.call (Below.call (Below.call (Below.call (Below.refl _ _).drew hb1 (Nat.le_refl _)) hb2 (Nat.le_refl _)) hb3 (Nat.le_refl _)).drew hb4 (Nat.le_refl _)) hb5 (Nat.le_refl _)).drew))
       go_wp2_with (first
        | ((with_reducible refine at_dst 96 ?_); refine wpList_load_at rfl 40 _ rfl b2 (o2 + kb * 29) rfl (encNote y) _ HYE.out Tryz.underlying40 rfl (by kernel_rfl) ?_)
        | ((with_reducible refine at_dst 98 ?_); refine wpList_append_oneAt rfl _ _ 22 rfl w.heap.size einfo_Note (fun _ => rfl) (by decide) encNote_one (by decide) _ _ rfl (HOL2.out.belowAll ((Below.refl _ _).alloc (Nat.le_refl _) _)) w5.drew.heap.size 0 1 y rfl (cells_of_eq (buildNote y)) (by omega) (Nat.le_trans hsz2 (by simp)) ?_; intro v9 w9 ho9 hg9 hne9 hat9; have HO9 := Lib.hid ho9; have hB9 := hBw.trans (app_below (n := w.heap.size) HOL2.out hg9 (Nat.le_refl _) hsz2); clear ho9 hg9 hat9))
       go_roundw
       case rel => exact ⟨ka + 1, kb + 1, true, outs ++ [y], by omega, by omega, by go_num, by go_num, rfl, by simp; omega, Lib.hid (by rw [HM.out, List.map_append, List.append_assoc]; rw [HDX.out, HDY.out, HEQ.out]; simp), Lib.hid (fun p hp => by rcases List.mem_append.1 hp with hp | hp; exact HP.out p hp; rw [List.mem_singleton.1 hp]; exact .inr HMY.out), HO9, hB9⟩
       case measure => simp [intOf]; omega
     ·have heq : eqRef (refN x) (refN y) = false := by simpa [eqRef] using hnm
      have HGT : Hid (∀ A B, merge2 (x.abs :: A) (y.abs :: B) = (y.abs :: (merge2 (x.abs :: A) B).1, (merge2 (x.abs :: A) B).2)) := Lib.hid fun A B => merge2_gt A B hlt hnm
      clear hnm
      go_wp2
      refine wp_region_ord [(0, true), (1, true), (2, true), (3, true), (4, true), (5, true), (6, true), (7, true), (8, true), (9, true), (10, true), (11, true), (12, true), (13, true), (15, true), (16, true), (17, true), (18, true), (14, false), (19, false), (20, false), (21, true), (22, true)] rfl (by kernel_rfl) (by kernel_rfl) (fun d _ _ _ _ h => by cases d <;> exact h) ?_
      iterate 13 (refine wpB_fix rfl rfl (fun W hW => by go_simp; with_reducible rfl) ?_; simp only [pTs, pTn, pTz, pTc])
      refine wpB_fix (v := .agg (encNote x)) rfl rfl (fun W hW => run_load_mem (encNote x) rfl (fun j hj => (hW.cell (p := ⟨b, o + ka * 29 + j, none⟩) hx0).trans (HX0.out j hj)) Tryz.underlying40 rfl (by kernel_rfl)) ?_; simp only [pTs, pTn, pTz, pTc]
      iterate 3 (refine wpB_fix rfl rfl (fun W hW => by go_simp; with_reducible rfl) ?_; simp only [pTs, pTn, pTz, pTc])
      refine wpB_fix (v := .agg (encNote y)) rfl rfl (fun W hW => run_load_mem (encNote y) rfl (fun j hj => (hW.cell (p := ⟨b2, o2 + kb * 29 + j, none⟩) hy0).trans (HY0.out j hj)) Tryz.underlying40 rfl (by kernel_rfl)) ?_; simp only [pTs, pTn, pTz, pTc]
      refine wpB_act rfl rfl (fun K hK => ?_)
      go_simp
      refine (refOf_ref x _).mono ?_
      rintro e w1 ⟨rfl, hb1⟩
      have hB1 := Below.call hB.drew hb1 (Nat.le_refl _)
      refine hK _ _ hb1 ?_
      clear hK K
      try simp only [pTs, pTn, pTz, pTc]
      refine wpB_act rfl rfl (fun K hK => ?_)
      go_simp
      refine (refOf_ref y _).mono ?_
      rintro e w2 ⟨rfl, hb2⟩
      have hB2 := Below.call hB1 hb2 (Nat.le_refl _)
      refine hK _ _ hb2 ?_
      clear hK K
      try simp only [pTs, pTn, pTz, pTc]
      refine wpB_act rfl rfl (fun K hK => ?_)
      go_simp
      refine (HLS.out _).mono ?_
      rintro e w3 ⟨rfl, hb3⟩
      have hB3 := Below.call hB2 hb3 (Nat.le_refl _)
      refine hK _ _ hb3 ?_
      clear hK K
      try simp only [pTs, pTn, pTz, pTc]
      iterate 2 (refine wpB_fix rfl rfl (fun W hW => by go_simp; with_reducible rfl) ?_; simp only [pTs, pTn, pTz, pTc])
      simp only [wpB]
      go_wp2
      have HX3 := Lib.hid (HCX.out _ hB3)
      have HY3 := Lib.hid (HCY.out _ hB3)
      have hx3 : b < w3.heap.size := Nat.lt_of_lt_of_le hbx hB3.size
      have hy3 : b2 < w3.heap.size := Nat.lt_of_lt_of_le hby hB3.size
      refine wp_region_ord [(0, true), (1, true), (2, true), (3, true), (4, true), (5, true), (6, true), (7, true), (8, true), (10, true), (11, true), (12, true), (13, true), (9, false), (14, false), (15, true), (16, true)] rfl (by kernel_rfl) (by kernel_rfl) (fun d _ _ _ _ h => by cases d <;> exact h) ?_
      iterate 8 (refine wpB_fix rfl rfl (fun W hW => by go_simp; with_reducible rfl) ?_; simp only [pTs, pTn, pTz, pTc])
      refine wpB_fix (v := .agg (encNote x)) rfl rfl (fun W hW => run_load_mem (encNote x) rfl (fun j hj => (hW.cell (p := ⟨b, o + ka * 29 + j, none⟩) hx3).trans (HX3.out j hj)) Tryz.underlying40 rfl (by kernel_rfl)) ?_; simp only [pTs, pTn, pTz, pTc]
      iterate 3 (refine wpB_fix rfl rfl (fun W hW => by go_simp; with_reducible rfl) ?_; simp only [pTs, pTn, pTz, pTc])
      refine wpB_fix (v := .agg (encNote y)) rfl rfl (fun W hW => run_load_mem (encNote y) rfl (fun j hj => (hW.cell (p := ⟨b2, o2 + kb * 29 + j, none⟩) hy3).trans (HY3.out j hj)) Tryz.underlying40 rfl (by kernel_rfl)) ?_; simp only [pTs, pTn, pTz, pTc]
      refine wpB_act rfl rfl (fun K hK => ?_)
      go_simp
      refine (refOf_ref x _).mono ?_
      rintro e w4 ⟨rfl, hb4⟩
      have hB4 := Below.call hB3.drew hb4 (Nat.le_refl _)
      refine hK _ _ hb4 ?_
      clear hK K
      try simp only [pTs, pTn, pTz, pTc]
      refine wpB_act rfl rfl (fun K hK => ?_)
      go_simp
      refine (refOf_ref y _).mono ?_
      rintro e w5 ⟨rfl, hb5⟩
      have hB5 := Below.call hB4 hb5 (Nat.le_refl _)
      refine hK _ _ hb5 ?_
      clear hK K
      try simp only [pTs, pTn, pTz, pTc]
      iterate 2 (refine wpB_fix rfl rfl (fun W hW => by go_simp; with_reducible rfl) ?_; simp only [pTs, pTn, pTz, pTc])
      simp only [wpB]
      have HX5 := Lib.hid (HCX.out _ hB5)
      have HY5 := Lib.hid (HCY.out _ hB5)
      have hx5 : b < w5.heap.size := Nat.lt_of_lt_of_le hbx hB5.size
      have hy5 : b2 < w5.heap.size := Nat.lt_of_lt_of_le hby hB5.size
      have HYE := Lib.hid (HCY.out _ hB5)
      have hBw := hB5
      have hsz2 : w.heap.size ≤ w5.heap.size := hBw.size
      have HOL2 := Lib.hid (HOL.out.belowAll ((Below.call (Below.call (Below.call (Below.call (Below.call (Below.refl _ _).drew hb1 (Nat.le_refl _)) hb2 (Nat.le_refl _)) hb3 (Nat.le_refl _)).drew hb4 (Nat.le_refl _)) hb5 (Nat.le_refl _))))
      go_wp2_with (first
       | ((with_reducible refine at_dst 96 ?_); refine wpList_load_at rfl 40 _ rfl b2 (o2 + kb * 29) rfl (encNote y) _ HYE.out Tryz.underlying40 rfl (by kernel_rfl) ?_)
       | ((with_reducible refine at_dst 98 ?_); refine wpList_append_oneAt rfl _ _ 22 rfl w.heap.size einfo_Note (fun _ => rfl) (by decide) encNote_one (by decide) _ _ rfl (HOL2.out.belowAll ((Below.refl _ _).alloc (Nat.le_refl _) _)) w5.heap.size 0 1 y rfl (cells_of_eq (buildNote y)) (by omega) (Nat.le_trans hsz2 (by simp)) ?_; intro v9 w9 ho9 hg9 hne9 hat9; have HO9 := Lib.hid ho9; have hB9 := hBw.trans (app_below (n := w.heap.size) HOL2.out hg9 (Nat.le_refl _) hsz2); clear ho9 hg9 hat9))
      go_roundw
      case rel => exact ⟨ka, kb + 1, fb, outs ++ [y], by omega, by omega, by go_num, by go_num, rfl, by simp; omega, Lib.hid (by rw [HM.out, List.map_append, List.append_assoc]; rw [HDX.out, HDY.out, HGT.out]; simp), Lib.hid (fun p hp => by rcases List.mem_append.1 hp with hp | hp; exact HP.out p hp; rw [List.mem_singleton.1 hp]; exact .inr HMY.out), HO9, hB9⟩
      case measure => simp [intOf]; omega
    ·rw [hlt] at HLS
     have HLT : Hid (∀ A B, merge2 (x.abs :: A) (y.abs :: B) = (x.abs :: (merge2 A (y.abs :: B)).1, (merge2 A (y.abs :: B)).2)) := Lib.hid fun A B => merge2_lt A B hlt
     go_wp2
     refine wp_region_ord [(0, true), (1, true), (2, true), (3, true), (4, true), (5, true), (6, true), (7, true), (8, true), (9, true), (10, true), (11, true), (12, true), (13, true), (15, true), (16, true), (17, true), (18, true), (14, false), (19, false), (20, false), (21, true), (22, true)] rfl (by kernel_rfl) (by kernel_rfl) (fun d _ _ _ _ h => by cases d <;> exact h) ?_
     iterate 13 (refine wpB_fix rfl rfl (fun W hW => by go_simp; with_reducible rfl) ?_; simp only [pTs, pTn, pTz, pTc])
     refine wpB_fix (v := .agg (encNote x)) rfl rfl (fun W hW => run_load_mem (encNote x) rfl (fun j hj => (hW.cell (p := ⟨b, o + ka * 29 + j, none⟩) hx0).trans (HX0.out j hj)) Tryz.underlying40 rfl (by kernel_rfl)) ?_; simp only [pTs, pTn, pTz, pTc]
     iterate 3 (refine wpB_fix rfl rfl (fun W hW => by go_simp; with_reducible rfl) ?_; simp only [pTs, pTn, pTz, pTc])
     refine wpB_fix (v := .agg (encNote y)) rfl rfl (fun W hW => run_load_mem (encNote y) rfl (fun j hj => (hW.cell (p := ⟨b2, o2 + kb * 29 + j, none⟩) hy0).trans (HY0.out j hj)) Tryz.underlying40 rfl (by kernel_rfl)) ?_; simp only [pTs, pTn, pTz, pTc]
     refine wpB_act rfl rfl (fun K hK => ?_)
     go_simp
     refine (refOf_ref x _).mono ?_
     rintro e w1 ⟨rfl, hb1⟩
     have hB1 := Below.call hB.drew hb1 (Nat.le_refl _)
     refine hK _ _ hb1 ?_
     clear hK K
     try simp only [pTs, pTn, pTz, pTc]
     refine wpB_act rfl rfl (fun K hK => ?_)
     go_simp
     refine (refOf_ref y _).mono ?_
     rintro e w2 ⟨rfl, hb2⟩
     have hB2 := Below.call hB1 hb2 (Nat.le_refl _)
     refine hK _ _ hb2 ?_
     clear hK K
     try simp only [pTs, pTn, pTz, pTc]
     refine wpB_act rfl rfl (fun K hK => ?_)
     go_simp
     refine (HLS.out _).mono ?_
     rintro e w3 ⟨rfl, hb3⟩
     have hB3 := Below.call hB2 hb3 (Nat.le_refl _)
     refine hK _ _ hb3 ?_
     clear hK K
     try simp only [pTs, pTn, pTz, pTc]
     iterate 2 (refine wpB_fix rfl rfl (fun W hW => by go_simp; with_reducible rfl) ?_; simp only [pTs, pTn, pTz, pTc])
     simp only [wpB]
     have HX3 := Lib.hid (HCX.out _ hB3)
     have HY3 := Lib.hid (HCY.out _ hB3)
     have hx3 : b < w3.heap.size := Nat.lt_of_lt_of_le hbx hB3.size
     have hy3 : b2 < w3.heap.size := Nat.lt_of_lt_of_le hby hB3.size
     have HXE := Lib.hid (HCX.out _ hB3)
     have hBw := hB3
     have hsz2 : w.heap.size ≤ w3.heap.size := hBw.size
     have HOL2 := Lib.hid (HOL.out.belowAll ((Below.call (Below.call (Below.call (Below.refl _ _).drew hb1 (Nat.le_refl _)) hb2 (Nat.le_refl _)) hb3 (Nat.le_refl _))))
     go_wp2_with (first
      | ((with_reducible refine at_dst 55 ?_); refine wpList_load_at rfl 40 _ rfl b (o + ka * 29) rfl (encNote x) _ HXE.out Tryz.underlying40 rfl (by kernel_rfl) ?_)
      | ((with_reducible refine at_dst 57 ?_); refine wpList_append_oneAt rfl _ _ 22 rfl w.heap.size einfo_Note (fun _ => rfl) (by decide) encNote_one (by decide) _ _ rfl (HOL2.out.belowAll ((Below.refl _ _).alloc (Nat.le_refl _) _)) w3.heap.size 0 1 x rfl (cells_of_eq (buildNote x)) (by omega) (Nat.le_trans hsz2 (by simp)) ?_; intro v9 w9 ho9 hg9 hne9 hat9; have HO9 := Lib.hid ho9; have hB9 := hBw.trans (app_below (n := w.heap.size) HOL2.out hg9 (Nat.le_refl _) hsz2); clear ho9 hg9 hat9))
     go_roundw
     case rel => exact ⟨ka + 1, kb, fb, outs ++ [x], by omega, by omega, by go_num, by go_num, rfl, by simp; omega, Lib.hid (by rw [HM.out, List.map_append, List.append_assoc]; rw [HDX.out, HDY.out, HLT.out]; simp), Lib.hid (fun p hp => by rcases List.mem_append.1 hp with hp | hp; exact HP.out p hp; rw [List.mem_singleton.1 hp]; exact .inl HMX.out), HO9, hB9⟩
     case measure => simp [intOf]; omega
   ·have HK : Hid (kb = val2.length) := Lib.hid (by omega)
    have hne : (((kb : Int)) == (val2.length : Int)) = true := by simp; omega
    have HDY : Hid ((val2.drop kb).map Note.abs = []) := Lib.hid (by rw [HK.out, List.drop_length]; rfl)
    have HX0 := Lib.hid (HCX.out _ hB.drew)
    clear hx hokx
    go_wp2
    refine wp_region_ord [(0, true), (1, true), (2, true), (3, true), (4, true), (5, true), (6, true), (7, true), (8, true), (9, true), (10, true), (11, true), (12, true), (13, true), (15, true), (16, true), (17, true), (18, true), (14, false), (19, false), (20, false), (21, true), (22, true)] rfl (by kernel_rfl) (by kernel_rfl) (fun d _ _ _ _ h => by cases d <;> exact h) ?_
    iterate 5 (refine wpB_fix rfl rfl (fun W hW => by go_simp; with_reducible rfl) ?_; simp only [pTs, pTn, pTz, pTc])
    iterate 13 (refine wpB_skip rfl rfl ?_; simp only [pTs, pTn, pTz, pTc])
    iterate 3 (refine wpB_skip_act rfl rfl ?_; simp only [pTs, pTn, pTz, pTc])
    refine wpB_skip rfl rfl ?_; simp only [pTs, pTn, pTz, pTc]
    refine wpB_fix rfl rfl (fun W hW => by go_simp; with_reducible rfl) ?_; simp only [pTs, pTn, pTz, pTc]
    simp only [wpB]
    have HXE := Lib.hid (HCX.out _ hB.drew)
    have hBw := hB.drew
    have hsz2 : w.heap.size ≤ wr.drew.heap.size := hBw.size
    have HOL2 := Lib.hid (HOL.out.belowAll ((Below.refl _ _).drew))
    go_wp2_with (first
     | ((with_reducible refine at_dst 55 ?_); refine wpList_load_at rfl 40 _ rfl b (o + ka * 29) rfl (encNote x) _ HXE.out Tryz.underlying40 rfl (by kernel_rfl) ?_)
     | ((with_reducible refine at_dst 57 ?_); refine wpList_append_oneAt rfl _ _ 22 rfl w.heap.size einfo_Note (fun _ => rfl) (by decide) encNote_one (by decide) _ _ rfl (HOL2.out.belowAll ((Below.refl _ _).alloc (Nat.le_refl _) _)) wr.drew.heap.size 0 1 x rfl (cells_of_eq (buildNote x)) (by omega) (Nat.le_trans hsz2 (by simp)) ?_; intro v9 w9 ho9 hg9 hne9 hat9; have HO9 := Lib.hid ho9; have hB9 := hBw.trans (app_below (n := w.heap.size) HOL2.out hg9 (Nat.le_refl _) hsz2); clear ho9 hg9 hat9))
    go_roundw
    case rel => exact ⟨ka + 1, kb, fb, outs ++ [x], by omega, by omega, by go_num, by go_num, rfl, by simp; omega, Lib.hid (by rw [HM.out, List.map_append, List.append_assoc]; rw [HDX.out, HDY.out, merge2_nil', merge2_nil']; simp), Lib.hid (fun p hp => by rcases List.mem_append.1 hp with hp | hp; exact HP.out p hp; rw [List.mem_singleton.1 hp]; exact .inl HMX.out), HO9, hB9⟩
    case measure => simp [intOf]; omega
  ·have HDX : Hid ((val.drop ka).map Note.abs = []) := Lib.hid (by rw [show ka = val.length by omega, List.drop_length]; rfl)
   have hi0 : ¬ (ka : Int) < (val.length : Int) := by omega
   by_cases hib : kb < val2.length
   ·obtain ⟨y, hy⟩ : ∃ y, val2[kb]? = some y := ⟨_, List.getElem?_eq_getElem hib⟩
    obtain ⟨b2, o2, rfl, hby, _, hoky, hcell⟩ := HT.out.at hy
    have HCY : Hid (∀ W, Below w.heap.size w W → ∀ j, j < (encNote y).size → W.cell? ⟨b2, o2 + kb * 29 + j, none⟩ = (encNote y)[j]?) := Lib.hid fun W hW j hj => by
     rw [(Ext.of_below (D := fun _ => False) hW).cell hby id]; exact hcell j hj
    have hi2 : (kb : Int) < (val2.length : Int) := by omega
    have HMY := Lib.hid (List.mem_of_getElem? hy)
    have HDY : Hid ((val2.drop kb).map Note.abs = y.abs :: (val2.drop (kb + 1)).map Note.abs) := Lib.hid (by rw [drop_at hy]; rfl)
    have hne : (((kb : Int)) == (val2.length : Int)) = false := by simp; omega
    have hie : decide ((ka : Int) < (val.length : Int)) = false := by simpa using hi0
    have HY0 := Lib.hid (HCY.out _ hB.drew.drew)
    clear hy hcell hoky
    go_wp2
    refine wp_region_ord [(0, true), (1, true), (2, true), (3, true), (4, true), (5, true), (6, true), (7, true), (8, true), (9, true), (10, true), (11, true), (12, true), (13, true), (15, true), (16, true), (17, true), (18, true), (14, false), (19, false), (20, false), (21, true), (22, true)] rfl (by kernel_rfl) (by kernel_rfl) (fun d _ _ _ _ h => by cases d <;> exact h) ?_
    iterate 10 (refine wpB_fix rfl rfl (fun W hW => by go_simp; with_reducible rfl) ?_; simp only [pTs, pTn, pTz, pTc])
    iterate 8 (refine wpB_skip rfl rfl ?_; simp only [pTs, pTn, pTz, pTc])
    iterate 3 (refine wpB_skip_act rfl rfl ?_; simp only [pTs, pTn, pTz, pTc])
    iterate 2 (refine wpB_fix rfl rfl (fun W hW => by go_simp; with_reducible rfl) ?_; simp only [pTs, pTn, pTz, pTc])
    simp only [wpB]
    go_wp2
    refine wp_region_ord [(0, true), (1, true), (2, true), (3, true), (4, true), (5, true), (6, true), (7, true), (8, true), (10, true), (11, true), (12, true), (13, true), (9, false), (14, false), (15, true), (16, true)] rfl (by kernel_rfl) (by kernel_rfl) (fun d _ _ _ _ h => by cases d <;> exact h) ?_
    iterate 5 (refine wpB_fix rfl rfl (fun W hW => by go_simp; with_reducible rfl) ?_; simp only [pTs, pTn, pTz, pTc])
    iterate 8 (refine wpB_skip rfl rfl ?_; simp only [pTs, pTn, pTz, pTc])
    iterate 2 (refine wpB_skip_act rfl rfl ?_; simp only [pTs, pTn, pTz, pTc])
    refine wpB_skip rfl rfl ?_; simp only [pTs, pTn, pTz, pTc]
    refine wpB_fix rfl rfl (fun W hW => by go_simp; with_reducible rfl) ?_; simp only [pTs, pTn, pTz, pTc]
    simp only [wpB]
    have HYE := Lib.hid (HCY.out _ hB.drew.drew)
    have hBw := hB.drew.drew
    have hsz2 : w.heap.size ≤ wr.drew.drew.heap.size := hBw.size
    have HOL2 := Lib.hid (HOL.out.belowAll ((Below.refl _ _).drew.drew))
    go_wp2_with (first
     | ((with_reducible refine at_dst 96 ?_); refine wpList_load_at rfl 40 _ rfl b2 (o2 + kb * 29) rfl (encNote y) _ HYE.out Tryz.underlying40 rfl (by kernel_rfl) ?_)
     | ((with_reducible refine at_dst 98 ?_); refine wpList_append_oneAt rfl _ _ 22 rfl w.heap.size einfo_Note (fun _ => rfl) (by decide) encNote_one (by decide) _ _ rfl (HOL2.out.belowAll ((Below.refl _ _).alloc (Nat.le_refl _) _)) wr.drew.drew.heap.size 0 1 y rfl (cells_of_eq (buildNote y)) (by omega) (Nat.le_trans hsz2 (by simp)) ?_; intro v9 w9 ho9 hg9 hne9 hat9; have HO9 := Lib.hid ho9; have hB9 := hBw.trans (app_below (n := w.heap.size) HOL2.out hg9 (Nat.le_refl _) hsz2); clear ho9 hg9 hat9))
    go_roundw
    case rel => exact ⟨ka, kb + 1, fb, outs ++ [y], by omega, by omega, by go_num, by go_num, rfl, by simp; omega, Lib.hid (by rw [HM.out, List.map_append, List.append_assoc]; rw [HDX.out, HDY.out, merge2_nil, merge2_nil]; simp), Lib.hid (fun p hp => by rcases List.mem_append.1 hp with hp | hp; exact HP.out p hp; rw [List.mem_singleton.1 hp]; exact .inr HMY.out), HO9, hB9⟩
    case measure => simp [intOf]; omega
   ·have hi3 : ¬ (kb : Int) < (val2.length : Int) := by omega
    have HDY : Hid ((val2.drop kb).map Note.abs = []) := Lib.hid (by rw [show kb = val2.length by omega, List.drop_length]; rfl)
    have HF : Hid (merge2 (val.map Note.abs) (val2.map Note.abs) = (outs.map Note.abs, fb)) := Lib.hid (by rw [HM.out, HDX.out, HDY.out, merge2_nil]; simp)
    have HU : Hid (mergeA (val.map Note.abs) (val2.map Note.abs) = if fb = true then ([], 91) else if 400 < outs.length then ([], 2) else (outs.map Note.abs, 0)) := Lib.hid (by rw [HY.out, HF.out]; simp)
    cases fb
    ·by_cases h4 : 400 < outs.length
     ·have h4' : (400 : Int) < (outs.length : Int) := by omega
      have HU2 : Hid (mergeA (val.map Note.abs) (val2.map Note.abs) = ([], 2)) := Lib.hid (by rw [HU.out, if_neg (by simp), if_pos h4])
      obtain ⟨s1, rfl, l1, o1⟩ := sl_of HOL.out (fun p hp => okNote.ext ((HP.out p hp).elim (HS.out.elem p) (HT.out.elem p)) (.of_below hB)) (by omega)
      rw [← l1] at h4'
      clear h4 hol l1
      go_wp2
      refine bodyPost_ret (v := .tuple #[.slice none 0 0, .int .i64 2]) (by simp [results, Tryz.results23, go_sem]) rfl ?_
      exact ⟨Sl.nil, by rw [HU2.out]; rfl, by rw [HU2.out]; rfl, Sl.OK.nil _ _ _ _ _, hB⟩
     ·have h4' : ¬ (400 : Int) < (outs.length : Int) := by omega
      have HU2 : Hid (mergeA (val.map Note.abs) (val2.map Note.abs) = (outs.map Note.abs, 0)) := Lib.hid (by rw [HU.out, if_neg (by simp), if_neg h4])
      obtain ⟨s1, rfl, l1, o1⟩ := sl_of HOL.out (fun p hp => okNote.ext ((HP.out p hp).elim (HS.out.elem p) (HT.out.elem p)) (.of_below hB)) (by omega)
      have HL1 := Lib.hid l1
      rw [← l1] at h4'
      clear h4 hol l1
      go_wp2
      refine bodyPost_ret (v := .tuple #[s1.v, .int .i64 0]) (by simp [results, Tryz.results23, go_sem]) rfl ?_
      exact ⟨s1, by rw [HU2.out]; rfl, by rw [HU2.out, HL1.out], o1, hB⟩
    ·have HU2 : Hid (mergeA (val.map Note.abs) (val2.map Note.abs) = ([], 91)) := Lib.hid (by rw [HU.out, if_pos rfl])
     go_wp2
     refine bodyPost_ret (v := .tuple #[.slice none 0 0, .int .i64 91]) (by simp [results, Tryz.results23, go_sem]) rfl ?_
     exact ⟨Sl.nil, by rw [HU2.out]; rfl, by rw [HU2.out]; rfl, Sl.OK.nil _ _ _ _ _, hB⟩
end Go.Proofs.YtendmmhfjhgdaaaGreat
