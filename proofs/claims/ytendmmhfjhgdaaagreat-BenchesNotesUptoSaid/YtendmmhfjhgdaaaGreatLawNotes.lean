/-
  The law BenchesNotes, walked.
-/
import Derived.Test.YtendmmhfjhgdaaaGreatGood9
import Derived.Test.YtendmmhfjhgdaaaGreatAwake
set_option linter.unusedVariables false
set_option linter.unusedSimpArgs false
namespace Go.Proofs.YtendmmhfjhgdaaaGreat
open Go.RowKit

set_option maxRecDepth 100000 in
set_option maxHeartbeats 8000000 in
theorem notes_any (s : Sl Note) (w : World) (hs : Sl.OK 29 encNote okNote (fun _ => False) w s) :
    Calls Tryz.prog 3 #[.slice s.a s.val.length s.cap] w fun e w' => e = .returned (.bool true) ∧ Below w.heap.size w w' := by
  obtain ⟨a, cap, val⟩ := s
  by_cases hlen : (500 : Int) < (val.length : Int)
  · have HA := Lib.hid (awake_any w)
    clear hs
    go_enter Tryz.func3, Tryz.ntmps3
    go_wp2_with (go_at_call 12; (with_reducible refine HA.out.mono ?_); rintro e w1 ⟨rfl, hb1⟩)
    go_ret
    exact ⟨by simp, hb1⟩
  have HS := Lib.hid hs
  obtain ⟨q1, q2, hq⟩ : ∃ q1 q2, checkSetR val = (q1, q2) := ⟨_, _, rfl⟩
  have HP : Hid (∀ W, Below w.heap.size w W → Calls Tryz.prog 13 #[.slice a val.length cap] W fun e w' => e = .returned (.tuple #[.int .i64 q1, .int .i64 q2]) ∧ Below W.heap.size W w') := Lib.hid fun W hW => by
    have h := checkSet_any (fun _ => False) ⟨a, cap, val⟩ W (hs.ext (w := w) (fun _ h => okNote.ext h (.of_below hW)) (.of_below hW))
    rw [hq] at h; exact h
  have HPR : Hid (∀ W, Below w.heap.size w W → Calls Tryz.prog 14 #[.slice a val.length cap] W fun e w' => e = .returned (.tuple #[.int .i64 q1, .int .i64 q2]) ∧ Below W.heap.size W w') := Lib.hid fun W hW => by
    have h := checkSet_ref (fun _ => False) ⟨a, cap, val⟩ W (hs.ext (w := w) (fun _ h => okNote.ext h (.of_below hW)) (.of_below hW))
    rw [hq] at h; exact h
  clear hs hq
  go_enter Tryz.func3, Tryz.ntmps3
  go_wp2_with (first
    | (go_at_call 13; (with_reducible refine (HP.out _ (Below.refl _ _)).mono ?_); rintro e w1 ⟨rfl, hb1⟩)
    | (go_at_call 14; (with_reducible refine (HPR.out _ hb1).mono ?_); rintro e w2 ⟨rfl, hb2⟩; have hB2 := Below.call hb1 hb2 (Nat.le_refl _)))
  go_loopw [7] (fun i wr => ∃ k : Nat, k ≤ val.length ∧ i = .int .i64 k ∧ Below w.heap.size w wr) (fun i _ => val.length - (intOf i).toNat)
  case atStart => exact ⟨0, Nat.zero_le _, rfl, hB2⟩
  case round =>
    clear hB2 hb1 hb2
    obtain ⟨k, hk, rfl, hB⟩ := hrel
    by_cases hlt : k < val.length
    · obtain ⟨y, hy⟩ : ∃ y, val[k]? = some y := ⟨_, List.getElem?_eq_getElem hlt⟩
      obtain ⟨b, o, rfl, hb, _, hok, hcell⟩ := HS.out.at hy
      have HC : Hid (∀ W, Below w.heap.size w W → ∀ j, j < (encNote y).size → W.cell? ⟨b, o + k * 29 + j, none⟩ = (encNote y)[j]?) := Lib.hid fun W hW j hj => by
        rw [(Ext.of_below (D := fun _ => False) hW).cell hb id]; exact hcell j hj
      have hi1 : (k : Int) < (val.length : Int) := by omega
      have hl1 : b < wr.heap.size := Nat.lt_of_lt_of_le hb hB.size
      have HC1 := Lib.hid (HC.out _ hB)
      obtain ⟨q, hq⟩ : ∃ q : Int, (if wellB y then (0 : Int) else 90) = q := ⟨_, rfl⟩
      have hokr := okNote.ext hok (.of_below hB)
      have HQ : Hid (∀ W, Below wr.heap.size wr W → Calls Tryz.prog 15 #[.agg (encNote y)] W fun e w' => e = .returned (.int .i64 q) ∧ Below W.heap.size W w') := Lib.hid fun W hW => by
        have h := checkNote_any (fun _ => False) y W (okNote.ext hokr (.of_below hW)); rw [hq] at h; exact h
      have HR : Hid (∀ W, Below wr.heap.size wr W → Calls Tryz.prog 16 #[.agg (encNote y)] W fun e w' => e = .returned (.int .i64 q) ∧ Below W.heap.size W w') := Lib.hid fun W hW => by
        have h := checkNote_ref (fun _ => False) y W (okNote.ext hokr (.of_below hW)); rw [hq] at h; exact h
      have hqq : (q != q) = false := by simp
      have HY := Lib.hid hy
      clear hy hok hcell hokr hq
      go_wp2
      refine wp_region_ord [(0, true), (1, true), (2, true), (3, true), (5, true), (6, true), (7, true), (8, true), (4, false), (9, false), (10, true)] rfl (by kernel_rfl) (by kernel_rfl) (fun d _ _ _ _ h => by cases d <;> exact h) ?_
      iterate 3 (refine wpB_fix rfl rfl (fun W hW => by go_simp; with_reducible rfl) ?_; simp only [pTs, pTn, pTz, pTc])
      refine wpB_fix (v := .agg (encNote y)) rfl rfl (fun W hW => run_load_mem (encNote y) rfl (fun j hj => (hW.cell (p := ⟨b, o + k * 29 + j, none⟩) hl1).trans (HC1.out j hj)) Tryz.underlying40 rfl (by kernel_rfl)) ?_; simp only [pTs, pTn, pTz, pTc]
      iterate 3 (refine wpB_fix rfl rfl (fun W hW => by go_simp; with_reducible rfl) ?_; simp only [pTs, pTn, pTz, pTc])
      refine wpB_fix (v := .agg (encNote y)) rfl rfl (fun W hW => run_load_mem (encNote y) rfl (fun j hj => (hW.cell (p := ⟨b, o + k * 29 + j, none⟩) hl1).trans (HC1.out j hj)) Tryz.underlying40 rfl (by kernel_rfl)) ?_; simp only [pTs, pTn, pTz, pTc]
      refine wpB_act rfl rfl (fun K hK => ?_)
      go_simp
      refine (HQ.out _ ((Below.refl _ _).drew)).mono ?_
      rintro e w1 ⟨rfl, hb1⟩
      have hB1 := Below.call hB.drew hb1 (Nat.le_refl _)
      refine hK _ _ hb1 ?_
      clear hK K
      try simp only [pTs, pTn, pTz, pTc]
      refine wpB_act rfl rfl (fun K hK => ?_)
      go_simp
      refine (HR.out _ (Below.call (Below.refl _ _).drew hb1 (Nat.le_refl _))).mono ?_
      rintro e w2 ⟨rfl, hb2⟩
      have hB2 := Below.call hB1 hb2 (Nat.le_refl _)
      refine hK _ _ hb2 ?_
      clear hK K
      try simp only [pTs, pTn, pTz, pTc]
      refine wpB_fix rfl rfl (fun W hW => by go_simp; with_reducible rfl) ?_; simp only [pTs, pTn, pTz, pTc]
      simp only [wpB]
      have HC1b := Lib.hid (HC.out _ hB2)
      have hl2 : b < w2.heap.size := Nat.lt_of_lt_of_le hb hB2.size
      by_cases h0 : (0 : Int) < (k : Int)
      · obtain ⟨m, hm⟩ : ∃ m, k = m + 1 := ⟨k - 1, by omega⟩
        obtain ⟨x, hx⟩ : ∃ x, val[m]? = some x := ⟨_, List.getElem?_eq_getElem (by omega)⟩
        have hcell2 := HS.out.cell b o rfl _ _ hx
        have HCX : Hid (∀ W, Below w.heap.size w W → ∀ j, j < (encNote x).size → W.cell? ⟨b, o + m * 29 + j, none⟩ = (encNote x)[j]?) := Lib.hid fun W hW j hj => by
          rw [(Ext.of_below (D := fun _ => False) hW).cell hb id]; exact hcell2 j hj
        have HC2b := Lib.hid (HCX.out _ hB2)
        have hd : decide ((0 : Int) < (k : Int)) = true := by simpa using h0
        have hs1 : IntKind.i64.wrap ((k : Int) - 1) = (m : Int) := by rw [hm, show ((m + 1 : Nat) : Int) - 1 = (m : Int) by omega]; exact IntWalk.i64_in _ (by have := HS.out.room; simp only at this; omega)
        have hs2 : wrap64 ((k : Int) - 1) = (m : Int) := by have := HS.out.room; simp only at this; unfold wrap64; omega
        have hi2 : (m : Int) < (val.length : Int) := by omega
        have HB1 : Hid (∀ W, _) := Lib.hid fun W => before_any x y W
        have HB2 : Hid (∀ W, _) := Lib.hid fun W => before_ref x y W
        have HB3 : Hid (∀ W, _) := Lib.hid fun W => before_any y x W
        have HB4 : Hid (∀ W, _) := Lib.hid fun W => before_ref y x W
        clear hx hcell2 hm
        generalize beforeB x y = p1 at HB1 HB2
        generalize beforeB y x = p2 at HB3 HB4
        have hp1 : (p1 != p1) = false := by simp
        have hp2 : (p2 != p2) = false := by simp
        go_wp2
        refine wp_region_ord [(0, true), (1, true), (2, true), (3, true), (4, true), (5, true), (6, true), (7, true), (8, true), (9, true), (10, true), (11, true), (13, true), (14, true), (15, true), (16, true), (17, true), (18, true), (19, true), (20, true), (21, true), (12, false), (22, false), (23, true), (24, true), (25, true), (26, true), (27, true), (28, true), (29, true), (30, true), (31, true), (32, true), (33, true), (35, true), (36, true), (37, true), (38, true), (39, true), (40, true), (41, true), (42, true), (43, true), (34, false), (44, false), (45, true), (46, true), (47, true)] rfl (by kernel_rfl) (by kernel_rfl) (fun d _ _ _ _ h => by cases d <;> exact h) ?_
        refine wpB_fix rfl rfl (fun W hW => by go_simp; with_reducible rfl) ?_; simp only [pTs, pTn, pTz, pTc]
        refine wpB_fix (v := .bool true) rfl rfl (fun W hW => by have h00 : 0 < k := (by omega); go_simp) ?_; simp only [pTs, pTn, pTz, pTc]
        iterate 5 (refine wpB_fix rfl rfl (fun W hW => by go_simp; with_reducible rfl) ?_; simp only [pTs, pTn, pTz, pTc])
        refine wpB_fix (v := .agg (encNote x)) rfl rfl (fun W hW => run_load_mem (encNote x) rfl (fun j hj => (hW.cell (p := ⟨b, o + m * 29 + j, none⟩) hl2).trans (HC2b.out j hj)) Tryz.underlying40 rfl (by kernel_rfl)) ?_; simp only [pTs, pTn, pTz, pTc]
        iterate 3 (refine wpB_fix rfl rfl (fun W hW => by go_simp; with_reducible rfl) ?_; simp only [pTs, pTn, pTz, pTc])
        refine wpB_fix (v := .agg (encNote y)) rfl rfl (fun W hW => run_load_mem (encNote y) rfl (fun j hj => (hW.cell (p := ⟨b, o + k * 29 + j, none⟩) hl2).trans (HC1b.out j hj)) Tryz.underlying40 rfl (by kernel_rfl)) ?_; simp only [pTs, pTn, pTz, pTc]
        iterate 4 (refine wpB_fix rfl rfl (fun W hW => by go_simp; with_reducible rfl) ?_; simp only [pTs, pTn, pTz, pTc])
        refine wpB_fix (v := .agg (encNote x)) rfl rfl (fun W hW => run_load_mem (encNote x) rfl (fun j hj => (hW.cell (p := ⟨b, o + m * 29 + j, none⟩) hl2).trans (HC2b.out j hj)) Tryz.underlying40 rfl (by kernel_rfl)) ?_; simp only [pTs, pTn, pTz, pTc]
        iterate 3 (refine wpB_fix rfl rfl (fun W hW => by go_simp; with_reducible rfl) ?_; simp only [pTs, pTn, pTz, pTc])
        refine wpB_fix (v := .agg (encNote y)) rfl rfl (fun W hW => run_load_mem (encNote y) rfl (fun j hj => (hW.cell (p := ⟨b, o + k * 29 + j, none⟩) hl2).trans (HC1b.out j hj)) Tryz.underlying40 rfl (by kernel_rfl)) ?_; simp only [pTs, pTn, pTz, pTc]
        refine wpB_act rfl rfl (fun K hK => ?_)
        go_simp
        refine (HB1.out _).mono ?_
        rintro e w3 ⟨rfl, hb3⟩
        have hB3 := Below.call hB2.drew hb3 (Nat.le_refl _)
        refine hK _ _ hb3 ?_
        clear hK K
        try simp only [pTs, pTn, pTz, pTc]
        refine wpB_act rfl rfl (fun K hK => ?_)
        go_simp
        refine (HB2.out _).mono ?_
        rintro e w4 ⟨rfl, hb4⟩
        have hB4 := Below.call hB3 hb4 (Nat.le_refl _)
        have HC1c := Lib.hid (HC.out _ hB4)
        have HC2c := Lib.hid (HCX.out _ hB4)
        have hl4 : b < w4.heap.size := Nat.lt_of_lt_of_le hb hB4.size
        refine hK _ _ hb4 ?_
        clear hK K
        try simp only [pTs, pTn, pTz, pTc]
        iterate 5 (refine wpB_fix rfl rfl (fun W hW => by go_simp; with_reducible rfl) ?_; simp only [pTs, pTn, pTz, pTc])
        refine wpB_fix (v := .agg (encNote y)) rfl rfl (fun W hW => run_load_mem (encNote y) rfl (fun j hj => (hW.cell (p := ⟨b, o + k * 29 + j, none⟩) hl4).trans (HC1c.out j hj)) Tryz.underlying40 rfl (by kernel_rfl)) ?_; simp only [pTs, pTn, pTz, pTc]
        iterate 4 (refine wpB_fix rfl rfl (fun W hW => by go_simp; with_reducible rfl) ?_; simp only [pTs, pTn, pTz, pTc])
        refine wpB_fix (v := .agg (encNote x)) rfl rfl (fun W hW => run_load_mem (encNote x) rfl (fun j hj => (hW.cell (p := ⟨b, o + m * 29 + j, none⟩) hl4).trans (HC2c.out j hj)) Tryz.underlying40 rfl (by kernel_rfl)) ?_; simp only [pTs, pTn, pTz, pTc]
        iterate 3 (refine wpB_fix rfl rfl (fun W hW => by go_simp; with_reducible rfl) ?_; simp only [pTs, pTn, pTz, pTc])
        refine wpB_fix (v := .agg (encNote y)) rfl rfl (fun W hW => run_load_mem (encNote y) rfl (fun j hj => (hW.cell (p := ⟨b, o + k * 29 + j, none⟩) hl4).trans (HC1c.out j hj)) Tryz.underlying40 rfl (by kernel_rfl)) ?_; simp only [pTs, pTn, pTz, pTc]
        iterate 4 (refine wpB_fix rfl rfl (fun W hW => by go_simp; with_reducible rfl) ?_; simp only [pTs, pTn, pTz, pTc])
        refine wpB_fix (v := .agg (encNote x)) rfl rfl (fun W hW => run_load_mem (encNote x) rfl (fun j hj => (hW.cell (p := ⟨b, o + m * 29 + j, none⟩) hl4).trans (HC2c.out j hj)) Tryz.underlying40 rfl (by kernel_rfl)) ?_; simp only [pTs, pTn, pTz, pTc]
        refine wpB_act rfl rfl (fun K hK => ?_)
        go_simp
        refine (HB3.out _).mono ?_
        rintro e w5 ⟨rfl, hb5⟩
        have hB5 := Below.call hB4 hb5 (Nat.le_refl _)
        refine hK _ _ hb5 ?_
        clear hK K
        try simp only [pTs, pTn, pTz, pTc]
        refine wpB_act rfl rfl (fun K hK => ?_)
        go_simp
        refine (HB4.out _).mono ?_
        rintro e w6 ⟨rfl, hb6⟩
        have hB6 := Below.call hB5 hb6 (Nat.le_refl _)
        refine hK _ _ hb6 ?_
        clear hK K
        try simp only [pTs, pTn, pTz, pTc]
        iterate 3 (refine wpB_fix rfl rfl (fun W hW => by go_simp; with_reducible rfl) ?_; simp only [pTs, pTn, pTz, pTc])
        simp only [wpB]
        go_wp2
        go_roundw
        case rel => exact ⟨k + 1, by omega, by go_num, hB6⟩
        case measure => simp [intOf]; omega
      · have hd : decide ((0 : Int) < (k : Int)) = false := by simpa using h0
        have HK0 : Hid (k = 0) := Lib.hid (by omega)
        go_wp2
        refine wp_region_ord [(0, true), (1, true), (2, true), (3, true), (4, true), (5, true), (6, true), (7, true), (8, true), (9, true), (10, true), (11, true), (13, true), (14, true), (15, true), (16, true), (17, true), (18, true), (19, true), (20, true), (21, true), (12, false), (22, false), (23, true), (24, true), (25, true), (26, true), (27, true), (28, true), (29, true), (30, true), (31, true), (32, true), (33, true), (35, true), (36, true), (37, true), (38, true), (39, true), (40, true), (41, true), (42, true), (43, true), (34, false), (44, false), (45, true), (46, true), (47, true)] rfl (by kernel_rfl) (by kernel_rfl) (fun d _ _ _ _ h => by cases d <;> exact h) ?_
        refine wpB_fix rfl rfl (fun W hW => by go_simp; with_reducible rfl) ?_; simp only [pTs, pTn, pTz, pTc]
        refine wpB_fix (v := .bool false) rfl rfl (fun W hW => by have h00 : k = 0 := HK0.out; go_simp) ?_; simp only [pTs, pTn, pTz, pTc]
        refine wpB_fix rfl rfl (fun W hW => by go_simp; with_reducible rfl) ?_; simp only [pTs, pTn, pTz, pTc]
        iterate 18 (refine wpB_skip rfl rfl ?_; simp only [pTs, pTn, pTz, pTc])
        iterate 2 (refine wpB_skip_act rfl rfl ?_; simp only [pTs, pTn, pTz, pTc])
        iterate 20 (refine wpB_skip rfl rfl ?_; simp only [pTs, pTn, pTz, pTc])
        iterate 2 (refine wpB_skip_act rfl rfl ?_; simp only [pTs, pTn, pTz, pTc])
        iterate 2 (refine wpB_skip rfl rfl ?_; simp only [pTs, pTn, pTz, pTc])
        refine wpB_fix rfl rfl (fun W hW => by go_simp; with_reducible rfl) ?_; simp only [pTs, pTn, pTz, pTc]
        simp only [wpB]
        go_wp2
        go_roundw
        case rel => exact ⟨k + 1, by omega, by go_num, hB2.drew⟩
        case measure => simp [intOf]; omega
    · go_wp2_with (go_at_call 12; (with_reducible refine (awake_any _).mono ?_); rintro e w3 ⟨rfl, hb3⟩)
      go_ret
      exact ⟨by simp, Below.call hB hb3 (Nat.le_refl _)⟩
end Go.Proofs.YtendmmhfjhgdaaaGreat
