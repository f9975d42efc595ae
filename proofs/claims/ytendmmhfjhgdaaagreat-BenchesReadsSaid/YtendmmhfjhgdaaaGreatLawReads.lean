/-
  BenchesReads: the walk of the statement.
-/
import Derived.Test.YtendmmhfjhgdaaaGreatFoundRef
import Derived.Test.YtendmmhfjhgdaaaGreatAwake
import Derived.Test.YtendmmhfjhgdaaaGreatReads
set_option linter.unusedVariables false
set_option linter.unusedSimpArgs false
namespace Go.Proofs.YtendmmhfjhgdaaaGreat
open Go.RowKit

theorem foundR_len {l : List Where} {g : List Held} (h1 : l.length ≤ 1000) (h2 : g.length ≤ 1000) : (foundR l g).length ≤ 2000 := by
  have h3 := foldl_holdingR_len (ofWhere l ++ g) []
  have h4 := ofWhere_len l
  simp only [List.length_nil, List.length_append] at h3
  unfold foundR; omega
set_option maxRecDepth 20000 in
set_option maxHeartbeats 4000000 in
theorem reads_any (D : Nat → Prop) (a a2 : Option Addr) (l cap l2 cap2 : Nat) (piece : Int) (w : World) (hs : l ≤ 4294967296 → ∃ val : List Where, val.length = l ∧ Sl.OK 7 encWhere okWhere D w ⟨a, cap, val⟩) (hg : l2 ≤ 4294967296 → ∃ val : List Held, val.length = l2 ∧ Sl.OK 5 encHeld okHeld D w ⟨a2, cap2, val⟩) :
    Calls Tryz.prog 9 #[.slice a l cap, .slice a2 l2 cap2, .int .i64 piece] w fun e w' => e = .returned (.bool true) ∧ Below w.heap.size w w' := by
  by_cases h1 : 1000 < l
  · clear hs hg
    have hi1 : (1000 : Int) < (l : Int) := by omega
    go_enter Tryz.func9, Tryz.ntmps9
    go_wp2_with (go_at_call 12; (with_reducible refine (awake_any _).mono ?_); rintro e w1 ⟨rfl, hb1⟩)
    go_ret
    exact ⟨rfl, hb1⟩
  by_cases h2 : 1000 < l2
  · clear hs hg
    have hi1 : ¬ (1000 : Int) < (l : Int) := by omega
    have hi2 : (1000 : Int) < (l2 : Int) := by omega
    go_enter Tryz.func9, Tryz.ntmps9
    go_wp2_with (go_at_call 12; (with_reducible refine (awake_any _).mono ?_); rintro e w1 ⟨rfl, hb1⟩)
    go_ret
    exact ⟨rfl, hb1⟩
  obtain ⟨val, rfl, hs'⟩ := hs (by omega)
  obtain ⟨val2, rfl, hg'⟩ := hg (by omega)
  have HS := Lib.hid hs'
  have HG := Lib.hid hg'
  clear hs hg hs' hg'
  have hi1 : ¬ (1000 : Int) < (val.length : Int) := by omega
  have hi2 : ¬ (1000 : Int) < (val2.length : Int) := by omega
  have hl1 : val.length ≤ 1000 := by omega
  have hl2 : val2.length ≤ 1000 := by omega
  obtain ⟨x, hx⟩ : ∃ x, whereIs val piece = x := ⟨_, rfl⟩
  obtain ⟨x, r⟩ := x
  have HX := Lib.hid hx
  clear hx
  have heq : eqWhere x x = true := by simp [eqWhere]
  have H1 : Hid (∀ w', Sl.OK 7 encWhere okWhere D w' ⟨a, cap, val⟩ → Calls Tryz.prog 32 #[.agg #[.slice none 0 0, .slice a val.length cap, .slice a2 val2.length cap2, .slice none 0 0, .slice none 0 0, .slice none 0 0], .int .i64 piece] w' fun e w'' => e = .returned (.tuple #[.agg (encWhere x), .int .i64 r]) ∧ Below w'.heap.size w' w'') := Lib.hid fun w' h => by
    have h := whereIs_any D ⟨Sl.nil, ⟨a, cap, val⟩, ⟨a2, cap2, val2⟩, Sl.nil, Sl.nil, Sl.nil⟩ piece w' h (by simp only; omega)
    simp only [HX.out] at h
    exact h
  have H2 : Hid (∀ w', Sl.OK 7 encWhere okWhere D w' ⟨a, cap, val⟩ → Calls Tryz.prog 33 #[.agg #[.slice none 0 0, .slice a val.length cap, .slice a2 val2.length cap2, .slice none 0 0, .slice none 0 0, .slice none 0 0], .int .i64 piece] w' fun e w'' => e = .returned (.tuple #[.agg (encWhere x), .int .i64 r]) ∧ Below w'.heap.size w' w'') := Lib.hid fun w' h => by
    have h := whereIsR_any D ⟨Sl.nil, ⟨a, cap, val⟩, ⟨a2, cap2, val2⟩, Sl.nil, Sl.nil, Sl.nil⟩ piece w' h (by simp only; omega)
    simp only [HX.out] at h
    exact h
  have hB1 : Below w.heap.size w (w.alloc (.cells #[.slice none 0 0, .slice a val.length cap, .slice a2 val2.length cap2, .slice none 0 0, .slice none 0 0, .slice none 0 0] 58)) := (Below.refl _ _).alloc (Nat.le_refl _) _
  have hbR : BoxAt (w.alloc (.cells #[.slice none 0 0, .slice a val.length cap, .slice a2 val2.length cap2, .slice none 0 0, .slice none 0 0, .slice none 0 0] 58)) w.heap.size 58 #[.slice none 0 0, .slice a val.length cap, .slice a2 val2.length cap2, .slice none 0 0, .slice none 0 0, .slice none 0 0] := BoxAt.new _ _ _
  have HS1 : Hid (Sl.OK 7 encWhere okWhere D (w.alloc (.cells #[.slice none 0 0, .slice a val.length cap, .slice a2 val2.length cap2, .slice none 0 0, .slice none 0 0, .slice none 0 0] 58)) ⟨a, cap, val⟩) := Lib.hid (Sl.OK.ext (w := w) (fun _ h => h) HS.out (.of_below hB1))
  go_enter Tryz.func9, Tryz.ntmps9
  go_wp2_with (first
    | (go_at_call 32; refine (H1.out _ HS1.out).mono ?_; rintro e w2 ⟨rfl, hB2⟩; have hB12 := hB1.trans (hB2.mono hB1.size); have hbR2 := hbR.belowAll hB2)
    | ((with_reducible refine at_storeTo 8 ?_); refine wpList_store_box (BoxAt.newN (n := w2.heap.size) _ _ _ rfl) rfl 66 _ _ rfl rfl (.agg (encWhere x)) rfl (by kernel_rfl) rfl (one_agg (encWhere_one _)) ?_; intro w3 hb3 hT3; have hbx := hb3.eqv (splice_whole _ (encWhere x) rfl); have hB23 : Below w2.heap.size w2 w3 := ((Below.refl _ _).alloc (Nat.le_refl _) _).trans (hT3.below (Nat.le_refl _)); have hB3 := hB12.trans (hB23.mono hB12.size); have hbR3 := hbR2.belowAll hB23; have HS3 : Hid (Sl.OK 7 encWhere okWhere D w3 ⟨a, cap, val⟩) := Lib.hid (Sl.OK.ext (w := w) (fun _ h => h) HS.out (.of_below hB3)); clear hT3 hb3)
    | ((with_reducible refine at_dst 31 ?_); refine wpList_loadB hbR3 rfl 58 _ rfl rfl #[.slice none 0 0, .slice a val.length cap, .slice a2 val2.length cap2, .slice none 0 0, .slice none 0 0, .slice none 0 0] (whole_cells _) Tryz.underlying58 rfl (by kernel_rfl) ?_)
    | (go_at_call 33; refine (H2.out _ HS3.out).mono ?_; rintro e w4 ⟨rfl, hB4⟩; have hB34 := hB3.trans (hB4.mono hB3.size); have hbR4 := hbR3.belowAll hB4; have hbx4 := hbx.belowAll hB4)
    | ((with_reducible refine at_storeTo 10 ?_); refine wpList_store_box (BoxAt.newN (n := w4.heap.size) _ _ _ rfl) rfl 66 _ _ rfl rfl (.agg (encWhere x)) rfl (by kernel_rfl) rfl (one_agg (encWhere_one _)) ?_; intro w5 hb5 hT5; have hby := hb5.eqv (splice_whole _ (encWhere x) rfl); have hB45 : Below w4.heap.size w4 w5 := ((Below.refl _ _).alloc (Nat.le_refl _) _).trans (hT5.below (Nat.le_refl _)); have hB5 := hB34.trans (hB45.mono hB34.size); have hbR5 := hbR4.belowAll hB45; have hbx5 := hbx4.belowAll hB45; clear hT5 hb5))
  have hB5d := hB5.drew
  have hbRd := hbR5.drew
  have hbxd := hbx5.drew
  have hbyd := hby.drew
  have HS5 : Sl.OK 7 encWhere okWhere D w5.drew ⟨a, cap, val⟩ := (Sl.OK.ext (w := w) (fun _ h => h) HS.out (.of_below hB5d))
  have HG5 : Sl.OK 5 encHeld okHeld D w5.drew ⟨a2, cap2, val2⟩ := (Sl.OK.ext (w := w) (fun _ h => h) HG.out (.of_below hB5d))
  refine wp_region_ord [(0, true), (1, true), (2, true), (3, true), (4, true), (5, true), (6, true), (7, true), (8, true), (9, true), (11, true), (10, false), (12, false), (13, false), (14, true), (15, true), (16, false), (17, true), (18, true)] rfl (by kernel_rfl) (by kernel_rfl) (fun d _ _ _ _ h => by cases d <;> exact h) ?_
  refine wpB_fix (v := .agg (encWhere x)) rfl rfl (fun W hW => run_load_box (encWhere x) (hbxd.belowAll hW) rfl (whole_cells _) Tryz.underlying66 rfl (by kernel_rfl)) ?_
  simp only [Act.put, List.setIfInBounds_toArray, List.set_cons_zero, List.set_cons_succ]
  refine wpB_fix (v := .agg (encWhere x)) rfl rfl (fun W hW => run_load_box (encWhere x) (hbyd.belowAll hW) rfl (whole_cells _) Tryz.underlying66 rfl (by kernel_rfl)) ?_
  simp only [Act.put, List.setIfInBounds_toArray, List.set_cons_zero, List.set_cons_succ]
  refine wpB_fix (v := ?_) rfl rfl ?_ ?_; rotate_left; focus (intro W hW; go_simp; with_reducible rfl)
  simp only [Act.put, List.setIfInBounds_toArray, List.set_cons_zero, List.set_cons_succ]
  refine wpB_fix (v := ?_) rfl rfl ?_ ?_; rotate_left; focus (intro W hW; go_simp; with_reducible rfl)
  simp only [Act.put, List.setIfInBounds_toArray, List.set_cons_zero, List.set_cons_succ]
  refine wpB_fix (v := ?_) rfl rfl ?_ ?_; rotate_left; focus (intro W hW; go_simp; with_reducible rfl)
  simp only [Act.put, List.setIfInBounds_toArray, List.set_cons_zero, List.set_cons_succ]
  refine wpB_fix (v := ?_) rfl rfl ?_ ?_; rotate_left; focus (intro W hW; go_simp; with_reducible rfl)
  simp only [Act.put, List.setIfInBounds_toArray, List.set_cons_zero, List.set_cons_succ]
  refine wpB_fix (v := ?_) rfl rfl ?_ ?_; rotate_left; focus (intro W hW; go_simp; with_reducible rfl)
  simp only [Act.put, List.setIfInBounds_toArray, List.set_cons_zero, List.set_cons_succ]
  refine wpB_fix (v := ?_) rfl rfl ?_ ?_; rotate_left; focus (intro W hW; go_simp; with_reducible rfl)
  simp only [Act.put, List.setIfInBounds_toArray, List.set_cons_zero, List.set_cons_succ]
  refine wpB_fix (v := ?_) rfl rfl ?_ ?_; rotate_left; focus (intro W hW; go_simp; with_reducible rfl)
  simp only [Act.put, List.setIfInBounds_toArray, List.set_cons_zero, List.set_cons_succ]
  refine wpB_fix (v := .agg #[.slice none 0 0, .slice a val.length cap, .slice a2 val2.length cap2, .slice none 0 0, .slice none 0 0, .slice none 0 0]) rfl rfl (fun W hW => run_load_box #[.slice none 0 0, .slice a val.length cap, .slice a2 val2.length cap2, .slice none 0 0, .slice none 0 0, .slice none 0 0] (hbRd.belowAll hW) rfl (whole_cells _) Tryz.underlying58 rfl (by kernel_rfl)) ?_
  simp only [Act.put, List.setIfInBounds_toArray, List.set_cons_zero, List.set_cons_succ]
  refine wpB_fix (v := .agg #[.slice none 0 0, .slice a val.length cap, .slice a2 val2.length cap2, .slice none 0 0, .slice none 0 0, .slice none 0 0]) rfl rfl (fun W hW => run_load_box #[.slice none 0 0, .slice a val.length cap, .slice a2 val2.length cap2, .slice none 0 0, .slice none 0 0, .slice none 0 0] (hbRd.belowAll hW) rfl (whole_cells _) Tryz.underlying58 rfl (by kernel_rfl)) ?_
  simp only [Act.put, List.setIfInBounds_toArray, List.set_cons_zero, List.set_cons_succ]
  refine wpB_act rfl rfl (fun K hK => ?_)
  go_simp
  refine (found_any D ⟨Sl.nil, ⟨a, cap, val⟩, ⟨a2, cap2, val2⟩, Sl.nil, Sl.nil, Sl.nil⟩ _ HS5 HG5 hl1 hl2).mono ?_
  rintro e w6 ⟨v6, rfl, ho6, hk6, hb6⟩
  simp only at ho6 hk6
  have hB6 := hB5d.trans (hb6.mono hB5d.size)
  refine hK _ _ hb6 ?_
  clear hK K
  try simp only [Act.put, List.setIfInBounds_toArray, List.set_cons_zero, List.set_cons_succ]
  refine wpB_act rfl rfl (fun K hK => ?_)
  go_simp
  have HS6 : Sl.OK 7 encWhere okWhere D w6 ⟨a, cap, val⟩ := (Sl.OK.ext (w := w) (fun _ h => h) HS.out (.of_below hB6))
  have HG6 : Sl.OK 5 encHeld okHeld D w6 ⟨a2, cap2, val2⟩ := (Sl.OK.ext (w := w) (fun _ h => h) HG.out (.of_below hB6))
  refine (foundRef_any D ⟨Sl.nil, ⟨a, cap, val⟩, ⟨a2, cap2, val2⟩, Sl.nil, Sl.nil, Sl.nil⟩ _ HS6 HG6 hl1 hl2).mono ?_
  rintro e w7 ⟨v7, rfl, ho7, hb7⟩
  simp only at ho7
  have hB7 := hB6.trans (hb7.mono hB6.size)
  refine hK _ _ hb7 ?_
  clear hK K
  try simp only [Act.put, List.setIfInBounds_toArray, List.set_cons_zero, List.set_cons_succ]
  refine wpB_act rfl rfl (fun K hK => ?_)
  go_simp
  have ho67 := ho6.belowAll hb7
  have hfl : (foundR val val2).length ≤ 2000 := foundR_len hl1 hl2
  have hk7 : ∀ q ∈ foundR val val2, okHeld (fun _ => False) w7 q := fun q hq => hk6 q hq
  obtain ⟨s6, rfl, hv6, hs6, _⟩ := ho67.sl (fun _ => rfl) okHeld (fun _ => False) hk7 (fun _ _ h => h) (by omega)
  obtain ⟨s7, rfl, hv7, hs7, _⟩ := ho7.sl (fun _ => rfl) okHeld (fun _ => False) hk7 (fun _ _ h => h) (by omega)
  refine (sameHeld_any _ s6 s7 _ hs6 hs7 (by rw [hv6, hv7]) (by rw [hv6]; omega)).mono ?_
  rintro e w8 ⟨rfl, hb8⟩
  have hB8 := hB7.trans (hb8.mono hB7.size)
  refine hK _ _ hb8 ?_
  clear hK K
  try simp only [Act.put, List.setIfInBounds_toArray, List.set_cons_zero, List.set_cons_succ]
  refine wpB_fix (v := ?_) rfl rfl ?_ ?_; rotate_left; focus (intro W hW; go_simp; with_reducible rfl)
  simp only [Act.put, List.setIfInBounds_toArray, List.set_cons_zero, List.set_cons_succ]
  refine wpB_fix (v := ?_) rfl rfl ?_ ?_; rotate_left; focus (intro W hW; go_simp; with_reducible rfl)
  simp only [Act.put, List.setIfInBounds_toArray, List.set_cons_zero, List.set_cons_succ]
  refine wpB_act rfl rfl (fun K hK => ?_)
  go_simp
  refine (awake_any _).mono ?_
  rintro e w9 ⟨rfl, hb9⟩
  have hB9 := hB8.trans (hb9.mono hB8.size)
  refine hK _ _ hb9 ?_
  clear hK K
  try simp only [Act.put, List.setIfInBounds_toArray, List.set_cons_zero, List.set_cons_succ]
  refine wpB_fix (v := ?_) rfl rfl ?_ ?_; rotate_left; focus (intro W hW; go_simp; with_reducible rfl)
  simp only [Act.put, List.setIfInBounds_toArray, List.set_cons_zero, List.set_cons_succ]
  refine wpB_fix (v := ?_) rfl rfl ?_ ?_; rotate_left; focus (intro W hW; go_simp; with_reducible rfl)
  simp only [Act.put, List.setIfInBounds_toArray, List.set_cons_zero, List.set_cons_succ]
  simp only [wpB]
  go_wp2
  go_ret
  exact ⟨rfl, hB9⟩
end Go.Proofs.YtendmmhfjhgdaaaGreat
