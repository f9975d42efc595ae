/-
  What the reference calls valid: pieces (chapter 3), rising numbers, references, items: walked.
-/
import Derived.Test.YtendmmhfjhgdaaaGreatSet
import Derived.Test.YtendmmhfjhgdaaaGreatBox
import Derived.Deep.QuietTactic
import Derived.BigQuiet
set_option maxHeartbeats 16000000
set_option maxRecDepth 100000
set_option linter.unusedVariables false
set_option linter.unusedSimpArgs false
namespace Go.Proofs.YtendmmhfjhgdaaaGreat
open Go.RowKit
def upB {α : Type} (p : α → Bool) (r : α → α → Bool) (l : List α) : Bool := l.all p && chainB r l
theorem upB_nil {α : Type} (p : α → Bool) (r : α → α → Bool) (l : List α) : upB p r (l.take 0) = true := by simp [upB, chainB]
theorem upB_stop {α : Type} {p : α → Bool} {r : α → α → Bool} {l : List α} {k : Nat} (h : upB p r (l.take k) = false) : upB p r l = false := by
 simp only [upB, Bool.and_eq_false_iff] at h ⊢
 rcases h with h | h
 ·refine .inl ?_
  rw [List.all_eq_false] at h ⊢
  obtain ⟨z, hz, hz2⟩ := h
  exact ⟨z, List.mem_of_mem_take hz, hz2⟩
 ·exact .inr (chainB_false _ h)
theorem upB_bad {α : Type} {p : α → Bool} {r : α → α → Bool} {l : List α} {k : Nat} {y : α} (hy : l[k]? = some y) (h : p y = false) : upB p r l = false := by
 have : l.all p = false := by rw [List.all_eq_false]; exact ⟨y, List.mem_of_getElem? hy, by simp [h]⟩
 simp [upB, this]
theorem upB_one {α : Type} {p : α → Bool} {r : α → α → Bool} {l : List α} {y : α} (hy : l[0]? = some y) : upB p r (l.take (0 + 1)) = p y := by
 rw [List.take_add_one, hy]; simp [upB, chainB]
theorem upB_step {α : Type} {p : α → Bool} {r : α → α → Bool} {l : List α} {m : Nat} {x y : α} (hx : l[m]? = some x) (hy : l[m + 1]? = some y) (h : upB p r (l.take (m + 1)) = true) : upB p r (l.take (m + 1 + 1)) = (p y && r x y) := by
 simp only [upB, Bool.and_eq_true] at h ⊢
 rw [chainB_take _ hx hy, h.2, List.take_add_one, hy]
 simp only [Option.toList, List.all_append, h.1, List.all_cons, List.all_nil, Bool.true_and, Bool.and_true]
theorem upB_end {α : Type} {p : α → Bool} {r : α → α → Bool} {l : List α} {k : Nat} (h : upB p r (l.take k) = true) (hk : k = l.length) : upB p r l = true := by
 rw [hk, List.take_length] at h; exact h
theorem within_ref (n lo hi : Int) (w : World) :
  Calls Tryz.prog 212 #[.int .i64 n, .int .i64 lo, .int .i64 hi] w fun e w' => e = .returned (.bool (inB n lo hi)) ∧ w = w' := by
 go_enter Tryz.func212, Tryz.ntmps212
 go_wp2
 all_goals go_ret
 all_goals exact ⟨by simp [inB, *]; try omega, rfl⟩
theorem validGauge_ref (g : Gauge) (w : World) :
  Calls Tryz.prog 233 #[.agg (encGauge g)] w fun e w' => e = .returned (.bool (validGaugeB g)) ∧ Below w.heap.size w w' := by
 go_enter Tryz.func233, Tryz.ntmps233
 go_wp2_with (go_at_call 212; refine (within_ref _ _ _ _).mono ?_; rintro e w1 ⟨rfl, rfl⟩)
 all_goals go_ret
 all_goals refine ⟨?_, (Below.refl _ _).alloc (Nat.le_refl _) _⟩
 all_goals (simp [validGaugeB, validSpanB, *]; try omega)
theorem gauges_ref (D : Nat → Prop) (s : Sl Gauge) (w : World) (hs : s.OK 5 encGauge okGauge D w) :
  Calls Tryz.prog 213 #[.slice s.a s.val.length s.cap] w fun e w' => e = .returned (.bool (validGaugesB s.val)) ∧ Below w.heap.size w w' := by
 have hroom := hs.room
 have HS := Lib.hid hs
 clear hs
 obtain ⟨a, cap, val⟩ := s
 simp only at hroom
 by_cases hlo : (val.length : Int) < 3
 ·go_enter Tryz.func213, Tryz.ntmps213
  go_wp2
  go_ret
  exact ⟨by simp [validGaugesB, inB]; omega, Below.refl _ _⟩
 by_cases hhi : (24 : Int) < (val.length : Int)
 ·go_enter Tryz.func213, Tryz.ntmps213
  go_wp2
  go_ret
  exact ⟨by simp [validGaugesB, inB]; omega, Below.refl _ _⟩
 have HN : Hid (validGaugesB val = !(val.any fun g => !validGaugeB g)) := Lib.hid (by
  have h : inB (val.length : Int) 3 24 = true := by simp [inB]; omega
  simp [validGaugesB, h])
 go_enter Tryz.func213, Tryz.ntmps213
 go_wp2
 go_loopw [3] (fun i wr => ∃ k : Nat, k ≤ val.length ∧ i = .int .i64 k ∧ Hid (∀ j y, j < k → val[j]? = some y → validGaugeB y = true) ∧ Below w.heap.size w wr) (fun i _ => val.length - (intOf i).toNat)
 case atStart => exact ⟨0, Nat.zero_le _, rfl, Lib.hid (by omega), Below.refl _ _⟩
 case round =>
  obtain ⟨k, hk, rfl, hn, hB⟩ := hrel
  by_cases hlt : k < val.length
  ·obtain ⟨x, hx⟩ : ∃ x, val[k]? = some x := ⟨_, List.getElem?_eq_getElem hlt⟩
   have HX := Lib.hid hx
   have hi1 : (k : Int) < (val.length : Int) := by omega
   obtain ⟨b, o, rfl, hb, _, hok, hcell⟩ := HS.out.at hx
   have HC : Hid (∀ j, j < (encGauge x).size → wr.cell? ⟨b, o + k * 5 + j, none⟩ = (encGauge x)[j]?) := Lib.hid fun j hj => by
    rw [(Ext.of_below (D := fun _ => False) hB).cell hb id]; exact hcell j hj
   clear hx hcell
   have HV := Lib.hid (validGauge_ref x)
   rcases hv : validGaugeB x
   all_goals simp only [hv] at HV
   all_goals go_wp2_with (first
    | (refine wpList_load_at rfl 80 _ rfl b (o + k * 5) rfl (encGauge x) _ HC.out Tryz.underlying80 rfl (by kernel_rfl) ?_)
    | (go_at_call 233; refine (HV.out _).mono ?_; rintro e w1 ⟨rfl, hb1⟩))
   ·go_ret
    refine ⟨?_, hB.trans (hb1.mono hB.size)⟩
    have : (val.any fun g => !validGaugeB g) = true := List.any_eq_true.2 ⟨x, List.mem_of_getElem? HX.out, by simp [hv]⟩
    simp [HN.out, this]
   ·go_roundw
    case rel =>
     refine ⟨k + 1, by omega, by go_num, Lib.hid fun j y hj hy => ?_, hB.trans (hb1.mono hB.size)⟩
     rcases Nat.lt_succ_iff_lt_or_eq.1 hj with h | rfl
     ·exact hn.out j y h hy
     ·rw [HX.out] at hy; cases hy; exact hv
    case measure => simp [intOf]; omega
  ·go_wp2
   go_ret
   refine ⟨?_, hB⟩
   have : (val.any fun g => !validGaugeB g) = false := by
    rw [List.any_eq_false]
    intro y hy
    obtain ⟨j, hj⟩ := List.getElem?_of_mem hy
    simp [hn.out j y (by have := (List.getElem?_eq_some_iff.1 hj).1; omega) hj]
   simp [HN.out, this]
def earlierB (a b : Mark) : Bool := decide (compareMarksI a b < 0)
theorem earlier_ref (a b : Mark) (w : World) :
  Calls Tryz.prog 234 #[.agg (encMark a), .agg (encMark b)] w fun e w' => e = .returned (.bool (earlierB a b)) ∧ Below w.heap.size w w' := by
 have hB : Below w.heap.size w ((w.alloc (.cells (encMark a) 195)).alloc (.cells (encMark b) 195)) := ((Below.refl _ _).alloc (Nat.le_refl _) _).alloc (by simp) _
 by_cases h1 : a.edge = b.edge
 ·by_cases h2 : a.at_ = b.at_
  ·have HE : Hid (earlierB a b = decide (a.tone < b.tone)) := Lib.hid (by unfold earlierB compareMarksI orI cmpI; rw [h1, h2]; simp; split <;> simp_all; split <;> simp_all)
   have e1 : (a.edge != b.edge) = false := by simp [h1]
   have e2 : (a.at_ != b.at_) = false := by simp [h2]
   clear h1 h2
   go_enter Tryz.func234, Tryz.ntmps234
   go_wp2
   go_ret
   exact ⟨by simp [HE.out], hB⟩
  ·have HE : Hid (earlierB a b = decide (a.at_ < b.at_)) := Lib.hid (by unfold earlierB compareMarksI orI cmpI; rw [h1]; simp; split <;> simp_all; split <;> simp_all; omega)
   have e1 : (a.edge != b.edge) = false := by simp [h1]
   have e2 : (a.at_ != b.at_) = true := by simp [h2]
   clear h1 h2
   go_enter Tryz.func234, Tryz.ntmps234
   go_wp2
   go_ret
   exact ⟨by simp [HE.out], hB⟩
 ·have HE : Hid (earlierB a b = decide (a.edge < b.edge)) := Lib.hid (by unfold earlierB compareMarksI orI cmpI; simp; split <;> simp_all; split <;> simp_all; omega)
  have e1 : (a.edge != b.edge) = true := by simp [h1]
  clear h1
  go_enter Tryz.func234, Tryz.ntmps234
  go_wp2
  go_ret
  exact ⟨by simp [HE.out], hB⟩
theorem rising_ref (D : Nat → Prop) (s : Sl Int) (most : Int) (w : World) (hs : s.OK 1 encInt okInt D w) :
  Calls Tryz.prog 131 #[.slice s.a s.val.length s.cap , .int .i64 most] w fun e w' => e = .returned (.bool (upB (fun n => inB n 1 most) (fun a b => decide (a < b)) s.val)) ∧ Below w.heap.size w w' := by
 have hroom := hs.room
 have HS := Lib.hid hs
 clear hs
 obtain ⟨a, cap, val⟩ := s
 simp only at hroom
 go_enter Tryz.func131, Tryz.ntmps131
 go_wp2
 go_loopw [5] (fun i wr => ∃ k : Nat, k ≤ val.length ∧ i = .int .i64 k ∧ Hid (upB (fun n => inB n 1 most) (fun a b => decide (a < b)) (val.take k) = true) ∧ Below w.heap.size w wr) (fun i _ => val.length - (intOf i).toNat)
 case atStart => exact ⟨0, Nat.zero_le _, rfl, Lib.hid (upB_nil _ _ _), Below.refl _ _⟩
 case round =>
  obtain ⟨k, hk, rfl, hn, hB⟩ := hrel
  by_cases hlt : k < val.length
  ·obtain ⟨y, hy⟩ : ∃ y, val[k]? = some y := ⟨_, List.getElem?_eq_getElem hlt⟩
   obtain ⟨b, o, rfl, hb, _, hok, hcell⟩ := HS.out.at hy
   have hi1 : (k : Int) < (val.length : Int) := by omega
   have HY := Lib.hid hy
   have HC : Hid (∀ j, j < (encInt y).size → wr.cell? ⟨b, o + k * 1 + j, none⟩ = (encInt y)[j]?) := Lib.hid fun j hj => by rw [hB.cell (p := ⟨b, o + k * 1 + j, none⟩) hb]; exact hcell j hj
   have hl1 : b < wr.heap.size := Nat.lt_of_lt_of_le hb hB.size
   have HBAD : Hid (((fun n => inB n 1 most)) y = false → upB (fun n => inB n 1 most) (fun a b => decide (a < b)) val = false) := Lib.hid fun h => upB_bad hy h
   clear hy hcell hok
   have hc0 : wr.cell? ⟨b, o + k, none⟩ = some (vi y) := by simpa [encInt] using HC.out 0 (show (0 : Nat) < 1 by decide)
   by_cases hy1 : y < 1
   ·have e1 : decide (y < 1) = true := by simpa using hy1
    have HF := Lib.hid (HBAD.out (by simp [inB]; omega))
    go_wp2
    refine wp_region_ord [(0, true), (1, true), (2, true), (3, true), (4, true), (5, true), (6, true), (7, true), (8, true), (9, true), (10, true), (11, true), (12, true), (13, true), (14, true), (15, true), (16, true), (17, true), (18, true), (19, true), (20, true), (21, true), (22, true), (23, true), (24, true), (25, true), (26, true), (27, true), (28, true)] rfl (by kernel_rfl) (by kernel_rfl) (fun d _ _ _ _ h => by cases d <;> exact h) ?_
    iterate 3 (refine wpB_fix rfl rfl (fun W hW => by go_simp; with_reducible rfl) ?_; simp only [pTs, pTn, pTz, pTc])
    refine wpB_fix (v := vi y) rfl rfl (fun W hW => by have e : W.cell? ⟨b, o + k, none⟩ = some (vi y) := (hW.cell (p := ⟨b, o + k, none⟩) hl1).trans hc0; go_simp) ?_; simp only [pTs, pTn, pTz, pTc]
    iterate 2 (refine wpB_fix rfl rfl (fun W hW => by go_simp; with_reducible rfl) ?_; simp only [pTs, pTn, pTz, pTc])
    iterate 6 (refine wpB_skip rfl rfl ?_; simp only [pTs, pTn, pTz, pTc])
    iterate 2 (refine wpB_fix rfl rfl (fun W hW => by go_simp; with_reducible rfl) ?_; simp only [pTs, pTn, pTz, pTc])
    iterate 14 (refine wpB_skip rfl rfl ?_; simp only [pTs, pTn, pTz, pTc])
    refine wpB_fix rfl rfl (fun W hW => by go_simp; with_reducible rfl) ?_; simp only [pTs, pTn, pTz, pTc]
    simp only [wpB]
    go_wp2
    go_ret
    exact ⟨by simp [HF.out], hB.drew⟩
   have e1 : decide (y < 1) = false := by simpa using hy1
   by_cases hy2 : most < y
   ·have e2 : decide (most < y) = true := by simpa using hy2
    have HF := Lib.hid (HBAD.out (by simp [inB]; omega))
    go_wp2
    refine wp_region_ord [(0, true), (1, true), (2, true), (3, true), (4, true), (5, true), (6, true), (7, true), (8, true), (9, true), (10, true), (11, true), (12, true), (13, true), (14, true), (15, true), (16, true), (17, true), (18, true), (19, true), (20, true), (21, true), (22, true), (23, true), (24, true), (25, true), (26, true), (27, true), (28, true)] rfl (by kernel_rfl) (by kernel_rfl) (fun d _ _ _ _ h => by cases d <;> exact h) ?_
    iterate 3 (refine wpB_fix rfl rfl (fun W hW => by go_simp; with_reducible rfl) ?_; simp only [pTs, pTn, pTz, pTc])
    refine wpB_fix (v := vi y) rfl rfl (fun W hW => by have e : W.cell? ⟨b, o + k, none⟩ = some (vi y) := (hW.cell (p := ⟨b, o + k, none⟩) hl1).trans hc0; go_simp) ?_; simp only [pTs, pTn, pTz, pTc]
    iterate 5 (refine wpB_fix rfl rfl (fun W hW => by go_simp; with_reducible rfl) ?_; simp only [pTs, pTn, pTz, pTc])
    refine wpB_fix (v := vi y) rfl rfl (fun W hW => by have e : W.cell? ⟨b, o + k, none⟩ = some (vi y) := (hW.cell (p := ⟨b, o + k, none⟩) hl1).trans hc0; go_simp) ?_; simp only [pTs, pTn, pTz, pTc]
    iterate 4 (refine wpB_fix rfl rfl (fun W hW => by go_simp; with_reducible rfl) ?_; simp only [pTs, pTn, pTz, pTc])
    iterate 14 (refine wpB_skip rfl rfl ?_; simp only [pTs, pTn, pTz, pTc])
    refine wpB_fix rfl rfl (fun W hW => by go_simp; with_reducible rfl) ?_; simp only [pTs, pTn, pTz, pTc]
    simp only [wpB]
    go_wp2
    go_ret
    exact ⟨by simp [HF.out], hB.drew⟩
   have e2 : decide (most < y) = false := by simpa using hy2
   have HPY : Hid (inB y 1 most = true) := Lib.hid (by simp [inB]; omega)
   by_cases h0 : (0 : Int) < (k : Int)
   ·obtain ⟨m, hm⟩ : ∃ m, k = m + 1 := ⟨k - 1, by omega⟩
    obtain ⟨x, hx⟩ : ∃ x, val[m]? = some x := ⟨_, List.getElem?_eq_getElem (by omega)⟩
    have hcell2 := HS.out.cell b o rfl _ _ hx
    have HC2 : Hid (∀ j, j < (encInt x).size → wr.cell? ⟨b, o + m * 1 + j, none⟩ = (encInt x)[j]?) := Lib.hid fun j hj => by rw [hB.cell (p := ⟨b, o + m * 1 + j, none⟩) hb]; exact hcell2 j hj
    have HX := Lib.hid hx
    have HM := Lib.hid hm
    have hd : decide ((0 : Int) < (k : Int)) = true := by simpa using h0
    have hs1 : IntKind.i64.wrap ((k : Int) - 1) = (m : Int) := by rw [hm, show ((m + 1 : Nat) : Int) - 1 = (m : Int) by omega]; exact IntWalk.i64_in _ (by omega)
    have hs2 : wrap64 ((k : Int) - 1) = (m : Int) := by unfold wrap64; omega
    have hi2 : (m : Int) < (val.length : Int) := by omega
    clear hx hcell2 hm
    have hc1 : wr.cell? ⟨b, o + m, none⟩ = some (vi x) := by simpa [encInt] using HC2.out 0 (show (0 : Nat) < 1 by decide)
    by_cases hxy : x < y
    ·have e3 : decide (y ≤ x) = false := by simp; omega
     have hR : Hid (decide (x < y) = true) := Lib.hid (by simpa using hxy)
     go_wp2
     refine wp_region_ord [(0, true), (1, true), (2, true), (3, true), (4, true), (5, true), (6, true), (7, true), (8, true), (9, true), (10, true), (11, true), (12, true), (13, true), (14, true), (15, true), (16, true), (17, true), (18, true), (19, true), (20, true), (21, true), (22, true), (23, true), (24, true), (25, true), (26, true), (27, true), (28, true)] rfl (by kernel_rfl) (by kernel_rfl) (fun d _ _ _ _ h => by cases d <;> exact h) ?_
     iterate 3 (refine wpB_fix rfl rfl (fun W hW => by go_simp; with_reducible rfl) ?_; simp only [pTs, pTn, pTz, pTc])
     refine wpB_fix (v := vi y) rfl rfl (fun W hW => by have e : W.cell? ⟨b, o + k, none⟩ = some (vi y) := (hW.cell (p := ⟨b, o + k, none⟩) hl1).trans hc0; go_simp) ?_; simp only [pTs, pTn, pTz, pTc]
     iterate 5 (refine wpB_fix rfl rfl (fun W hW => by go_simp; with_reducible rfl) ?_; simp only [pTs, pTn, pTz, pTc])
     refine wpB_fix (v := vi y) rfl rfl (fun W hW => by have e : W.cell? ⟨b, o + k, none⟩ = some (vi y) := (hW.cell (p := ⟨b, o + k, none⟩) hl1).trans hc0; go_simp) ?_; simp only [pTs, pTn, pTz, pTc]
     iterate 5 (refine wpB_fix rfl rfl (fun W hW => by go_simp; with_reducible rfl) ?_; simp only [pTs, pTn, pTz, pTc])
     refine wpB_fix (v := .bool true) rfl rfl (fun W hW => by have h00 : 0 < k := (by omega); go_simp) ?_; simp only [pTs, pTn, pTz, pTc]
     iterate 4 (refine wpB_fix rfl rfl (fun W hW => by go_simp; with_reducible rfl) ?_; simp only [pTs, pTn, pTz, pTc])
     refine wpB_fix (v := vi y) rfl rfl (fun W hW => by have e : W.cell? ⟨b, o + k, none⟩ = some (vi y) := (hW.cell (p := ⟨b, o + k, none⟩) hl1).trans hc0; go_simp) ?_; simp only [pTs, pTn, pTz, pTc]
     iterate 4 (refine wpB_fix rfl rfl (fun W hW => by go_simp; with_reducible rfl) ?_; simp only [pTs, pTn, pTz, pTc])
     refine wpB_fix (v := vi x) rfl rfl (fun W hW => by have e : W.cell? ⟨b, o + m, none⟩ = some (vi x) := (hW.cell (p := ⟨b, o + m, none⟩) hl1).trans hc1; go_simp) ?_; simp only [pTs, pTn, pTz, pTc]
     iterate 3 (refine wpB_fix rfl rfl (fun W hW => by go_simp; with_reducible rfl) ?_; simp only [pTs, pTn, pTz, pTc])
     simp only [wpB]
     go_wp2
     go_roundw
     case rel => exact ⟨k + 1, by omega, by go_num, Lib.hid (by have h := upB_step HX.out (l := val) (m := m) (by rw [← HM.out]; exact HY.out) (by rw [← HM.out]; exact hn.out); rw [← HM.out] at h; exact h.trans (congr (congrArg and HPY.out) hR.out)), hB.drew⟩
     case measure => simp [intOf]; omega
    ·have e3 : decide (y ≤ x) = true := by simp; omega
     have hR : Hid (decide (x < y) = false) := Lib.hid (by simpa using hxy)
     have HF : Hid (upB (fun n => inB n 1 most) (fun a b => decide (a < b)) val = false) := Lib.hid (upB_stop (k := k + 1) (by have h := upB_step HX.out (l := val) (m := m) (by rw [← HM.out]; exact HY.out) (by rw [← HM.out]; exact hn.out); rw [← HM.out] at h; exact h.trans (congr (congrArg and HPY.out) hR.out)))
     go_wp2
     refine wp_region_ord [(0, true), (1, true), (2, true), (3, true), (4, true), (5, true), (6, true), (7, true), (8, true), (9, true), (10, true), (11, true), (12, true), (13, true), (14, true), (15, true), (16, true), (17, true), (18, true), (19, true), (20, true), (21, true), (22, true), (23, true), (24, true), (25, true), (26, true), (27, true), (28, true)] rfl (by kernel_rfl) (by kernel_rfl) (fun d _ _ _ _ h => by cases d <;> exact h) ?_
     iterate 3 (refine wpB_fix rfl rfl (fun W hW => by go_simp; with_reducible rfl) ?_; simp only [pTs, pTn, pTz, pTc])
     refine wpB_fix (v := vi y) rfl rfl (fun W hW => by have e : W.cell? ⟨b, o + k, none⟩ = some (vi y) := (hW.cell (p := ⟨b, o + k, none⟩) hl1).trans hc0; go_simp) ?_; simp only [pTs, pTn, pTz, pTc]
     iterate 5 (refine wpB_fix rfl rfl (fun W hW => by go_simp; with_reducible rfl) ?_; simp only [pTs, pTn, pTz, pTc])
     refine wpB_fix (v := vi y) rfl rfl (fun W hW => by have e : W.cell? ⟨b, o + k, none⟩ = some (vi y) := (hW.cell (p := ⟨b, o + k, none⟩) hl1).trans hc0; go_simp) ?_; simp only [pTs, pTn, pTz, pTc]
     iterate 5 (refine wpB_fix rfl rfl (fun W hW => by go_simp; with_reducible rfl) ?_; simp only [pTs, pTn, pTz, pTc])
     refine wpB_fix (v := .bool true) rfl rfl (fun W hW => by have h00 : 0 < k := (by omega); go_simp) ?_; simp only [pTs, pTn, pTz, pTc]
     iterate 4 (refine wpB_fix rfl rfl (fun W hW => by go_simp; with_reducible rfl) ?_; simp only [pTs, pTn, pTz, pTc])
     refine wpB_fix (v := vi y) rfl rfl (fun W hW => by have e : W.cell? ⟨b, o + k, none⟩ = some (vi y) := (hW.cell (p := ⟨b, o + k, none⟩) hl1).trans hc0; go_simp) ?_; simp only [pTs, pTn, pTz, pTc]
     iterate 4 (refine wpB_fix rfl rfl (fun W hW => by go_simp; with_reducible rfl) ?_; simp only [pTs, pTn, pTz, pTc])
     refine wpB_fix (v := vi x) rfl rfl (fun W hW => by have e : W.cell? ⟨b, o + m, none⟩ = some (vi x) := (hW.cell (p := ⟨b, o + m, none⟩) hl1).trans hc1; go_simp) ?_; simp only [pTs, pTn, pTz, pTc]
     iterate 3 (refine wpB_fix rfl rfl (fun W hW => by go_simp; with_reducible rfl) ?_; simp only [pTs, pTn, pTz, pTc])
     simp only [wpB]
     go_wp2
     go_ret
     exact ⟨by simp [HF.out], hB.drew⟩
   ·have hd : decide ((0 : Int) < (k : Int)) = false := by simpa using h0
    have HK0 : Hid (k = 0) := Lib.hid (by omega)
    go_wp2
    refine wp_region_ord [(0, true), (1, true), (2, true), (3, true), (4, true), (5, true), (6, true), (7, true), (8, true), (9, true), (10, true), (11, true), (12, true), (13, true), (14, true), (15, true), (16, true), (17, true), (18, true), (19, true), (20, true), (21, true), (22, true), (23, true), (24, true), (25, true), (26, true), (27, true), (28, true)] rfl (by kernel_rfl) (by kernel_rfl) (fun d _ _ _ _ h => by cases d <;> exact h) ?_
    iterate 3 (refine wpB_fix rfl rfl (fun W hW => by go_simp; with_reducible rfl) ?_; simp only [pTs, pTn, pTz, pTc])
    refine wpB_fix (v := vi y) rfl rfl (fun W hW => by have e : W.cell? ⟨b, o + k, none⟩ = some (vi y) := (hW.cell (p := ⟨b, o + k, none⟩) hl1).trans hc0; go_simp) ?_; simp only [pTs, pTn, pTz, pTc]
    iterate 5 (refine wpB_fix rfl rfl (fun W hW => by go_simp; with_reducible rfl) ?_; simp only [pTs, pTn, pTz, pTc])
    refine wpB_fix (v := vi y) rfl rfl (fun W hW => by have e : W.cell? ⟨b, o + k, none⟩ = some (vi y) := (hW.cell (p := ⟨b, o + k, none⟩) hl1).trans hc0; go_simp) ?_; simp only [pTs, pTn, pTz, pTc]
    iterate 5 (refine wpB_fix rfl rfl (fun W hW => by go_simp; with_reducible rfl) ?_; simp only [pTs, pTn, pTz, pTc])
    refine wpB_fix (v := .bool false) rfl rfl (fun W hW => by have h00 : k = 0 := HK0.out; go_simp) ?_; simp only [pTs, pTn, pTz, pTc]
    refine wpB_fix rfl rfl (fun W hW => by go_simp; with_reducible rfl) ?_; simp only [pTs, pTn, pTz, pTc]
    iterate 10 (refine wpB_skip rfl rfl ?_; simp only [pTs, pTn, pTz, pTc])
    iterate 2 (refine wpB_fix rfl rfl (fun W hW => by go_simp; with_reducible rfl) ?_; simp only [pTs, pTn, pTz, pTc])
    simp only [wpB]
    go_wp2
    go_roundw
    case rel => exact ⟨k + 1, by omega, by go_num, Lib.hid (by rw [HK0.out] at HY ⊢; rw [upB_one HY.out]; exact HPY.out), hB.drew⟩
    case measure => simp [intOf]; omega
  ·have HH := Lib.hid (upB_end hn.out (by omega))
   go_wp2
   go_ret
   exact ⟨by simp [HH.out], hB⟩
def refMarksB (l : List Mark) : Bool := decide ((l.length : Int) ≤ 32) && upB (fun x : Mark => inB x.at_ 0 16 && inB x.tone 1 16) earlierB l
theorem marks_ref (D : Nat → Prop) (s : Sl Mark) (w : World) (hs : s.OK 3 encMark okMark D w) :
  Calls Tryz.prog 214 #[.slice s.a s.val.length s.cap ] w fun e w' => e = .returned (.bool (refMarksB s.val)) ∧ Below w.heap.size w w' := by
 have hroom := hs.room
 have HS := Lib.hid hs
 clear hs
 obtain ⟨a, cap, val⟩ := s
 simp only at hroom
 by_cases hlo : (32 : Int) < (val.length : Int)
 ·go_enter Tryz.func214, Tryz.ntmps214
  go_wp2
  go_ret
  exact ⟨by simp [refMarksB]; omega, Below.refl _ _⟩
 have HL : Hid (refMarksB val = upB (fun x : Mark => inB x.at_ 0 16 && inB x.tone 1 16) earlierB val) := Lib.hid (by
  have h : decide ((val.length : Int) ≤ 32) = true := by simp; omega
  simp [refMarksB, h])
 rw [HL.out]
 go_enter Tryz.func214, Tryz.ntmps214
 go_wp2
 go_loopw [3] (fun i wr => ∃ k : Nat, k ≤ val.length ∧ i = .int .i64 k ∧ Hid (upB (fun x : Mark => inB x.at_ 0 16 && inB x.tone 1 16) earlierB (val.take k) = true) ∧ Below w.heap.size w wr) (fun i _ => val.length - (intOf i).toNat)
 case atStart => exact ⟨0, Nat.zero_le _, rfl, Lib.hid (upB_nil _ _ _), Below.refl _ _⟩
 case round =>
  obtain ⟨k, hk, rfl, hn, hB⟩ := hrel
  by_cases hlt : k < val.length
  ·obtain ⟨y, hy⟩ : ∃ y, val[k]? = some y := ⟨_, List.getElem?_eq_getElem hlt⟩
   obtain ⟨b, o, rfl, hb, _, hok, hcell⟩ := HS.out.at hy
   have hi1 : (k : Int) < (val.length : Int) := by omega
   have HY := Lib.hid hy
   have HC : Hid (∀ j, j < (encMark y).size → wr.cell? ⟨b, o + k * 3 + j, none⟩ = (encMark y)[j]?) := Lib.hid fun j hj => by rw [hB.cell (p := ⟨b, o + k * 3 + j, none⟩) hb]; exact hcell j hj
   have hl1 : b < wr.heap.size := Nat.lt_of_lt_of_le hb hB.size
   have HBAD : Hid (((fun x : Mark => inB x.at_ 0 16 && inB x.tone 1 16)) y = false → upB (fun x : Mark => inB x.at_ 0 16 && inB x.tone 1 16) earlierB val = false) := Lib.hid fun h => upB_bad hy h
   clear hy hcell hok
   have H1 := Lib.hid (within_ref y.at_ 0 16)
   have H2 := Lib.hid (within_ref y.tone 1 16)
   rcases e1 : inB y.at_ 0 16
   ·simp only [e1] at H1
    have HF := Lib.hid (HBAD.out (by simp [e1]))
    go_wp2
    refine wp_region_ord [(0, true), (1, true), (2, true), (3, true), (4, true), (5, false), (6, true), (7, true), (8, true), (9, true), (10, true), (11, true), (12, true), (13, false), (14, true), (15, true), (16, true), (17, true), (18, true), (19, true), (20, true), (21, true), (22, true), (23, true), (24, true), (25, true), (26, true), (27, true), (28, true), (29, false), (30, true), (31, true), (32, true)] rfl (by kernel_rfl) (by kernel_rfl) (fun d _ _ _ _ h => by cases d <;> exact h) ?_
    iterate 4 (refine wpB_fix rfl rfl (fun W hW => by go_simp; with_reducible rfl) ?_; simp only [pTs, pTn, pTz, pTc])
    refine wpB_fix (v := vi y.at_) rfl rfl (fun W hW => by have e : W.cell? ⟨b, o + k * 3 + 1, none⟩ = some (vi y.at_) := (hW.cell (p := ⟨b, o + k * 3 + 1, none⟩) hl1).trans (HC.out 1 (show 1 < 3 by decide)); go_simp) ?_; simp only [pTs, pTn, pTz, pTc]
    refine wpB_act rfl rfl (fun K hK => ?_)
    go_simp
    refine (H1.out _).mono ?_
    rintro e wq ⟨rfl, rfl⟩
    refine hK _ _ (Below.refl _ _) ?_
    clear hK K
    try simp only [pTs, pTn, pTz, pTc]
    iterate 2 (refine wpB_fix rfl rfl (fun W hW => by go_simp; with_reducible rfl) ?_; simp only [pTs, pTn, pTz, pTc])
    iterate 5 (refine wpB_skip rfl rfl ?_; simp only [pTs, pTn, pTz, pTc])
    refine wpB_skip_act rfl rfl ?_; simp only [pTs, pTn, pTz, pTc]
    refine wpB_skip rfl rfl ?_; simp only [pTs, pTn, pTz, pTc]
    iterate 2 (refine wpB_fix rfl rfl (fun W hW => by go_simp; with_reducible rfl) ?_; simp only [pTs, pTn, pTz, pTc])
    iterate 12 (refine wpB_skip rfl rfl ?_; simp only [pTs, pTn, pTz, pTc])
    refine wpB_skip_act rfl rfl ?_; simp only [pTs, pTn, pTz, pTc]
    iterate 2 (refine wpB_skip rfl rfl ?_; simp only [pTs, pTn, pTz, pTc])
    refine wpB_fix rfl rfl (fun W hW => by go_simp; with_reducible rfl) ?_; simp only [pTs, pTn, pTz, pTc]
    simp only [wpB]
    go_wp2
    go_ret
    exact ⟨by simp [HF.out], hB.drew⟩
   simp only [e1] at H1
   rcases e2 : inB y.tone 1 16
   ·simp only [e2] at H2
    have HF := Lib.hid (HBAD.out (by simp [e2]))
    go_wp2
    refine wp_region_ord [(0, true), (1, true), (2, true), (3, true), (4, true), (5, false), (6, true), (7, true), (8, true), (9, true), (10, true), (11, true), (12, true), (13, false), (14, true), (15, true), (16, true), (17, true), (18, true), (19, true), (20, true), (21, true), (22, true), (23, true), (24, true), (25, true), (26, true), (27, true), (28, true), (29, false), (30, true), (31, true), (32, true)] rfl (by kernel_rfl) (by kernel_rfl) (fun d _ _ _ _ h => by cases d <;> exact h) ?_
    iterate 4 (refine wpB_fix rfl rfl (fun W hW => by go_simp; with_reducible rfl) ?_; simp only [pTs, pTn, pTz, pTc])
    refine wpB_fix (v := vi y.at_) rfl rfl (fun W hW => by have e : W.cell? ⟨b, o + k * 3 + 1, none⟩ = some (vi y.at_) := (hW.cell (p := ⟨b, o + k * 3 + 1, none⟩) hl1).trans (HC.out 1 (show 1 < 3 by decide)); go_simp) ?_; simp only [pTs, pTn, pTz, pTc]
    refine wpB_act rfl rfl (fun K hK => ?_)
    go_simp
    refine (H1.out _).mono ?_
    rintro e wq ⟨rfl, rfl⟩
    refine hK _ _ (Below.refl _ _) ?_
    clear hK K
    try simp only [pTs, pTn, pTz, pTc]
    iterate 6 (refine wpB_fix rfl rfl (fun W hW => by go_simp; with_reducible rfl) ?_; simp only [pTs, pTn, pTz, pTc])
    refine wpB_fix (v := vi y.tone) rfl rfl (fun W hW => by have e : W.cell? ⟨b, o + k * 3 + 2, none⟩ = some (vi y.tone) := (hW.cell (p := ⟨b, o + k * 3 + 2, none⟩) hl1).trans (HC.out 2 (show 2 < 3 by decide)); go_simp) ?_; simp only [pTs, pTn, pTz, pTc]
    refine wpB_act rfl rfl (fun K hK => ?_)
    go_simp
    refine (H2.out _).mono ?_
    rintro e wq ⟨rfl, rfl⟩
    refine hK _ _ (Below.refl _ _) ?_
    clear hK K
    try simp only [pTs, pTn, pTz, pTc]
    iterate 3 (refine wpB_fix rfl rfl (fun W hW => by go_simp; with_reducible rfl) ?_; simp only [pTs, pTn, pTz, pTc])
    iterate 12 (refine wpB_skip rfl rfl ?_; simp only [pTs, pTn, pTz, pTc])
    refine wpB_skip_act rfl rfl ?_; simp only [pTs, pTn, pTz, pTc]
    iterate 2 (refine wpB_skip rfl rfl ?_; simp only [pTs, pTn, pTz, pTc])
    refine wpB_fix rfl rfl (fun W hW => by go_simp; with_reducible rfl) ?_; simp only [pTs, pTn, pTz, pTc]
    simp only [wpB]
    go_wp2
    go_ret
    exact ⟨by simp [HF.out], hB.drew⟩
   simp only [e2] at H2
   have HPY : Hid ((fun x : Mark => inB x.at_ 0 16 && inB x.tone 1 16) y = true) := Lib.hid (by simp [e1, e2])
   by_cases h0 : (0 : Int) < (k : Int)
   ·obtain ⟨m, hm⟩ : ∃ m, k = m + 1 := ⟨k - 1, by omega⟩
    obtain ⟨x, hx⟩ : ∃ x, val[m]? = some x := ⟨_, List.getElem?_eq_getElem (by omega)⟩
    have hcell2 := HS.out.cell b o rfl _ _ hx
    have HC2 : Hid (∀ j, j < (encMark x).size → wr.cell? ⟨b, o + m * 3 + j, none⟩ = (encMark x)[j]?) := Lib.hid fun j hj => by rw [hB.cell (p := ⟨b, o + m * 3 + j, none⟩) hb]; exact hcell2 j hj
    have HX := Lib.hid hx
    have HM := Lib.hid hm
    have hd : decide ((0 : Int) < (k : Int)) = true := by simpa using h0
    have hs1 : IntKind.i64.wrap ((k : Int) - 1) = (m : Int) := by rw [hm, show ((m + 1 : Nat) : Int) - 1 = (m : Int) by omega]; exact IntWalk.i64_in _ (by omega)
    have hs2 : wrap64 ((k : Int) - 1) = (m : Int) := by unfold wrap64; omega
    have hi2 : (m : Int) < (val.length : Int) := by omega
    clear hx hcell2 hm
    have HE := Lib.hid (earlier_ref x y)
    rcases hxy : earlierB x y
    ·simp only [hxy] at HE
     have hR : Hid (earlierB x y = false) := Lib.hid hxy
     have HF : Hid (upB (fun x : Mark => inB x.at_ 0 16 && inB x.tone 1 16) earlierB val = false) := Lib.hid (upB_stop (k := k + 1) (by have h := upB_step HX.out (l := val) (m := m) (by rw [← HM.out]; exact HY.out) (by rw [← HM.out]; exact hn.out); rw [← HM.out] at h; exact h.trans (congr (congrArg and HPY.out) hR.out)))
     go_wp2
     refine wp_region_ord [(0, true), (1, true), (2, true), (3, true), (4, true), (5, false), (6, true), (7, true), (8, true), (9, true), (10, true), (11, true), (12, true), (13, false), (14, true), (15, true), (16, true), (17, true), (18, true), (19, true), (20, true), (21, true), (22, true), (23, true), (24, true), (25, true), (26, true), (27, true), (28, true), (29, false), (30, true), (31, true), (32, true)] rfl (by kernel_rfl) (by kernel_rfl) (fun d _ _ _ _ h => by cases d <;> exact h) ?_
     iterate 4 (refine wpB_fix rfl rfl (fun W hW => by go_simp; with_reducible rfl) ?_; simp only [pTs, pTn, pTz, pTc])
     refine wpB_fix (v := vi y.at_) rfl rfl (fun W hW => by have e : W.cell? ⟨b, o + k * 3 + 1, none⟩ = some (vi y.at_) := (hW.cell (p := ⟨b, o + k * 3 + 1, none⟩) hl1).trans (HC.out 1 (show 1 < 3 by decide)); go_simp) ?_; simp only [pTs, pTn, pTz, pTc]
     refine wpB_act rfl rfl (fun K hK => ?_)
     go_simp
     refine (H1.out _).mono ?_
     rintro e wq ⟨rfl, rfl⟩
     refine hK _ _ (Below.refl _ _) ?_
     clear hK K
     try simp only [pTs, pTn, pTz, pTc]
     iterate 6 (refine wpB_fix rfl rfl (fun W hW => by go_simp; with_reducible rfl) ?_; simp only [pTs, pTn, pTz, pTc])
     refine wpB_fix (v := vi y.tone) rfl rfl (fun W hW => by have e : W.cell? ⟨b, o + k * 3 + 2, none⟩ = some (vi y.tone) := (hW.cell (p := ⟨b, o + k * 3 + 2, none⟩) hl1).trans (HC.out 2 (show 2 < 3 by decide)); go_simp) ?_; simp only [pTs, pTn, pTz, pTc]
     refine wpB_act rfl rfl (fun K hK => ?_)
     go_simp
     refine (H2.out _).mono ?_
     rintro e wq ⟨rfl, rfl⟩
     refine hK _ _ (Below.refl _ _) ?_
     clear hK K
     try simp only [pTs, pTn, pTz, pTc]
     iterate 4 (refine wpB_fix rfl rfl (fun W hW => by go_simp; with_reducible rfl) ?_; simp only [pTs, pTn, pTz, pTc])
     refine wpB_fix (v := .bool true) rfl rfl (fun W hW => by have h00 : 0 < k := (by omega); go_simp) ?_; simp only [pTs, pTn, pTz, pTc]
     iterate 5 (refine wpB_fix rfl rfl (fun W hW => by go_simp; with_reducible rfl) ?_; simp only [pTs, pTn, pTz, pTc])
     refine wpB_fix (v := .agg (encMark x)) rfl rfl (fun W hW => run_load_mem (encMark x) rfl (fun j hj => (hW.cell (p := ⟨b, o + m * 3 + j, none⟩) hl1).trans (HC2.out j hj)) Tryz.underlying195 rfl (by kernel_rfl)) ?_; simp only [pTs, pTn, pTz, pTc]
     iterate 3 (refine wpB_fix rfl rfl (fun W hW => by go_simp; with_reducible rfl) ?_; simp only [pTs, pTn, pTz, pTc])
     refine wpB_fix (v := .agg (encMark y)) rfl rfl (fun W hW => run_load_mem (encMark y) rfl (fun j hj => (hW.cell (p := ⟨b, o + k * 3 + j, none⟩) hl1).trans (HC.out j hj)) Tryz.underlying195 rfl (by kernel_rfl)) ?_; simp only [pTs, pTn, pTz, pTc]
     refine wpB_act rfl rfl (fun K hK => ?_)
     go_simp
     refine (HE.out _).mono ?_
     rintro e w1 ⟨rfl, hb1⟩
     have hB1 := Below.call hB.drew hb1 (Nat.le_refl _)
     refine hK _ _ hb1 ?_
     clear hK K
     try simp only [pTs, pTn, pTz, pTc]
     iterate 3 (refine wpB_fix rfl rfl (fun W hW => by go_simp; with_reducible rfl) ?_; simp only [pTs, pTn, pTz, pTc])
     simp only [wpB]
     go_wp2
     go_ret
     exact ⟨by simp [HF.out], hB1⟩
    ·simp only [hxy] at HE
     have hR : Hid (earlierB x y = true) := Lib.hid hxy
     go_wp2
     refine wp_region_ord [(0, true), (1, true), (2, true), (3, true), (4, true), (5, false), (6, true), (7, true), (8, true), (9, true), (10, true), (11, true), (12, true), (13, false), (14, true), (15, true), (16, true), (17, true), (18, true), (19, true), (20, true), (21, true), (22, true), (23, true), (24, true), (25, true), (26, true), (27, true), (28, true), (29, false), (30, true), (31, true), (32, true)] rfl (by kernel_rfl) (by kernel_rfl) (fun d _ _ _ _ h => by cases d <;> exact h) ?_
     iterate 4 (refine wpB_fix rfl rfl (fun W hW => by go_simp; with_reducible rfl) ?_; simp only [pTs, pTn, pTz, pTc])
     refine wpB_fix (v := vi y.at_) rfl rfl (fun W hW => by have e : W.cell? ⟨b, o + k * 3 + 1, none⟩ = some (vi y.at_) := (hW.cell (p := ⟨b, o + k * 3 + 1, none⟩) hl1).trans (HC.out 1 (show 1 < 3 by decide)); go_simp) ?_; simp only [pTs, pTn, pTz, pTc]
     refine wpB_act rfl rfl (fun K hK => ?_)
     go_simp
     refine (H1.out _).mono ?_
     rintro e wq ⟨rfl, rfl⟩
     refine hK _ _ (Below.refl _ _) ?_
     clear hK K
     try simp only [pTs, pTn, pTz, pTc]
     iterate 6 (refine wpB_fix rfl rfl (fun W hW => by go_simp; with_reducible rfl) ?_; simp only [pTs, pTn, pTz, pTc])
     refine wpB_fix (v := vi y.tone) rfl rfl (fun W hW => by have e : W.cell? ⟨b, o + k * 3 + 2, none⟩ = some (vi y.tone) := (hW.cell (p := ⟨b, o + k * 3 + 2, none⟩) hl1).trans (HC.out 2 (show 2 < 3 by decide)); go_simp) ?_; simp only [pTs, pTn, pTz, pTc]
     refine wpB_act rfl rfl (fun K hK => ?_)
     go_simp
     refine (H2.out _).mono ?_
     rintro e wq ⟨rfl, rfl⟩
     refine hK _ _ (Below.refl _ _) ?_
     clear hK K
     try simp only [pTs, pTn, pTz, pTc]
     iterate 4 (refine wpB_fix rfl rfl (fun W hW => by go_simp; with_reducible rfl) ?_; simp only [pTs, pTn, pTz, pTc])
     refine wpB_fix (v := .bool true) rfl rfl (fun W hW => by have h00 : 0 < k := (by omega); go_simp) ?_; simp only [pTs, pTn, pTz, pTc]
     iterate 5 (refine wpB_fix rfl rfl (fun W hW => by go_simp; with_reducible rfl) ?_; simp only [pTs, pTn, pTz, pTc])
     refine wpB_fix (v := .agg (encMark x)) rfl rfl (fun W hW => run_load_mem (encMark x) rfl (fun j hj => (hW.cell (p := ⟨b, o + m * 3 + j, none⟩) hl1).trans (HC2.out j hj)) Tryz.underlying195 rfl (by kernel_rfl)) ?_; simp only [pTs, pTn, pTz, pTc]
     iterate 3 (refine wpB_fix rfl rfl (fun W hW => by go_simp; with_reducible rfl) ?_; simp only [pTs, pTn, pTz, pTc])
     refine wpB_fix (v := .agg (encMark y)) rfl rfl (fun W hW => run_load_mem (encMark y) rfl (fun j hj => (hW.cell (p := ⟨b, o + k * 3 + j, none⟩) hl1).trans (HC.out j hj)) Tryz.underlying195 rfl (by kernel_rfl)) ?_; simp only [pTs, pTn, pTz, pTc]
     refine wpB_act rfl rfl (fun K hK => ?_)
     go_simp
     refine (HE.out _).mono ?_
     rintro e w1 ⟨rfl, hb1⟩
     have hB1 := Below.call hB.drew hb1 (Nat.le_refl _)
     refine hK _ _ hb1 ?_
     clear hK K
     try simp only [pTs, pTn, pTz, pTc]
     iterate 3 (refine wpB_fix rfl rfl (fun W hW => by go_simp; with_reducible rfl) ?_; simp only [pTs, pTn, pTz, pTc])
     simp only [wpB]
     go_wp2
     go_roundw
     case rel => exact ⟨k + 1, by omega, by go_num, Lib.hid (by have h := upB_step HX.out (l := val) (m := m) (by rw [← HM.out]; exact HY.out) (by rw [← HM.out]; exact hn.out); rw [← HM.out] at h; exact h.trans (congr (congrArg and HPY.out) hR.out)), hB1⟩
     case measure => simp [intOf]; omega
   ·have hd : decide ((0 : Int) < (k : Int)) = false := by simpa using h0
    have HK0 : Hid (k = 0) := Lib.hid (by omega)
    go_wp2
    refine wp_region_ord [(0, true), (1, true), (2, true), (3, true), (4, true), (5, false), (6, true), (7, true), (8, true), (9, true), (10, true), (11, true), (12, true), (13, false), (14, true), (15, true), (16, true), (17, true), (18, true), (19, true), (20, true), (21, true), (22, true), (23, true), (24, true), (25, true), (26, true), (27, true), (28, true), (29, false), (30, true), (31, true), (32, true)] rfl (by kernel_rfl) (by kernel_rfl) (fun d _ _ _ _ h => by cases d <;> exact h) ?_
    iterate 4 (refine wpB_fix rfl rfl (fun W hW => by go_simp; with_reducible rfl) ?_; simp only [pTs, pTn, pTz, pTc])
    refine wpB_fix (v := vi y.at_) rfl rfl (fun W hW => by have e : W.cell? ⟨b, o + k * 3 + 1, none⟩ = some (vi y.at_) := (hW.cell (p := ⟨b, o + k * 3 + 1, none⟩) hl1).trans (HC.out 1 (show 1 < 3 by decide)); go_simp) ?_; simp only [pTs, pTn, pTz, pTc]
    refine wpB_act rfl rfl (fun K hK => ?_)
    go_simp
    refine (H1.out _).mono ?_
    rintro e wq ⟨rfl, rfl⟩
    refine hK _ _ (Below.refl _ _) ?_
    clear hK K
    try simp only [pTs, pTn, pTz, pTc]
    iterate 6 (refine wpB_fix rfl rfl (fun W hW => by go_simp; with_reducible rfl) ?_; simp only [pTs, pTn, pTz, pTc])
    refine wpB_fix (v := vi y.tone) rfl rfl (fun W hW => by have e : W.cell? ⟨b, o + k * 3 + 2, none⟩ = some (vi y.tone) := (hW.cell (p := ⟨b, o + k * 3 + 2, none⟩) hl1).trans (HC.out 2 (show 2 < 3 by decide)); go_simp) ?_; simp only [pTs, pTn, pTz, pTc]
    refine wpB_act rfl rfl (fun K hK => ?_)
    go_simp
    refine (H2.out _).mono ?_
    rintro e wq ⟨rfl, rfl⟩
    refine hK _ _ (Below.refl _ _) ?_
    clear hK K
    try simp only [pTs, pTn, pTz, pTc]
    iterate 4 (refine wpB_fix rfl rfl (fun W hW => by go_simp; with_reducible rfl) ?_; simp only [pTs, pTn, pTz, pTc])
    refine wpB_fix (v := .bool false) rfl rfl (fun W hW => by have h00 : k = 0 := HK0.out; go_simp) ?_; simp only [pTs, pTn, pTz, pTc]
    refine wpB_fix rfl rfl (fun W hW => by go_simp; with_reducible rfl) ?_; simp only [pTs, pTn, pTz, pTc]
    iterate 9 (refine wpB_skip rfl rfl ?_; simp only [pTs, pTn, pTz, pTc])
    refine wpB_skip_act rfl rfl ?_; simp only [pTs, pTn, pTz, pTc]
    refine wpB_skip rfl rfl ?_; simp only [pTs, pTn, pTz, pTc]
    iterate 2 (refine wpB_fix rfl rfl (fun W hW => by go_simp; with_reducible rfl) ?_; simp only [pTs, pTn, pTz, pTc])
    simp only [wpB]
    go_wp2
    go_roundw
    case rel => exact ⟨k + 1, by omega, by go_num, Lib.hid (by rw [HK0.out] at HY ⊢; rw [upB_one HY.out]; exact HPY.out), hB.drew⟩
    case measure => simp [intOf]; omega
  ·have HH := Lib.hid (upB_end hn.out (by omega))
   go_wp2
   go_ret
   exact ⟨by simp [HH.out], hB⟩
theorem refMarks_eq {l : List Mark} {n : Int} (h : ∀ (j : Nat) y, l[j]? = some y → inB y.edge 0 (n - 1) = true) : validMarksB l n = refMarksB l := by
 unfold validMarksB refMarksB upB
 have h1 : (!(l.any (badMarkB n))) = l.all (fun x : Mark => inB x.at_ 0 16 && inB x.tone 1 16) := by
  rw [List.not_any_eq_all_not]
  have hm : ∀ y ∈ l, inB y.edge 0 (n - 1) = true := fun y hy => by
   obtain ⟨j, hj⟩ := List.getElem?_of_mem hy
   exact h j y hj
  clear h
  induction l with
  | nil => rfl
  | cons x r ih =>
   simp only [List.all_cons]
   rw [ih (fun y hy => hm y (List.mem_cons_of_mem _ hy))]
   have hx := hm x (by simp)
   congr 1
   simp [badMarkB, hx]
 rw [h1]
 have h2 : risingMarksB l = chainB earlierB l := rfl
 rw [h2, Bool.and_assoc]
 congr 1
 exact Bool.and_comm _ _
theorem marks_badEdge {l : List Mark} {n : Int} {k : Nat} {y : Mark} (hy : l[k]? = some y) (h : inB y.edge 0 (n - 1) = false) : validMarksB l n = false := by
 have : l.any (badMarkB n) = true := List.any_eq_true.2 ⟨y, List.mem_of_getElem? hy, by simp [badMarkB, h]⟩
 simp [validMarksB, this]
theorem validPiece_ref (D : Nat → Prop) (p : Piece) (w : World) (hp : okPiece D w p) :
  Calls Tryz.prog 176 #[.agg (encPiece p)] w fun e w' => e = .returned (.bool (validPieceB p)) ∧ Below w.heap.size w w' := by
 obtain ⟨i1, i2, i3, i4, i5, ⟨ga, gc, gv⟩, ⟨ma, mc, mv⟩⟩ := p
 have HG1 : Hid (Sl.OK 5 encGauge okGauge D w ⟨ga, gc, gv⟩) := Lib.hid hp.2.2.2.2.2.1
 have HM1 : Hid (Sl.OK 3 encMark okMark D w ⟨ma, mc, mv⟩) := Lib.hid hp.2.2.2.2.2.2
 clear hp
 have hr1 : gv.length ≤ 4294967296 := HG1.out.room
 have hr2 : mv.length ≤ 4294967296 := HM1.out.room
 have hbA0 : BoxAt (w.alloc (.cells (encPiece ⟨i1, i2, i3, i4, i5, ⟨ga, gc, gv⟩, ⟨ma, mc, mv⟩⟩) 76)) w.heap.size 76 (encPiece ⟨i1, i2, i3, i4, i5, ⟨ga, gc, gv⟩, ⟨ma, mc, mv⟩⟩) := BoxAt.new _ _ _
 have hB0 : Below w.heap.size w (w.alloc (.cells (encPiece ⟨i1, i2, i3, i4, i5, ⟨ga, gc, gv⟩, ⟨ma, mc, mv⟩⟩) 76)) := (Below.refl _ _).alloc (Nat.le_refl _) _
 have hs1 : IntKind.i64.wrap ((gv.length : Int) - 1) = (gv.length : Int) - 1 := IntWalk.i64_in _ (by omega)
 have hs2 : wrap64 ((gv.length : Int) - 1) = (gv.length : Int) - 1 := by unfold wrap64; omega
 have HGC : Hid (∀ W, Below w.heap.size w W → Calls Tryz.prog 213 #[.slice ga gv.length gc] W fun e w' => e = .returned (.bool (validGaugesB gv)) ∧ Below W.heap.size W w') := Lib.hid fun W hW => gauges_ref D ⟨ga, gc, gv⟩ W (HG1.out.ext (w := w) (fun _ h => h) (.of_below hW))
 have HMC : Hid (∀ W, Below w.heap.size w W → Calls Tryz.prog 214 #[.slice ma mv.length mc] W fun e w' => e = .returned (.bool (refMarksB mv)) ∧ Below W.heap.size W w') := Lib.hid fun W hW => marks_ref D ⟨ma, mc, mv⟩ W (HM1.out.ext (w := w) (fun _ h => h) (.of_below hW))
 go_enter Tryz.func176, Tryz.ntmps176
 go_wp2
 go_loopw [3] (fun i wr => ∃ k : Nat, k ≤ mv.length ∧ i = .int .i64 k ∧ Hid (∀ (j : Nat) y, j < k → mv[j]? = some y → inB y.edge 0 ((gv.length : Int) - 1) = true) ∧ BoxAt wr w.heap.size 76 (encPiece ⟨i1, i2, i3, i4, i5, ⟨ga, gc, gv⟩, ⟨ma, mc, mv⟩⟩) ∧ Below w.heap.size w wr) (fun i _ => mv.length - (intOf i).toNat)
 case atStart => exact ⟨0, Nat.zero_le _, rfl, Lib.hid (by omega), hbA0, hB0⟩
 case round =>
  clear hbA0 hB0
  obtain ⟨k, hk, rfl, hn, hbA, hB⟩ := hrel
  have hcA : wr.cell? ⟨w.heap.size, 6, none⟩ = some (.slice ma mv.length mc) := (hbA.cell 6).trans rfl
  by_cases hlt : k < mv.length
  ·obtain ⟨y, hy⟩ : ∃ y, mv[k]? = some y := ⟨_, List.getElem?_eq_getElem hlt⟩
   have hi1 : (k : Int) < (mv.length : Int) := by omega
   obtain ⟨b, o, rfl, hb, _, hok, hcell⟩ := HM1.out.at hy
   have HC : Hid (∀ j, j < (encMark y).size → wr.cell? ⟨b, o + k * 3 + j, none⟩ = (encMark y)[j]?) := Lib.hid fun j hj => by rw [hB.cell (p := ⟨b, o + k * 3 + j, none⟩) hb]; exact hcell j hj
   have hl1 : b < wr.heap.size := Nat.lt_of_lt_of_le hb hB.size
   have HY := Lib.hid hy
   have HW1 := Lib.hid (within_ref y.edge 0 ((gv.length : Int) - 1))
   clear hy hok hcell
   rcases hv : inB y.edge 0 ((gv.length : Int) - 1)
   ·simp only [hv] at HW1
    have HF : Hid (validPieceB ⟨i1, i2, i3, i4, i5, ⟨ga, gc, gv⟩, ⟨some ⟨b, o, none⟩, mc, mv⟩⟩ = false) := Lib.hid (by simp only [validPieceB]; rw [marks_badEdge HY.out hv]; simp)
    go_wp2
    refine wp_region_ord [(0, true), (1, true), (2, true), (3, true), (4, true), (5, true), (6, true), (7, true), (8, true), (9, true), (10, false), (11, true)] rfl (by kernel_rfl) (by kernel_rfl) (fun d _ _ _ _ h => by cases d <;> exact h) ?_
    refine wpB_fix rfl rfl (fun W hW => by go_simp; with_reducible rfl) ?_; simp only [pTs, pTn, pTz, pTc]
    refine wpB_fix (v := .slice (some ⟨b, o, none⟩) mv.length mc) rfl rfl (fun W hW => by have e : W.cell? ⟨w.heap.size, 6, none⟩ = some (.slice (some ⟨b, o, none⟩) mv.length mc) := ((hbA.drew.belowAll hW).cell 6).trans rfl; go_simp) ?_; simp only [pTs, pTn, pTz, pTc]
    iterate 3 (refine wpB_fix rfl rfl (fun W hW => by go_simp; with_reducible rfl) ?_; simp only [pTs, pTn, pTz, pTc])
    refine wpB_fix (v := vi y.edge) rfl rfl (fun W hW => by have e : W.cell? ⟨b, o + k * 3, none⟩ = some (vi y.edge) := (hW.cell (p := ⟨b, o + k * 3, none⟩) hl1).trans (HC.out 0 (show 0 < 3 by decide)); go_simp) ?_; simp only [pTs, pTn, pTz, pTc]
    refine wpB_fix rfl rfl (fun W hW => by go_simp; with_reducible rfl) ?_; simp only [pTs, pTn, pTz, pTc]
    refine wpB_fix (v := .slice ga gv.length gc) rfl rfl (fun W hW => by have e : W.cell? ⟨w.heap.size, 5, none⟩ = some (.slice ga gv.length gc) := ((hbA.drew.belowAll hW).cell 5).trans rfl; go_simp) ?_; simp only [pTs, pTn, pTz, pTc]
    iterate 2 (refine wpB_fix rfl rfl (fun W hW => by go_simp; with_reducible rfl) ?_; simp only [pTs, pTn, pTz, pTc])
    refine wpB_act rfl rfl (fun K hK => ?_)
    go_simp
    refine (HW1.out _).mono ?_
    rintro e wq ⟨rfl, rfl⟩
    refine hK _ _ (Below.refl _ _) ?_
    clear hK K
    try simp only [pTs, pTn, pTz, pTc]
    refine wpB_fix rfl rfl (fun W hW => by go_simp; with_reducible rfl) ?_; simp only [pTs, pTn, pTz, pTc]
    simp only [wpB]
    go_wp2
    go_ret
    exact ⟨by simp [HF.out], hB.drew⟩
   ·simp only [hv] at HW1
    go_wp2
    refine wp_region_ord [(0, true), (1, true), (2, true), (3, true), (4, true), (5, true), (6, true), (7, true), (8, true), (9, true), (10, false), (11, true)] rfl (by kernel_rfl) (by kernel_rfl) (fun d _ _ _ _ h => by cases d <;> exact h) ?_
    refine wpB_fix rfl rfl (fun W hW => by go_simp; with_reducible rfl) ?_; simp only [pTs, pTn, pTz, pTc]
    refine wpB_fix (v := .slice (some ⟨b, o, none⟩) mv.length mc) rfl rfl (fun W hW => by have e : W.cell? ⟨w.heap.size, 6, none⟩ = some (.slice (some ⟨b, o, none⟩) mv.length mc) := ((hbA.drew.belowAll hW).cell 6).trans rfl; go_simp) ?_; simp only [pTs, pTn, pTz, pTc]
    iterate 3 (refine wpB_fix rfl rfl (fun W hW => by go_simp; with_reducible rfl) ?_; simp only [pTs, pTn, pTz, pTc])
    refine wpB_fix (v := vi y.edge) rfl rfl (fun W hW => by have e : W.cell? ⟨b, o + k * 3, none⟩ = some (vi y.edge) := (hW.cell (p := ⟨b, o + k * 3, none⟩) hl1).trans (HC.out 0 (show 0 < 3 by decide)); go_simp) ?_; simp only [pTs, pTn, pTz, pTc]
    refine wpB_fix rfl rfl (fun W hW => by go_simp; with_reducible rfl) ?_; simp only [pTs, pTn, pTz, pTc]
    refine wpB_fix (v := .slice ga gv.length gc) rfl rfl (fun W hW => by have e : W.cell? ⟨w.heap.size, 5, none⟩ = some (.slice ga gv.length gc) := ((hbA.drew.belowAll hW).cell 5).trans rfl; go_simp) ?_; simp only [pTs, pTn, pTz, pTc]
    iterate 2 (refine wpB_fix rfl rfl (fun W hW => by go_simp; with_reducible rfl) ?_; simp only [pTs, pTn, pTz, pTc])
    refine wpB_act rfl rfl (fun K hK => ?_)
    go_simp
    refine (HW1.out _).mono ?_
    rintro e wq ⟨rfl, rfl⟩
    refine hK _ _ (Below.refl _ _) ?_
    clear hK K
    try simp only [pTs, pTn, pTz, pTc]
    refine wpB_fix rfl rfl (fun W hW => by go_simp; with_reducible rfl) ?_; simp only [pTs, pTn, pTz, pTc]
    simp only [wpB]
    go_wp2
    go_roundw
    case rel =>
     refine ⟨k + 1, by omega, by go_num, Lib.hid fun j z hj hz => ?_, hbA.drew, hB.drew⟩
     rcases Nat.lt_succ_iff_lt_or_eq.1 hj with h | rfl
     ·exact hn.out j z h hz
     ·rw [HY.out] at hz; cases hz; exact hv
    case measure => simp [intOf]; omega
  ·have HEQ : Hid (validPieceB ⟨i1, i2, i3, i4, i5, ⟨ga, gc, gv⟩, ⟨ma, mc, mv⟩⟩ = ((inB i1 1 65535 && inB i2 1 16 && inB i3 1 16 && inB i4 0 9999 && inB i5 (-64) 64) && validGaugesB gv && refMarksB mv)) := Lib.hid (by
    simp only [validPieceB]
    rw [refMarks_eq (fun j y hy => hn.out j y (by have := (List.getElem?_eq_some_iff.1 hy).1; omega) hy)])
   have c0 : wr.cell? ⟨w.heap.size, 0, none⟩ = some (vi i1) := (hbA.cell 0).trans rfl
   have c1 : wr.cell? ⟨w.heap.size, 1, none⟩ = some (vi i2) := (hbA.cell 1).trans rfl
   have c2 : wr.cell? ⟨w.heap.size, 2, none⟩ = some (vi i3) := (hbA.cell 2).trans rfl
   have c3 : wr.cell? ⟨w.heap.size, 3, none⟩ = some (vi i4) := (hbA.cell 3).trans rfl
   have c4 : wr.cell? ⟨w.heap.size, 4, none⟩ = some (vi i5) := (hbA.cell 4).trans rfl
   have c5 : wr.cell? ⟨w.heap.size, 5, none⟩ = some (.slice ga gv.length gc) := (hbA.cell 5).trans rfl
   go_wp2_with (first
    | (go_at_call 212; refine (within_ref _ _ _ _).mono ?_; rintro e wq ⟨rfl, rfl⟩)
    | (go_at_call 213; refine (HGC.out _ hB).mono ?_; rintro e w3 ⟨rfl, hb3⟩; have hB3 := Below.call hB hb3 (Nat.le_refl _); have c6 : w3.cell? ⟨w.heap.size, 6, none⟩ = some (.slice ma mv.length mc) := ((hbA.belowAll hb3).cell 6).trans rfl)
    | (go_at_call 214; refine (HMC.out _ hB3).mono ?_; rintro e w4 ⟨rfl, hb4⟩; have hB4 := Below.call hB3 hb4 (Nat.le_refl _)))
   all_goals go_ret
   all_goals first
    | exact ⟨by simp [HEQ.out, *], hB4⟩
    | exact ⟨by simp [HEQ.out, *], hB3⟩
    | exact ⟨by simp [HEQ.out, *], hB⟩
theorem given_ref (D : Nat → Prop) (s : Sl Piece) (w : World) (hs : s.OK 7 encPiece okPiece D w) :
  Calls Tryz.prog 129 #[.slice s.a s.val.length s.cap ] w fun e w' => e = .returned (.bool (upB validPieceB (fun a b => decide (a.id < b.id)) s.val)) ∧ Below w.heap.size w w' := by
 have hroom := hs.room
 have HS := Lib.hid hs
 clear hs
 obtain ⟨a, cap, val⟩ := s
 simp only at hroom
 go_enter Tryz.func129, Tryz.ntmps129
 go_wp2
 go_loopw [3] (fun i wr => ∃ k : Nat, k ≤ val.length ∧ i = .int .i64 k ∧ Hid (upB validPieceB (fun a b => decide (a.id < b.id)) (val.take k) = true) ∧ Below w.heap.size w wr) (fun i _ => val.length - (intOf i).toNat)
 case atStart => exact ⟨0, Nat.zero_le _, rfl, Lib.hid (upB_nil _ _ _), Below.refl _ _⟩
 case round =>
  obtain ⟨k, hk, rfl, hn, hB⟩ := hrel
  by_cases hlt : k < val.length
  ·obtain ⟨y, hy⟩ : ∃ y, val[k]? = some y := ⟨_, List.getElem?_eq_getElem hlt⟩
   obtain ⟨b, o, rfl, hb, _, hok, hcell⟩ := HS.out.at hy
   have hi1 : (k : Int) < (val.length : Int) := by omega
   have HY := Lib.hid hy
   have HC : Hid (∀ j, j < (encPiece y).size → wr.cell? ⟨b, o + k * 7 + j, none⟩ = (encPiece y)[j]?) := Lib.hid fun j hj => by rw [hB.cell (p := ⟨b, o + k * 7 + j, none⟩) hb]; exact hcell j hj
   have hl1 : b < wr.heap.size := Nat.lt_of_lt_of_le hb hB.size
   have HBAD : Hid ((validPieceB) y = false → upB validPieceB (fun a b => decide (a.id < b.id)) val = false) := Lib.hid fun h => upB_bad hy h
   have hokr : okPiece D wr y := okPiece.ext hok (.of_below hB)
   have HV : Hid (∀ W, Below wr.heap.size wr W → Calls Tryz.prog 176 #[.agg (encPiece y)] W fun e w' => e = .returned (.bool (validPieceB y)) ∧ Below W.heap.size W w') := Lib.hid fun W hW => validPiece_ref D y W (okPiece.ext hokr (.of_below hW))
   clear hokr
   clear hy hcell hok
   have hc0 : wr.cell? ⟨b, o + k * 7, none⟩ = some (vi y.id) := HC.out 0 (show 0 < 7 by decide)
   rcases hv : validPieceB y
   ·simp only [hv] at HV
    have HF := Lib.hid (HBAD.out hv)
    go_wp2
    refine wp_region_ord [(0, true), (1, true), (2, true), (3, true), (4, false), (5, true), (6, true), (7, true), (8, true), (9, true), (10, true), (11, true), (12, true), (13, true), (14, true), (15, true), (16, true), (17, true), (18, true), (19, true), (20, true), (21, true), (22, true), (23, true)] rfl (by kernel_rfl) (by kernel_rfl) (fun d _ _ _ _ h => by cases d <;> exact h) ?_
    iterate 3 (refine wpB_fix rfl rfl (fun W hW => by go_simp; with_reducible rfl) ?_; simp only [pTs, pTn, pTz, pTc])
    refine wpB_fix (v := .agg (encPiece y)) rfl rfl (fun W hW => run_load_mem (encPiece y) rfl (fun j hj => (hW.cell (p := ⟨b, o + k * 7 + j, none⟩) hl1).trans (HC.out j hj)) Tryz.underlying76 rfl (by kernel_rfl)) ?_; simp only [pTs, pTn, pTz, pTc]
    refine wpB_act rfl rfl (fun K hK => ?_)
    go_simp
    refine (HV.out _ ((Below.refl _ _).drew)).mono ?_
    rintro e w1 ⟨rfl, hb1⟩
    have hB1 := Below.call hB.drew hb1 (Nat.le_refl _)
    refine hK _ _ hb1 ?_
    clear hK K
    try simp only [pTs, pTn, pTz, pTc]
    iterate 2 (refine wpB_fix rfl rfl (fun W hW => by go_simp; with_reducible rfl) ?_; simp only [pTs, pTn, pTz, pTc])
    iterate 16 (refine wpB_skip rfl rfl ?_; simp only [pTs, pTn, pTz, pTc])
    refine wpB_fix rfl rfl (fun W hW => by go_simp; with_reducible rfl) ?_; simp only [pTs, pTn, pTz, pTc]
    simp only [wpB]
    go_wp2
    go_ret
    exact ⟨by simp [HF.out], hB1⟩
   simp only [hv] at HV
   have HPY := Lib.hid hv
   by_cases h0 : (0 : Int) < (k : Int)
   ·obtain ⟨m, hm⟩ : ∃ m, k = m + 1 := ⟨k - 1, by omega⟩
    obtain ⟨x, hx⟩ : ∃ x, val[m]? = some x := ⟨_, List.getElem?_eq_getElem (by omega)⟩
    have hcell2 := HS.out.cell b o rfl _ _ hx
    have HC2 : Hid (∀ j, j < (encPiece x).size → wr.cell? ⟨b, o + m * 7 + j, none⟩ = (encPiece x)[j]?) := Lib.hid fun j hj => by rw [hB.cell (p := ⟨b, o + m * 7 + j, none⟩) hb]; exact hcell2 j hj
    have HX := Lib.hid hx
    have HM := Lib.hid hm
    have hd : decide ((0 : Int) < (k : Int)) = true := by simpa using h0
    have hs1 : IntKind.i64.wrap ((k : Int) - 1) = (m : Int) := by rw [hm, show ((m + 1 : Nat) : Int) - 1 = (m : Int) by omega]; exact IntWalk.i64_in _ (by omega)
    have hs2 : wrap64 ((k : Int) - 1) = (m : Int) := by unfold wrap64; omega
    have hi2 : (m : Int) < (val.length : Int) := by omega
    clear hx hcell2 hm
    have hc1 : wr.cell? ⟨b, o + m * 7, none⟩ = some (vi x.id) := HC2.out 0 (show 0 < 7 by decide)
    by_cases hxy : x.id < y.id
    ·have e3 : decide (y.id ≤ x.id) = false := by simp; omega
     have hR : Hid (decide (x.id < y.id) = true) := Lib.hid (by simpa using hxy)
     go_wp2
     refine wp_region_ord [(0, true), (1, true), (2, true), (3, true), (4, false), (5, true), (6, true), (7, true), (8, true), (9, true), (10, true), (11, true), (12, true), (13, true), (14, true), (15, true), (16, true), (17, true), (18, true), (19, true), (20, true), (21, true), (22, true), (23, true)] rfl (by kernel_rfl) (by kernel_rfl) (fun d _ _ _ _ h => by cases d <;> exact h) ?_
     iterate 3 (refine wpB_fix rfl rfl (fun W hW => by go_simp; with_reducible rfl) ?_; simp only [pTs, pTn, pTz, pTc])
     refine wpB_fix (v := .agg (encPiece y)) rfl rfl (fun W hW => run_load_mem (encPiece y) rfl (fun j hj => (hW.cell (p := ⟨b, o + k * 7 + j, none⟩) hl1).trans (HC.out j hj)) Tryz.underlying76 rfl (by kernel_rfl)) ?_; simp only [pTs, pTn, pTz, pTc]
     refine wpB_act rfl rfl (fun K hK => ?_)
     go_simp
     refine (HV.out _ ((Below.refl _ _).drew)).mono ?_
     rintro e w1 ⟨rfl, hb1⟩
     have hB1 := Below.call hB.drew hb1 (Nat.le_refl _)
     refine hK _ _ hb1 ?_
     clear hK K
     try simp only [pTs, pTn, pTz, pTc]
     iterate 3 (refine wpB_fix rfl rfl (fun W hW => by go_simp; with_reducible rfl) ?_; simp only [pTs, pTn, pTz, pTc])
     refine wpB_fix (v := .bool true) rfl rfl (fun W hW => by have h00 : 0 < k := (by omega); go_simp) ?_; simp only [pTs, pTn, pTz, pTc]
     iterate 5 (refine wpB_fix rfl rfl (fun W hW => by go_simp; with_reducible rfl) ?_; simp only [pTs, pTn, pTz, pTc])
     refine wpB_fix (v := vi y.id) rfl rfl (fun W hW => by have e : W.cell? ⟨b, o + k * 7, none⟩ = some (vi y.id) := (hW.cell (p := ⟨b, o + k * 7, none⟩) (Nat.lt_of_lt_of_le hl1 hb1.size)).trans ((hb1.cell (p := ⟨b, o + k * 7, none⟩) hl1).trans hc0); go_simp) ?_; simp only [pTs, pTn, pTz, pTc]
     iterate 5 (refine wpB_fix rfl rfl (fun W hW => by go_simp; with_reducible rfl) ?_; simp only [pTs, pTn, pTz, pTc])
     refine wpB_fix (v := vi x.id) rfl rfl (fun W hW => by have e : W.cell? ⟨b, o + m * 7, none⟩ = some (vi x.id) := (hW.cell (p := ⟨b, o + m * 7, none⟩) (Nat.lt_of_lt_of_le hl1 hb1.size)).trans ((hb1.cell (p := ⟨b, o + m * 7, none⟩) hl1).trans hc1); go_simp) ?_; simp only [pTs, pTn, pTz, pTc]
     iterate 3 (refine wpB_fix rfl rfl (fun W hW => by go_simp; with_reducible rfl) ?_; simp only [pTs, pTn, pTz, pTc])
     simp only [wpB]
     go_wp2
     go_roundw
     case rel => exact ⟨k + 1, by omega, by go_num, Lib.hid (by have h := upB_step HX.out (l := val) (m := m) (by rw [← HM.out]; exact HY.out) (by rw [← HM.out]; exact hn.out); rw [← HM.out] at h; exact h.trans (congr (congrArg and HPY.out) hR.out)), hB1⟩
     case measure => simp [intOf]; omega
    ·have e3 : decide (y.id ≤ x.id) = true := by simp; omega
     have hR : Hid (decide (x.id < y.id) = false) := Lib.hid (by simpa using hxy)
     have HF : Hid (upB validPieceB (fun a b => decide (a.id < b.id)) val = false) := Lib.hid (upB_stop (k := k + 1) (by have h := upB_step HX.out (l := val) (m := m) (by rw [← HM.out]; exact HY.out) (by rw [← HM.out]; exact hn.out); rw [← HM.out] at h; exact h.trans (congr (congrArg and HPY.out) hR.out)))
     go_wp2
     refine wp_region_ord [(0, true), (1, true), (2, true), (3, true), (4, false), (5, true), (6, true), (7, true), (8, true), (9, true), (10, true), (11, true), (12, true), (13, true), (14, true), (15, true), (16, true), (17, true), (18, true), (19, true), (20, true), (21, true), (22, true), (23, true)] rfl (by kernel_rfl) (by kernel_rfl) (fun d _ _ _ _ h => by cases d <;> exact h) ?_
     iterate 3 (refine wpB_fix rfl rfl (fun W hW => by go_simp; with_reducible rfl) ?_; simp only [pTs, pTn, pTz, pTc])
     refine wpB_fix (v := .agg (encPiece y)) rfl rfl (fun W hW => run_load_mem (encPiece y) rfl (fun j hj => (hW.cell (p := ⟨b, o + k * 7 + j, none⟩) hl1).trans (HC.out j hj)) Tryz.underlying76 rfl (by kernel_rfl)) ?_; simp only [pTs, pTn, pTz, pTc]
     refine wpB_act rfl rfl (fun K hK => ?_)
     go_simp
     refine (HV.out _ ((Below.refl _ _).drew)).mono ?_
     rintro e w1 ⟨rfl, hb1⟩
     have hB1 := Below.call hB.drew hb1 (Nat.le_refl _)
     refine hK _ _ hb1 ?_
     clear hK K
     try simp only [pTs, pTn, pTz, pTc]
     iterate 3 (refine wpB_fix rfl rfl (fun W hW => by go_simp; with_reducible rfl) ?_; simp only [pTs, pTn, pTz, pTc])
     refine wpB_fix (v := .bool true) rfl rfl (fun W hW => by have h00 : 0 < k := (by omega); go_simp) ?_; simp only [pTs, pTn, pTz, pTc]
     iterate 5 (refine wpB_fix rfl rfl (fun W hW => by go_simp; with_reducible rfl) ?_; simp only [pTs, pTn, pTz, pTc])
     refine wpB_fix (v := vi y.id) rfl rfl (fun W hW => by have e : W.cell? ⟨b, o + k * 7, none⟩ = some (vi y.id) := (hW.cell (p := ⟨b, o + k * 7, none⟩) (Nat.lt_of_lt_of_le hl1 hb1.size)).trans ((hb1.cell (p := ⟨b, o + k * 7, none⟩) hl1).trans hc0); go_simp) ?_; simp only [pTs, pTn, pTz, pTc]
     iterate 5 (refine wpB_fix rfl rfl (fun W hW => by go_simp; with_reducible rfl) ?_; simp only [pTs, pTn, pTz, pTc])
     refine wpB_fix (v := vi x.id) rfl rfl (fun W hW => by have e : W.cell? ⟨b, o + m * 7, none⟩ = some (vi x.id) := (hW.cell (p := ⟨b, o + m * 7, none⟩) (Nat.lt_of_lt_of_le hl1 hb1.size)).trans ((hb1.cell (p := ⟨b, o + m * 7, none⟩) hl1).trans hc1); go_simp) ?_; simp only [pTs, pTn, pTz, pTc]
     iterate 3 (refine wpB_fix rfl rfl (fun W hW => by go_simp; with_reducible rfl) ?_; simp only [pTs, pTn, pTz, pTc])
     simp only [wpB]
     go_wp2
     go_ret
     exact ⟨by simp [HF.out], hB1⟩
   ·have hd : decide ((0 : Int) < (k : Int)) = false := by simpa using h0
    have HK0 : Hid (k = 0) := Lib.hid (by omega)
    go_wp2
    refine wp_region_ord [(0, true), (1, true), (2, true), (3, true), (4, false), (5, true), (6, true), (7, true), (8, true), (9, true), (10, true), (11, true), (12, true), (13, true), (14, true), (15, true), (16, true), (17, true), (18, true), (19, true), (20, true), (21, true), (22, true), (23, true)] rfl (by kernel_rfl) (by kernel_rfl) (fun d _ _ _ _ h => by cases d <;> exact h) ?_
    iterate 3 (refine wpB_fix rfl rfl (fun W hW => by go_simp; with_reducible rfl) ?_; simp only [pTs, pTn, pTz, pTc])
    refine wpB_fix (v := .agg (encPiece y)) rfl rfl (fun W hW => run_load_mem (encPiece y) rfl (fun j hj => (hW.cell (p := ⟨b, o + k * 7 + j, none⟩) hl1).trans (HC.out j hj)) Tryz.underlying76 rfl (by kernel_rfl)) ?_; simp only [pTs, pTn, pTz, pTc]
    refine wpB_act rfl rfl (fun K hK => ?_)
    go_simp
    refine (HV.out _ ((Below.refl _ _).drew)).mono ?_
    rintro e w1 ⟨rfl, hb1⟩
    have hB1 := Below.call hB.drew hb1 (Nat.le_refl _)
    refine hK _ _ hb1 ?_
    clear hK K
    try simp only [pTs, pTn, pTz, pTc]
    iterate 3 (refine wpB_fix rfl rfl (fun W hW => by go_simp; with_reducible rfl) ?_; simp only [pTs, pTn, pTz, pTc])
    refine wpB_fix (v := .bool false) rfl rfl (fun W hW => by have h00 : k = 0 := HK0.out; go_simp) ?_; simp only [pTs, pTn, pTz, pTc]
    refine wpB_fix rfl rfl (fun W hW => by go_simp; with_reducible rfl) ?_; simp only [pTs, pTn, pTz, pTc]
    iterate 12 (refine wpB_skip rfl rfl ?_; simp only [pTs, pTn, pTz, pTc])
    iterate 2 (refine wpB_fix rfl rfl (fun W hW => by go_simp; with_reducible rfl) ?_; simp only [pTs, pTn, pTz, pTc])
    simp only [wpB]
    go_wp2
    go_roundw
    case rel => exact ⟨k + 1, by omega, by go_num, Lib.hid (by rw [HK0.out] at HY ⊢; rw [upB_one HY.out]; exact HPY.out), hB1⟩
    case measure => simp [intOf]; omega
  ·have HH := Lib.hid (upB_end hn.out (by omega))
   go_wp2
   go_ret
   exact ⟨by simp [HH.out], hB⟩
theorem ref_ref (r : Ref) (w : World) :
  Calls Tryz.prog 79 #[.agg (encRef r)] w fun e w' => e = .returned (.bool (validRefB r)) ∧ Below w.heap.size w w' := by
 go_enter Tryz.func79, Tryz.ntmps79
 go_wp2
 all_goals go_ret
 all_goals exact ⟨by simp [validRefB, inB, *]; try omega, (Below.refl _ _).alloc (Nat.le_refl _) _⟩
def refItemB (x : Item) : Bool := inB x.id 1 65535 && inB x.kind 1 7 && decide ((x.sights.val.length : Int) ≤ 16) && decide ((x.panes.val.length : Int) ≤ 64) && decide ((x.colours.val.length : Int) ≤ 16)
theorem item_ref (x : Item) (w : World) :
  Calls Tryz.prog 130 #[.agg (encItem x)] w fun e w' => e = .returned (.bool (refItemB x)) ∧ Below w.heap.size w w' := by
 go_enter Tryz.func130, Tryz.ntmps130
 go_wp2
 all_goals go_ret
 all_goals refine ⟨?_, (Below.refl _ _).alloc (Nat.le_refl _) _⟩
 all_goals (simp [refItemB, inB, *]; try omega)
theorem own_ref (b id : Int) (w : World) (hi : 1 ≤ id ∧ id ≤ 65535) (hb : 1 ≤ b ∧ b ≤ 8) :
  Calls Tryz.prog 132 #[.int .i64 b, .int .i64 id] w fun e w' => e = .returned (.bool (itsB b id)) ∧ w = w' := by
 have h1 : IntKind.i64.wrap (id - b) = id - b := IntWalk.i64_in _ (by omega)
 have h2 : wrap64 (id - b) = id - b := by unfold wrap64; omega
 have h3 : IntKind.i64.wrap ((id - b).tmod 8) = (id - b).tmod 8 := by
  refine IntWalk.i64_in _ ?_
  have := Int.tmod_lt_of_pos (id - b) (show (0 : Int) < 8 by decide)
  have := Int.lt_tmod_of_pos (id - b) (show (0 : Int) < 8 by decide)
  omega
 have HE : Hid (((id - b).tmod 8 == 0) = itsB b id) := Lib.hid (by
  rw [Bool.eq_iff_iff]; simp only [itsB, beq_iff_eq, decide_eq_true_eq]
  have e1 : id.tmod 8 = id % 8 := Int.tmod_eq_emod_of_nonneg (by omega)
  have e2 : b.tmod 8 = b % 8 := Int.tmod_eq_emod_of_nonneg (by omega)
  have e3 : (id - b).tmod 8 = 0 ↔ (8 : Int) ∣ (id - b) := Int.dvd_iff_tmod_eq_zero.symm
  rw [e1, e2, e3]; omega)
 go_enter Tryz.func132, Tryz.ntmps132
 go_wp2
 go_ret
 exact ⟨by simp [← HE.out], rfl⟩
end Go.Proofs.YtendmmhfjhgdaaaGreat
