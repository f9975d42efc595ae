/-
  WhereIs of both sides; SameHeld of what is alike.
  SameHeld of what is alike; the map that Found fills.
  Found, of package benches.
-/
import Derived.Test.YtendmmhfjhgdaaaGreatAwake
section
set_option linter.unusedVariables false
set_option linter.unusedSimpArgs false
namespace Go.Proofs.YtendmmhfjhgdaaaGreat
open Go.RowKit

def whereIs (l : List Where) (piece : Int) : Where × Int := match l.find? (fun x => decide (x.piece = piece)) with | some x => (x, 0) | none => (zWhere, 3)
theorem whereIs_hit {l : List Where} {piece : Int} {k : Nat} {x : Where} (hx : l[k]? = some x) (hp : x.piece = piece) (hn : ∀ j y, j < k → l[j]? = some y → y.piece ≠ piece) : whereIs l piece = (x, 0) := by
  have : l.find? (fun x => decide (x.piece = piece)) = some x := by
    rw [List.find?_eq_some_iff_getElem]
    obtain ⟨hk, hkx⟩ := List.getElem?_eq_some_iff.1 hx
    refine ⟨by simpa using hp, k, hk, hkx, fun j hj => ?_⟩
    have := hn j l[j] hj (List.getElem?_eq_getElem (by omega))
    simpa using this
  simp [whereIs, this]
theorem whereIs_none {l : List Where} {piece : Int} (hn : ∀ (j : Nat) (y : Where), l[j]? = some y → y.piece ≠ piece) : whereIs l piece = (zWhere, 3) := by
  have : l.find? (fun x => decide (x.piece = piece)) = none := by
    rw [List.find?_eq_none]
    intro x hx
    obtain ⟨j, hj, rfl⟩ := List.getElem_of_mem hx
    simpa using hn j _ (List.getElem?_eq_getElem hj)
  simp [whereIs, this]
set_option maxRecDepth 20000 in
set_option maxHeartbeats 2000000 in
theorem whereIs_any (D : Nat → Prop) (R : Register) (piece : Int) (w : World) (hs : R.wher.OK 7 encWhere okWhere D w) (hlen : R.wher.val.length ≤ 1000000) :
    Calls Tryz.prog 32 #[.agg (encRegister R), .int .i64 piece] w fun e w' => e = .returned (.tuple #[.agg (encWhere (whereIs R.wher.val piece).1), .int .i64 (whereIs R.wher.val piece).2]) ∧ Below w.heap.size w w' := by
  have hB2 : Below w.heap.size w ((w.alloc (.cells (encRegister R) 58)).alloc (.cells (encWhere zWhere) 66)) := ((Below.refl _ _).alloc (Nat.le_refl _) _).alloc (by simp) _
  have hbr : BoxAt ((w.alloc (.cells (encRegister R) 58)).alloc (.cells (encWhere zWhere) 66)) (w.heap.size + 1) 66 (encWhere zWhere) := BoxAt.newN _ _ _ (by simp)
  have HS := Lib.hid hs
  clear hs
  obtain ⟨⟨a, cap, val⟩, hwv⟩ : ∃ s, R.wher = s := ⟨_, rfl⟩
  rw [hwv] at HS hlen ⊢
  simp only at hlen
  have hcw : (encRegister R)[1]? = some (.slice a val.length cap) := by rw [show (encRegister R)[1]? = some R.wher.v from rfl, hwv]; rfl
  go_enter Tryz.func32, Tryz.ntmps32
  have hc1 : ∀ ob, ((w.alloc (.cells (encRegister R) 58)).alloc ob).cell? ⟨w.heap.size, 1, none⟩ = some (.slice a val.length cap) := fun ob => (((BoxAt.new w 58 (encRegister R)).alloc ob).cell 1).trans hcw
  clear hwv
  go_wp2
  go_loopw [7, 11] (fun _ i wr => ∃ k : Nat, k ≤ val.length ∧ i = .int .i64 k ∧ Hid (∀ j y, j < k → val[j]? = some y → y.piece ≠ piece) ∧ BoxAt wr (w.heap.size + 1) 66 (encWhere zWhere) ∧ Below w.heap.size w wr) (fun _ i _ => val.length - (Go.RowKit.intOf i).toNat)
  case atStart => exact ⟨0, Nat.zero_le _, rfl, Lib.hid (by omega), hbr, hB2⟩
  case round =>
    obtain ⟨k, hk, rfl, hn, hbr, hB⟩ := hrel
    by_cases hlt : k < val.length
    · obtain ⟨x, hx⟩ : ∃ x, val[k]? = some x := ⟨_, List.getElem?_eq_getElem hlt⟩
      obtain ⟨bb, o, rfl, hb, _, hok, hcell⟩ := HS.out.at hx
      have HC : Hid (∀ j, j < (encWhere x).size → wr.cell? ⟨bb, o + k * 7 + j, none⟩ = (encWhere x)[j]?) := Lib.hid fun j hj => by rw [hB.cell (p := ⟨bb, o + k * 7 + j, none⟩) hb]; exact hcell j hj
      have hi1 : (k : Int) < (val.length : Int) := by omega
      have HX := Lib.hid hx
      clear hx hok hcell hb
      by_cases hp : x.piece = piece
      · go_wp2_with (first
          | ((with_reducible refine at_dst 14 ?_); refine wpList_load_at rfl 66 _ rfl bb (o + k * 7) rfl (encWhere x) _ HC.out Tryz.underlying66 rfl (by kernel_rfl) ?_)
          | ((with_reducible refine at_storeTo 7 ?_); refine wpList_store_box (BoxAt.newN (n := wr.heap.size) _ _ _ rfl) rfl 66 _ _ rfl rfl (.agg (encWhere x)) rfl (by kernel_rfl) rfl (one_agg (encWhere_one _)) ?_; intro w3 hb3 hT3; have hbx3 := hb3.eqv (splice_whole _ (encWhere x) rfl); have hc3 : w3.cell? ⟨wr.heap.size, 0, none⟩ = some (vi x.piece) := (hbx3.cell 0).trans rfl; have hB3 : Below wr.heap.size wr w3 := ((Below.refl _ _).alloc (Nat.le_refl _) _).trans (hT3.below (Nat.le_refl _)); have hbr3 := hbr.belowAll hB3)
          | ((with_reducible refine at_dst 19 ?_); refine wpList_loadB hbx3 rfl 66 _ rfl rfl (encWhere x) (whole_cells _) Tryz.underlying66 rfl (by kernel_rfl) ?_)
          | ((with_reducible refine at_storeTo 4 ?_); refine wpList_store_box hbr3 rfl 66 _ _ rfl rfl (.agg (encWhere x)) rfl (by kernel_rfl) rfl (one_agg (encWhere_one _)) ?_; intro w4 hb4 hT4))
        have hw := whereIs_hit HX.out hp hn.out
        refine bodyPost_ret (results_cell_tmp (cs := encWhere x) (.int .i64 0) (hb4.eqv (splice_whole _ (encWhere x) rfl)) rfl rfl rfl Tryz.underlying66 rfl (by kernel_rfl)) rfl ⟨by rw [hw], (hB.trans (hB3.mono hB.size)).trans (hT4.below (by omega))⟩
      · go_wp2_with (first
          | ((with_reducible refine at_dst 14 ?_); refine wpList_load_at rfl 66 _ rfl bb (o + k * 7) rfl (encWhere x) _ HC.out Tryz.underlying66 rfl (by kernel_rfl) ?_)
          | ((with_reducible refine at_storeTo 7 ?_); refine wpList_store_box (BoxAt.newN (n := wr.heap.size) _ _ _ rfl) rfl 66 _ _ rfl rfl (.agg (encWhere x)) rfl (by kernel_rfl) rfl (one_agg (encWhere_one _)) ?_; intro w3 hb3 hT3; have hbx3 := hb3.eqv (splice_whole _ (encWhere x) rfl); have hc3 : w3.cell? ⟨wr.heap.size, 0, none⟩ = some (vi x.piece) := (hbx3.cell 0).trans rfl; have hB3 : Below wr.heap.size wr w3 := ((Below.refl _ _).alloc (Nat.le_refl _) _).trans (hT3.below (Nat.le_refl _)); have hbr3 := hbr.belowAll hB3))
        go_roundw
        case rel =>
          refine ⟨k + 1, by omega, by go_num, Lib.hid fun j y hj hy => ?_, hbr3, hB.trans (hB3.mono hB.size)⟩
          rcases Nat.lt_succ_iff_lt_or_eq.1 hj with h | rfl
          · exact hn.out j y h hy
          · rw [HX.out] at hy; cases hy; exact hp
        case measure => simp [Go.RowKit.intOf]; omega
    · have hk' : k = val.length := by omega
      have hw := Lib.hid (whereIs_none (piece := piece) fun j y hy => hn.out j y (by have := (List.getElem?_eq_some_iff.1 hy).1; omega) hy)
      go_wp2_with ((with_reducible refine at_storeTo 4 ?_); refine wpList_store_box hbr rfl 66 _ _ rfl rfl (.agg (encWhere zWhere)) rfl (by kernel_rfl) rfl (one_agg (encWhere_one _)) ?_; intro w4 hb4 hT4)
      refine bodyPost_ret (results_cell_tmp (cs := encWhere zWhere) (.int .i64 3) (hb4.eqv (splice_whole _ (encWhere zWhere) rfl)) rfl rfl rfl Tryz.underlying66 rfl (by kernel_rfl)) rfl ⟨by rw [hw.out], hB.trans (hT4.below (by omega))⟩

set_option maxRecDepth 20000 in
set_option maxHeartbeats 2000000 in
theorem whereIsR_any (D : Nat → Prop) (R : Register) (piece : Int) (w : World) (hs : R.wher.OK 7 encWhere okWhere D w) (hlen : R.wher.val.length ≤ 1000000) :
    Calls Tryz.prog 33 #[.agg (encRegister R), .int .i64 piece] w fun e w' => e = .returned (.tuple #[.agg (encWhere (whereIs R.wher.val piece).1), .int .i64 (whereIs R.wher.val piece).2]) ∧ Below w.heap.size w w' := by
  have hB2 : Below w.heap.size w ((w.alloc (.cells (encRegister R) 58)).alloc (.cells (encWhere zWhere) 66)) := ((Below.refl _ _).alloc (Nat.le_refl _) _).alloc (by simp) _
  have hbr : BoxAt ((w.alloc (.cells (encRegister R) 58)).alloc (.cells (encWhere zWhere) 66)) (w.heap.size + 1) 66 (encWhere zWhere) := BoxAt.newN _ _ _ (by simp)
  have HS := Lib.hid hs
  clear hs
  obtain ⟨⟨a, cap, val⟩, hwv⟩ : ∃ s, R.wher = s := ⟨_, rfl⟩
  rw [hwv] at HS hlen ⊢
  simp only at hlen
  have hcw : (encRegister R)[1]? = some (.slice a val.length cap) := by rw [show (encRegister R)[1]? = some R.wher.v from rfl, hwv]; rfl
  go_enter Tryz.func33, Tryz.ntmps33
  have hc1 : ∀ ob, ((w.alloc (.cells (encRegister R) 58)).alloc ob).cell? ⟨w.heap.size, 1, none⟩ = some (.slice a val.length cap) := fun ob => (((BoxAt.new w 58 (encRegister R)).alloc ob).cell 1).trans hcw
  have HCR : Hid (((w.alloc (.cells (encRegister R) 58)).alloc (.cells (encWhere zWhere) 66)).cell? ⟨w.heap.size, 1, none⟩ = some (.slice a val.length cap)) := Lib.hid (hc1 _)
  clear hwv
  go_wp2
  go_loopw [6] (fun i wr => ∃ k : Nat, k ≤ val.length ∧ i = .int .i64 k ∧ Hid (∀ j y, j < k → val[j]? = some y → y.piece ≠ piece) ∧ Hid (((w.alloc (.cells (encRegister R) 58)).alloc (.cells (encWhere zWhere) 66)) = wr)) (fun i _ => val.length - (Go.RowKit.intOf i).toNat)
  case atStart => exact ⟨0, Nat.zero_le _, rfl, Lib.hid (by omega), Lib.hid (by first | trivial | rfl)⟩
  case round =>
    obtain ⟨k, hk, rfl, hn, hwr⟩ := hrel
    have hcr : wr.cell? ⟨w.heap.size, 1, none⟩ = some (.slice a val.length cap) := hwr.out ▸ HCR.out
    have hbr : BoxAt wr (w.heap.size + 1) 66 (encWhere zWhere) := hwr.out ▸ hbr
    have hB : Below w.heap.size w wr := hwr.out ▸ hB2
    by_cases hlt : k < val.length
    · obtain ⟨x, hx⟩ : ∃ x, val[k]? = some x := ⟨_, List.getElem?_eq_getElem hlt⟩
      obtain ⟨bb, o, rfl, hb, _, hok, hcell⟩ := HS.out.at hx
      have HC : Hid (∀ j, j < (encWhere x).size → wr.cell? ⟨bb, o + k * 7 + j, none⟩ = (encWhere x)[j]?) := Lib.hid fun j hj => by rw [hB.cell (p := ⟨bb, o + k * 7 + j, none⟩) hb]; exact hcell j hj
      have hcx : wr.cell? ⟨bb, o + k * 7, none⟩ = some (vi x.piece) := (HC.out 0 (show 0 < 7 by decide)).trans rfl
      have hi1 : (k : Int) < (val.length : Int) := by omega
      have HX := Lib.hid hx
      clear hx hok hcell hb hc1
      by_cases hp : x.piece = piece
      · go_wp2_with (first
          | ((with_reducible refine at_dst 26 ?_); refine wpList_load_at rfl 66 _ rfl bb (o + k * 7) rfl (encWhere x) _ HC.out Tryz.underlying66 rfl (by kernel_rfl) ?_)
          | ((with_reducible refine at_storeTo 4 ?_); refine wpList_store_box hbr rfl 66 _ _ rfl rfl (.agg (encWhere x)) rfl (by kernel_rfl) rfl (one_agg (encWhere_one _)) ?_; intro w4 hb4 hT4))
        have hw := whereIs_hit HX.out hp hn.out
        refine bodyPost_ret (results_cell_tmp (cs := encWhere x) (.int .i64 0) (hb4.eqv (splice_whole _ (encWhere x) rfl)) rfl rfl rfl Tryz.underlying66 rfl (by kernel_rfl)) rfl ⟨by rw [hw], hB.trans (hT4.below (by omega))⟩
      · go_wp2
        go_roundw
        case rel =>
          refine ⟨k + 1, by omega, by go_num, Lib.hid fun j y hj hy => ?_, hwr⟩
          rcases Nat.lt_succ_iff_lt_or_eq.1 hj with h | rfl
          · exact hn.out j y h hy
          · rw [HX.out] at hy; cases hy; exact hp
        case measure => simp [Go.RowKit.intOf]; omega
    · have hk' : k = val.length := by omega
      have hw := Lib.hid (whereIs_none (piece := piece) fun j y hy => hn.out j y (by have := (List.getElem?_eq_some_iff.1 hy).1; omega) hy)
      clear hc1
      go_wp2_with ((with_reducible refine at_storeTo 4 ?_); refine wpList_store_box hbr rfl 66 _ _ rfl rfl (.agg (encWhere zWhere)) rfl (by kernel_rfl) rfl (one_agg (encWhere_one _)) ?_; intro w4 hb4 hT4)
      refine bodyPost_ret (results_cell_tmp (cs := encWhere zWhere) (.int .i64 3) (hb4.eqv (splice_whole _ (encWhere zWhere) rfl)) rfl rfl rfl Tryz.underlying66 rfl (by kernel_rfl)) rfl ⟨by rw [hw.out], hB.trans (hT4.below (by omega))⟩
end Go.Proofs.YtendmmhfjhgdaaaGreat
end
section
set_option linter.unusedVariables false
set_option linter.unusedSimpArgs false
namespace Go.Proofs.YtendmmhfjhgdaaaGreat
open Go.RowKit

set_option maxRecDepth 20000 in
set_option maxHeartbeats 2000000 in
theorem sameHeld_any (D : Nat → Prop) (s t : Sl Held) (w : World) (hs : s.OK 5 encHeld okHeld D w) (ht : t.OK 5 encHeld okHeld D w) (hst : t.val = s.val) (hlen : s.val.length ≤ 1000000) :
    Calls Tryz.prog 34 #[.slice s.a s.val.length s.cap, .slice t.a t.val.length t.cap] w fun e w' => e = .returned (.bool true) ∧ Below w.heap.size w w' := by
  have HS := Lib.hid hs
  have HT := Lib.hid ht
  clear hs ht
  obtain ⟨a, cap, val⟩ := s
  obtain ⟨a2, cap2, val2⟩ := t
  simp only at hst hlen
  subst hst
  go_enter Tryz.func34, Tryz.ntmps34
  go_wp2
  go_loopw [5] (fun i wr => ∃ k : Nat, k ≤ val2.length ∧ i = .int .i64 k ∧ Below w.heap.size w wr) (fun i _ => val2.length - (Go.RowKit.intOf i).toNat)
  case atStart => exact ⟨0, Nat.zero_le _, rfl, Below.refl _ _⟩
  case round =>
    obtain ⟨k, hk, rfl, hB⟩ := hrel
    by_cases hlt : k < val2.length
    · obtain ⟨x, hx⟩ : ∃ x, val2[k]? = some x := ⟨_, List.getElem?_eq_getElem hlt⟩
      obtain ⟨bb, o, rfl, hb, _, _, hcell⟩ := HS.out.at hx
      obtain ⟨bb2, o2, rfl, hb2, _, _, hcell2⟩ := HT.out.at hx
      have HC : Hid (∀ j, j < (encHeld x).size → wr.cell? ⟨bb, o + k * 5 + j, none⟩ = (encHeld x)[j]?) := Lib.hid fun j hj => by rw [hB.cell (p := ⟨bb, o + k * 5 + j, none⟩) hb]; exact hcell j hj
      have HC2 : Hid (∀ j, j < (encHeld x).size → wr.cell? ⟨bb2, o2 + k * 5 + j, none⟩ = (encHeld x)[j]?) := Lib.hid fun j hj => by rw [hB.cell (p := ⟨bb2, o2 + k * 5 + j, none⟩) hb2]; exact hcell2 j hj
      have hi1 : (k : Int) < (val2.length : Int) := by omega
      have hl1 : bb < wr.heap.size := Nat.lt_of_lt_of_le hb hB.size
      have hl2 : bb2 < wr.heap.size := Nat.lt_of_lt_of_le hb2 hB.size
      have heq : eqHeld x x = true := by simp [eqHeld]
      clear hx hcell hcell2 hb hb2
      go_wp2
      refine wp_region_ord [(0, true), (1, true), (2, true), (3, true), (4, true), (5, true), (6, true), (7, true), (8, true)] rfl (by kernel_rfl) (by kernel_rfl) (fun d _ _ _ _ h => by cases d <;> exact h) ?_
      iterate 3 (refine wpB_fix rfl rfl (fun W hW => by go_simp; with_reducible rfl) ?_; simp only [pTs, pTn, pTz, pTc])
      refine wpB_fix (v := .agg (encHeld x)) rfl rfl (fun W hW => run_load_mem (encHeld x) rfl (fun j hj => (hW.cell (p := ⟨bb, o + k * 5 + j, none⟩) hl1).trans (HC.out j hj)) Tryz.underlying114 rfl (by kernel_rfl)) ?_; simp only [pTs, pTn, pTz, pTc]
      iterate 3 (refine wpB_fix rfl rfl (fun W hW => by go_simp; with_reducible rfl) ?_; simp only [pTs, pTn, pTz, pTc])
      refine wpB_fix (v := .agg (encHeld x)) rfl rfl (fun W hW => run_load_mem (encHeld x) rfl (fun j hj => (hW.cell (p := ⟨bb2, o2 + k * 5 + j, none⟩) hl2).trans (HC2.out j hj)) Tryz.underlying114 rfl (by kernel_rfl)) ?_; simp only [pTs, pTn, pTz, pTc]
      refine wpB_fix rfl rfl (fun W hW => by go_simp; with_reducible rfl) ?_; simp only [pTs, pTn, pTz, pTc]
      simp only [wpB]
      go_wp2
      go_roundw
      case rel => exact ⟨k + 1, by omega, by go_num, hB.drew⟩
      case measure => simp [Go.RowKit.intOf]; omega
    · go_wp2
      go_ret
      exact ⟨by simp, hB⟩

abbrev vHeld (h : Held) : Value := .agg (encHeld h)
theorem zeroHeld (w : World) : (zeroValue 114).run Tryz.prog w = .ok (vHeld zHeld) w := by kernel_rfl
set_option maxRecDepth 20000 in
set_option maxHeartbeats 2000000 in
theorem first_any (mb cb : Nat) (m : List (Int × Held)) (h : Held) (w : World) (hm : MapAt vi vHeld I64 w mb m) (hc : BoxAt w cb 122 #[.map (some mb)]) (hh : I64 h.pane) (hne : cb ≠ mb) :
    Calls Tryz.prog 66 #[.agg (encHeld h), .pointer (some ⟨cb, 0, none⟩)] w fun e w' => e = .returned (.tuple #[]) ∧ MapAt vi vHeld I64 w' mb (firstH m h) ∧ w.grownBy w' (some mb) := by
  have hlt := hm.lt
  have hlc := hc.lt
  have hbh : BoxAt (w.alloc (.cells (encHeld h) 114)) w.heap.size 114 (encHeld h) := BoxAt.new _ _ _
  have hcc : (w.alloc (.cells (encHeld h) 114)).cell? ⟨cb, 0, none⟩ = some (.map (some mb)) := ((hc.alloc _).cell 0).trans rfl
  have HM1 := Lib.hid (hm.alloc (.cells (encHeld h) 114))
  have hb2 : Below w.heap.size w (w.alloc (.cells (encHeld h) 114)) := (Below.refl _ _).alloc (Nat.le_refl _) _
  have HH := Lib.hid hh
  have hc1 := hc.alloc (.cells (encHeld h) 114)
  obtain ⟨y, hy⟩ : ∃ y, (aget m h.pane).getD zHeld = y := ⟨_, rfl⟩
  have HY := Lib.hid hy
  have HG : Hid (∀ (w3 w4 : World), Below w.heap.size w w3 → Turn mb w3 w4 → w.grownBy w4 (some mb)) := Lib.hid fun w3 w4 hb hT => ⟨hT.os.trans hb.os, hT.tape.trans hb.tape, hT.output.trans hb.output, by rw [hT.size]; exact hb.size, fun k hk hn => (hT.block k (fun e => hn (by rw [e]))).trans (hb.block k hk)⟩
  clear hm hh hc hy
  by_cases hin : ahas m h.pane = true
  · have HI := Lib.hid hin
    have HF : Hid (firstH m h = m) := Lib.hid (by unfold firstH; rw [if_pos hin])
    clear hin
    go_enter Tryz.func66, Tryz.ntmps66
    go_wp2_with (first
      | ((with_reducible refine at_dst 9 ?_); refine wpList_lookok rfl _ _ 122 rfl intKey Tryz.underlying122 zHeld (zeroHeld _) rfl HM1.out h.pane HH.out rfl ?_; rw [HI.out, HY.out])
      | ((with_reducible refine at_storeTo 3 ?_); refine wpList_store_box (BoxAt.newN (n := w.heap.size + 1) _ _ _ (by simp)) rfl 114 _ _ rfl rfl (.agg (encHeld y)) rfl (by kernel_rfl) rfl (one_agg (encHeld_one _)) ?_; intro w3 hb3 hT3; have hB3 : Below w.heap.size w w3 := (hb2.alloc (by simp) _).trans (hT3.below (Nat.le_succ _)); have hm3 : MapAt vi vHeld I64 w3 mb m := (HM1.out.alloc _).turn hT3 (by omega)))
    go_end0
    exact ⟨rfl, by rw [HF.out]; exact hm3, HG.out w3 w3 hB3 (Turn.refl _ _)⟩
  · have hin' : ahas m h.pane = false := by simpa using hin
    have HI := Lib.hid hin'
    have HF : Hid (firstH m h = aput m h.pane h) := Lib.hid (by unfold firstH; rw [if_neg hin])
    clear hin hin'
    go_enter Tryz.func66, Tryz.ntmps66
    go_wp2_with (first
      | ((with_reducible refine at_dst 9 ?_); refine wpList_lookok rfl _ _ 122 rfl intKey Tryz.underlying122 zHeld (zeroHeld _) rfl HM1.out h.pane HH.out rfl ?_; rw [HI.out, HY.out])
      | ((with_reducible refine at_storeTo 3 ?_); refine wpList_store_box (BoxAt.newN (n := w.heap.size + 1) _ _ _ (by simp)) rfl 114 _ _ rfl rfl (.agg (encHeld y)) rfl (by kernel_rfl) rfl (one_agg (encHeld_one _)) ?_; intro w3 hb3 hT3; have hB3 : Below w.heap.size w w3 := (hb2.alloc (by simp) _).trans (hT3.below (Nat.le_succ _)); have hm3 : MapAt vi vHeld I64 w3 mb m := (HM1.out.alloc _).turn hT3 (by omega); have hbh3 := (hbh.alloc (.cells (encHeld zHeld) 114)).turn hT3 (by omega); have hc3 : w3.cell? ⟨cb, 0, none⟩ = some (.map (some mb)) := (((hc1.alloc _).turn hT3 (by omega)).cell 0).trans rfl; have hp3 : w3.cell? ⟨w.heap.size, 0, none⟩ = some (vi h.pane) := (hbh3.cell 0).trans rfl)
      | ((with_reducible refine at_dst 17 ?_); refine wpList_loadB hbh3 rfl 114 _ rfl rfl (encHeld h) (whole_cells _) Tryz.underlying114 rfl (by kernel_rfl) ?_)
      | (at_mapUpdate; refine wpList_store_map rfl _ _ _ 122 rfl intKey Tryz.underlying122 rfl hm3 h.pane HH.out rfl h rfl ?_; intro w4 hm4 hT4))
    go_end0
    exact ⟨rfl, by rw [HF.out]; exact hm4, HG.out w3 w4 hB3 hT4⟩
end Go.Proofs.YtendmmhfjhgdaaaGreat
end
section
set_option linter.unusedVariables false
set_option linter.unusedSimpArgs false
namespace Go.Proofs.YtendmmhfjhgdaaaGreat
open Go.RowKit

theorem grownBy_below {n mb : Nat} {w w' : World} (h : w.grownBy w' (some mb)) (hn : n ≤ mb) (hs : n ≤ w.heap.size) : Below n w w' := ⟨h.os, h.tape, h.output, h.size, fun k hk => h.block k (by omega) (fun e => by cases e; omega)⟩
theorem BoxAt.grownBy {b mb : Nat} {w w' : World} {T : TypeId} {cs : Array Value} (hb : BoxAt w b T cs) (h : w.grownBy w' (some mb)) (hn : b ≠ mb) : BoxAt w' b T cs := hb.of_block (h.block _ hb.lt (fun e => by cases e; exact hn rfl))
theorem firstH_len (m : List (Int × Held)) (h : Held) : (firstH m h).length ≤ m.length + 1 := by
  unfold firstH
  split
  · omega
  · rename_i hh; simp [aput, hh]
theorem foldl_firstH_len : ∀ (l : List Held) (m : List (Int × Held)), (l.foldl firstH m).length ≤ m.length + l.length
  | [], m => by simp
  | x :: l, m => by
    have h1 := foldl_firstH_len l (firstH m x)
    have h2 := firstH_len m x
    simp only [List.foldl_cons, List.length_cons]; omega
theorem ofWhere_snoc (l : List Where) (x : Where) : ofWhere (l ++ [x]) = if x.kind = 3 then ofWhere l ++ [heldOf x] else ofWhere l := by
  unfold ofWhere
  by_cases h : x.kind = 3 <;> simp [h]
theorem ofWhere_len (l : List Where) : (ofWhere l).length ≤ l.length := by
  unfold ofWhere; rw [List.length_map]; exact List.length_filter_le _ _

set_option maxRecDepth 20000 in
set_option maxHeartbeats 4000000 in
theorem found_any (D : Nat → Prop) (R : Register) (w : World) (hs : R.wher.OK 7 encWhere okWhere D w) (hg : R.new_.OK 5 encHeld okHeld D w) (hl1 : R.wher.val.length ≤ 1000) (hl2 : R.new_.val.length ≤ 1000) :
    Calls Tryz.prog 35 #[.agg (encRegister R)] w fun e w' => ∃ v, e = .returned v ∧ OwnL encHeld 5 w' w.heap.size 114 v (foundR R.wher.val R.new_.val) ∧ (∀ x ∈ foundR R.wher.val R.new_.val, okHeld (fun _ => False) w x) ∧ Below w.heap.size w w' := by
  have hbR2 : BoxAt ((w.alloc (.cells (encRegister R) 58)).alloc (.map #[] 0)) w.heap.size 58 (encRegister R) := (BoxAt.new _ _ _).alloc _
  have hm2 : MapAt vi vHeld I64 ((w.alloc (.cells (encRegister R) 58)).alloc (.map #[] 0)) (w.heap.size + 1) [] := by have h := MapAt.made vi vHeld I64 (w.alloc (.cells (encRegister R) 58)); rw [World.size_alloc] at h; exact h
  have hB2 : Below w.heap.size w ((w.alloc (.cells (encRegister R) 58)).alloc (.map #[] 0)) := ((Below.refl _ _).alloc (Nat.le_refl _) _).alloc (by simp) _
  have HS := Lib.hid hs
  have HG := Lib.hid hg
  clear hs hg
  obtain ⟨⟨a, cap, val⟩, hwv⟩ : ∃ s, R.wher = s := ⟨_, rfl⟩
  obtain ⟨⟨a2, cap2, val2⟩, hgv⟩ : ∃ s, R.new_ = s := ⟨_, rfl⟩
  rw [hwv] at HS hl1 ⊢
  rw [hgv] at HG hl2 ⊢
  simp only at hl1 hl2
  have HCW : Hid ((encRegister R)[1]? = some (.slice a val.length cap)) := Lib.hid (by rw [show (encRegister R)[1]? = some R.wher.v from rfl, hwv]; rfl)
  have HCG : Hid ((encRegister R)[2]? = some (.slice a2 val2.length cap2)) := Lib.hid (by rw [show (encRegister R)[2]? = some R.new_.v from rfl, hgv]; rfl)
  have HOK : Hid (∀ x ∈ foundR val val2, okHeld (fun _ => False) w x) := Lib.hid fun x hx => by
    have hp := (foundInv val val2).perm.mem_iff.1 hx
    obtain ⟨p, hp2, rfl⟩ := List.mem_map.1 hp
    have hmem : ∀ (l : List Held) (m : List (Int × Held)), (∀ q ∈ m, okHeld (fun _ => False) w q.2) → (∀ y ∈ l, okHeld (fun _ => False) w y) → ∀ q ∈ l.foldl firstH m, okHeld (fun _ => False) w q.2 := by
      intro l
      induction l with
      | nil => intro m h _; exact h
      | cons y l ih =>
        intro m h hl
        refine ih (firstH m y) (fun q hq => ?_) (fun z hz => hl z (List.mem_cons_of_mem _ hz))
        unfold firstH at hq
        split at hq
        · exact h q hq
        · rcases mem_aput hq with rfl | hq
          · exact hl y (by simp)
          · exact h q hq
    refine hmem (ofWhere val ++ val2) [] (by simp) (fun y hy => ?_) p hp2
    rcases List.mem_append.1 hy with hy | hy
    · unfold ofWhere at hy
      obtain ⟨z, hz, rfl⟩ := List.mem_map.1 hy
      have ho := HS.out.elem z (List.mem_filter.1 hz).1
      exact ⟨ho.2.2.1, ho.1, I64_zero, ho.2.2.2.1⟩
    · exact HG.out.elem y hy
  clear hwv hgv
  have hmm := @run_makeMap Tryz.prog
  go_enter Tryz.func35, Tryz.ntmps35
  go_wp2_with ((with_reducible refine at_storeTo 3 ?_); refine wpList_store_box (BoxAt.newN (n := w.heap.size + 2) _ _ _ (by simp)) rfl 122 _ _ rfl rfl (.map (some (w.heap.size + 1))) rfl (by kernel_rfl) rfl (one_map _) ?_; intro w3 hb3 hT3; have hc3 := hb3.eqv (splice_whole _ #[.map (some (w.heap.size + 1))] rfl); have hm3 := (hm2.alloc (.cells #[.map none] 122)).turn hT3 (by omega); have hR3 := (hbR2.alloc (.cells #[.map none] 122)).turn hT3 (by omega); have hB3 : Below w.heap.size w w3 := (hB2.alloc (by simp; omega) _).trans (hT3.below (by omega)); have hcR3 : w3.cell? ⟨w.heap.size, 1, none⟩ = some (.slice a val.length cap) := (hR3.cell 1).trans HCW.out)
  clear hT3 hb3 hm2 hbR2 hB2
  go_loopw [6, 17] (fun _ i wr => ∃ k : Nat, k ≤ val.length ∧ i = .int .i64 k ∧ Hid (MapAt vi vHeld I64 wr (w.heap.size + 1) ((ofWhere (val.take k)).foldl firstH [])) ∧ BoxAt wr w.heap.size 58 (encRegister R) ∧ BoxAt wr (w.heap.size + 2) 122 #[.map (some (w.heap.size + 1))] ∧ Below w.heap.size w wr) (fun _ i _ => val.length - (Go.RowKit.intOf i).toNat)
  case atStart => exact ⟨0, Nat.zero_le _, rfl, Lib.hid (by simpa [ofWhere] using hm3), hR3, hc3, hB3⟩
  case round =>
    obtain ⟨k, hk, rfl, HM, hR, hc, hB⟩ := hrel
    by_cases hlt : k < val.length
    · obtain ⟨x, hx⟩ : ∃ x, val[k]? = some x := ⟨_, List.getElem?_eq_getElem hlt⟩
      obtain ⟨bb, o, rfl, hb, _, hok, hcell⟩ := HS.out.at hx
      have HC : Hid (∀ j, j < (encWhere x).size → wr.cell? ⟨bb, o + k * 7 + j, none⟩ = (encWhere x)[j]?) := Lib.hid fun j hj => by rw [hB.cell (p := ⟨bb, o + k * 7 + j, none⟩) hb]; exact hcell j hj
      have hi1 : (k : Int) < (val.length : Int) := by omega
      have HX := Lib.hid hx
      have HPX : Hid (I64 x.at_) := Lib.hid hok.2.2.1
      have hgsz : w.heap.size + 3 ≤ wr.heap.size := hc.lt
      clear hx hok hcell hb
      by_cases hp : x.kind = 3
      · go_wp2_with (first
          | ((with_reducible refine at_dst 20 ?_); refine wpList_load_at rfl 66 _ rfl bb (o + k * 7) rfl (encWhere x) _ HC.out Tryz.underlying66 rfl (by kernel_rfl) ?_)
          | ((with_reducible refine at_storeTo 6 ?_); refine wpList_store_box (BoxAt.newN (n := wr.heap.size) _ _ _ rfl) rfl 66 _ _ rfl rfl (.agg (encWhere x)) rfl (by kernel_rfl) rfl (one_agg (encWhere_one _)) ?_; intro w4 hb4 hT4; have hbx4 := hb4.eqv (splice_whole _ (encWhere x) rfl); have hk4 : w4.cell? ⟨wr.heap.size, 1, none⟩ = some (vi x.kind) := (hbx4.cell 1).trans rfl; have ha4 : w4.cell? ⟨wr.heap.size, 2, none⟩ = some (vi x.at_) := (hbx4.cell 2).trans rfl; have hp4 : w4.cell? ⟨wr.heap.size, 0, none⟩ = some (vi x.piece) := (hbx4.cell 0).trans rfl; have hB4 : Below wr.heap.size wr w4 := ((Below.refl _ _).alloc (Nat.le_refl _) _).trans (hT4.below (Nat.le_refl _)); have hm4 := HM.out.below hB4 HM.out.lt; have hR4 := hR.belowAll hB4; have hc4 := hc.belowAll hB4; have HF := Lib.hid (first_any _ _ _ (heldOf x) w4 hm4 hc4 HPX.out (by omega)))
          | ((with_reducible refine at_dst 30 ?_); refine wpList_loadB hbx4 rfl 29 _ rfl rfl (encSetting x.setting) (fun j hj => by (have hj : j < 2 := hj; rcases j with _ | _ | j; rfl; rfl; omega)) Tryz.underlying29 rfl (by kernel_rfl) ?_)
          | (go_at_call 66; refine HF.out.mono ?_; rintro e w5 ⟨rfl, hm5, hg5⟩))
        go_roundw
        case rel => exact ⟨k + 1, by omega, by go_num, Lib.hid (by rw [take_snoc HX.out, ofWhere_snoc, if_pos hp, List.foldl_append]; exact hm5), hR4.grownBy hg5 (by omega), hc4.grownBy hg5 (by omega), (hB.trans (hB4.mono hB.size)).trans (grownBy_below hg5 (by omega) (by have := hB4.size; omega))⟩
        case measure => simp [Go.RowKit.intOf]; omega
      · go_wp2_with (first
          | ((with_reducible refine at_dst 20 ?_); refine wpList_load_at rfl 66 _ rfl bb (o + k * 7) rfl (encWhere x) _ HC.out Tryz.underlying66 rfl (by kernel_rfl) ?_)
          | ((with_reducible refine at_storeTo 6 ?_); refine wpList_store_box (BoxAt.newN (n := wr.heap.size) _ _ _ rfl) rfl 66 _ _ rfl rfl (.agg (encWhere x)) rfl (by kernel_rfl) rfl (one_agg (encWhere_one _)) ?_; intro w4 hb4 hT4; have hbx4 := hb4.eqv (splice_whole _ (encWhere x) rfl); have hk4 : w4.cell? ⟨wr.heap.size, 1, none⟩ = some (vi x.kind) := (hbx4.cell 1).trans rfl; have hB4 : Below wr.heap.size wr w4 := ((Below.refl _ _).alloc (Nat.le_refl _) _).trans (hT4.below (Nat.le_refl _))))
        go_roundw
        case rel => exact ⟨k + 1, by omega, by go_num, Lib.hid (by rw [take_snoc HX.out, ofWhere_snoc, if_neg hp]; exact HM.out.below hB4 HM.out.lt), hR.belowAll hB4, hc.belowAll hB4, hB.trans (hB4.mono hB.size)⟩
        case measure => simp [Go.RowKit.intOf]; omega
    · have hk' : k = val.length := by omega
      have HM1 : Hid (MapAt vi vHeld I64 wr (w.heap.size + 1) ((ofWhere val).foldl firstH [])) := Lib.hid (by have h := HM.out; rwa [hk', List.take_length] at h)
      have hcR : wr.cell? ⟨w.heap.size, 2, none⟩ = some (.slice a2 val2.length cap2) := (hR.cell 2).trans HCG.out
      have hcS := hc
      have hBS := hB
      clear HM hm3 hR3 hc3 hB3 hcR3
      go_wp2
      clear hcR hk hk' hlt hR hc hB
      go_loopw [8, 37] (fun _ i wr => ∃ k : Nat, k ≤ val2.length ∧ i = .int .i64 k ∧ Hid (MapAt vi vHeld I64 wr (w.heap.size + 1) ((ofWhere val ++ val2.take k).foldl firstH [])) ∧ BoxAt wr (w.heap.size + 2) 122 #[.map (some (w.heap.size + 1))] ∧ Below w.heap.size w wr) (fun _ i _ => val2.length - (Go.RowKit.intOf i).toNat)
      case atStart => exact ⟨0, Nat.zero_le _, rfl, Lib.hid (by simpa using HM1.out), hcS, hBS⟩
      case round =>
        obtain ⟨k, hk, rfl, HM, hc, hB⟩ := hrel
        by_cases hlt : k < val2.length
        · obtain ⟨x, hx⟩ : ∃ x, val2[k]? = some x := ⟨_, List.getElem?_eq_getElem hlt⟩
          obtain ⟨bb, o, rfl, hb, _, hok, hcell⟩ := HG.out.at hx
          have HC : Hid (∀ j, j < (encHeld x).size → wr.cell? ⟨bb, o + k * 5 + j, none⟩ = (encHeld x)[j]?) := Lib.hid fun j hj => by rw [hB.cell (p := ⟨bb, o + k * 5 + j, none⟩) hb]; exact hcell j hj
          have hi1 : (k : Int) < (val2.length : Int) := by omega
          have HX := Lib.hid hx
          have HPX : Hid (I64 x.pane) := Lib.hid hok.1
          have hgsz : w.heap.size + 3 ≤ wr.heap.size := hc.lt
          clear hx hok hcell hb
          go_wp2_with (first
            | ((with_reducible refine at_dst 40 ?_); refine wpList_load_at rfl 114 _ rfl bb (o + k * 5) rfl (encHeld x) _ HC.out Tryz.underlying114 rfl (by kernel_rfl) ?_)
            | ((with_reducible refine at_storeTo 8 ?_); refine wpList_store_box (BoxAt.newN (n := wr.heap.size) _ _ _ rfl) rfl 114 _ _ rfl rfl (.agg (encHeld x)) rfl (by kernel_rfl) rfl (one_agg (encHeld_one _)) ?_; intro w4 hb4 hT4; have hbx4 := hb4.eqv (splice_whole _ (encHeld x) rfl); have hB4 : Below wr.heap.size wr w4 := ((Below.refl _ _).alloc (Nat.le_refl _) _).trans (hT4.below (Nat.le_refl _)); have hm4 := HM.out.below hB4 HM.out.lt; have hc4 := hc.belowAll hB4; have HF := Lib.hid (first_any _ _ _ x w4 hm4 hc4 HPX.out (by omega)))
            | ((with_reducible refine at_dst 42 ?_); refine wpList_loadB hbx4 rfl 114 _ rfl rfl (encHeld x) (whole_cells _) Tryz.underlying114 rfl (by kernel_rfl) ?_)
            | (go_at_call 66; refine HF.out.mono ?_; rintro e w5 ⟨rfl, hm5, hg5⟩))
          go_roundw
          case rel => exact ⟨k + 1, by omega, by go_num, Lib.hid (by rw [take_snoc HX.out, ← List.append_assoc, List.foldl_append]; exact hm5), hc4.grownBy hg5 (by omega), (hB.trans (hB4.mono hB.size)).trans (grownBy_below hg5 (by omega) (by have := hB4.size; omega))⟩
          case measure => simp [Go.RowKit.intOf]; omega
        · have hk' : k = val2.length := by omega
          obtain ⟨m, hmE⟩ : ∃ m, foundM val val2 = m := ⟨_, rfl⟩
          have HME := Lib.hid hmE
          have HM2 : Hid (MapAt vi vHeld I64 wr (w.heap.size + 1) m) := Lib.hid (by have h := HM.out; rw [hk', List.take_length] at h; rw [← hmE]; exact h)
          have hml : m.length ≤ 2000 := by
            have h1 := foldl_firstH_len (ofWhere val ++ val2) []
            have h2 := ofWhere_len val
            rw [← hmE]; unfold foundM; simp only [List.length_append, List.length_nil] at h1; omega
          have hcm : wr.cell? ⟨w.heap.size + 2, 0, none⟩ = some (.map (some (w.heap.size + 1))) := (hc.cell 0).trans rfl
          have hgsz : w.heap.size + 3 ≤ wr.heap.size := hc.lt
          have HSK : Hid (Calls Tryz.prog 67 #[.func (.func 116) #[] #[.pointer (some ⟨wr.heap.size, 0, none⟩)]] (wr.alloc (.cells #[.map (some (w.heap.size + 1))] 122)) _) := Lib.hid (sorted_Held (HM2.out.alloc _) (((BoxAt.new wr _ _).cell 0).trans rfl) (by simp) (by omega))
          have hcS := hc
          have hBS := hB
          clear hmE HM HM1 hc hB
          go_wp2_with (first
            | (go_at_call 68; (with_reducible refine (keys_Held _ _).mono ?_); rintro e w1 ⟨rfl, rfl⟩)
            | (go_at_call 67; (with_reducible refine HSK.out.mono ?_); rintro e w4 ⟨vk, rfl, hok, hb4⟩; obtain ⟨ak, ck, rfl⟩ := hok.shape; have hBk : Below wr.heap.size wr w4 := ((Below.refl _ _).alloc (Nat.le_refl _) _).trans (hb4.mono (by simp))))
          have HKO : Hid (OwnL encInt 1 w4 wr.heap.size 3 (.slice ak (keysUp m).length ck) (keysUp m)) := Lib.hid (hok.base_le (by simp))
          have hm4 := HM2.out.below hBk HM2.out.lt
          have hc4 := hcS.belowAll hBk
          have hB4 := hBS.trans (hBk.mono hBS.size)
          have hkl : (keysUp m).length ≤ 2000 := by rw [keysUp_len]; exact hml
          have hszk : wr.heap.size ≤ w4.heap.size := hBk.size
          clear hok hb4 HSK hcm hk hk' hlt hcS hBS
          obtain ⟨wk, rfl⟩ : ∃ wk, wk = wr := ⟨wr, rfl⟩
          go_loopw [9, 11, 49] (fun r _ i wr => ∃ k : Nat, k ≤ (keysUp m).length ∧ i = .int .i64 k ∧ Hid (OwnL encHeld 5 wr w4.heap.size 114 r (((keysUp m).take k).map fun q => (aget m q).getD zHeld)) ∧ Below w4.heap.size w4 wr) (fun _ _ i _ => (keysUp m).length - (Go.RowKit.intOf i).toNat)
          case atStart => exact ⟨0, Nat.zero_le _, rfl, Lib.hid (OwnL.nil _ _ _ _ _), Below.refl _ _⟩
          case round =>
            obtain ⟨k, hk, rfl, HO, hBq⟩ := hrel
            by_cases hlt : k < (keysUp m).length
            · obtain ⟨x, hx⟩ : ∃ x, (keysUp m)[k]? = some x := ⟨_, List.getElem?_eq_getElem hlt⟩
              have HKq : KeysAt (wk.heap.size - 2) w4 [] (.slice ak (keysUp m).length ck) (keysUp m) := ⟨by have h := HKO.out; rwa [show wk.heap.size - 2 + 2 = wk.heap.size by omega], by simp⟩
              obtain ⟨gk, rfl, hcx0⟩ := HKq.at hx
              have hgk : gk < w4.heap.size := (HKO.out.block gk rfl).2
              have hcx : wr.cell? ⟨gk, k, none⟩ = some (vi x) := (hBq.cell (p := ⟨gk, k, none⟩) hgk).trans hcx0
              have hi1 : (k : Int) < ((keysUp m).length : Int) := by omega
              have HX := Lib.hid hx
              have HXI : Hid (I64 x) := Lib.hid (keysUp_ok HM2.out x (List.mem_of_getElem? hx))
              have hmq := hm4.below hBq hm4.lt
              have hcq := hc4.belowAll hBq
              have hcmq : wr.cell? ⟨w.heap.size + 2, 0, none⟩ = some (.map (some (w.heap.size + 1))) := (hcq.cell 0).trans rfl
              obtain ⟨y, hy⟩ : ∃ y, (aget m x).getD zHeld = y := ⟨_, rfl⟩
              have HY := Lib.hid hy
              have hqs : w4.heap.size ≤ wr.heap.size := hBq.size
              have hol : (((keysUp m).take k).map fun q => (aget m q).getD zHeld).length ≤ 2000 := by simp; omega
              clear hx hcx0 HKq hy
              go_wp2_with (first
                | ((with_reducible refine at_dst 56 ?_); refine wpList_look rfl _ _ 122 rfl intKey Tryz.underlying122 zHeld (zeroHeld _) rfl hmq x HXI.out rfl ?_; rw [HY.out])
                | ((with_reducible refine at_dst 58 ?_); refine wpList_append_oneAt rfl _ _ 53 rfl w4.heap.size einfo_Held (fun _ => rfl) (by decide) encHeld_one (by decide) _ _ rfl (HO.out.belowAll ((Below.refl _ _).alloc (Nat.le_refl _) _)) wr.heap.size 0 1 y rfl (cells_of_eq (buildHeld y)) (by omega) (by simp; omega) ?_; intro v5 w5 ho5 hg5 hne5 hat5))
              go_roundw
              case rel => exact ⟨k + 1, by omega, by go_num, Lib.hid (by rw [take_snoc HX.out, List.map_append, List.map_cons, List.map_nil, HY.out]; exact ho5), hBq.trans (app_below HO.out hg5 (Nat.le_refl _) hqs)⟩
              case measure => simp [Go.RowKit.intOf]; omega
            · have hk' : k = (keysUp m).length := by omega
              obtain ⟨l', hl'⟩ : ∃ l', (keysUp m).map (fun q => (aget m q).getD zHeld) = l' := ⟨_, rfl⟩
              have HL' := Lib.hid hl'
              have HOF : Hid (OwnL encHeld 5 wr w4.heap.size 114 u9 l') := Lib.hid (by have h := HO.out; rw [hk', List.take_length, hl'] at h; exact h)
              have hll : l'.length ≤ 4294967296 := by rw [← hl']; simp; omega
              have HST := Lib.hid (held_sort wr w4.heap.size u9 l' HOF.out hll)
              clear hl' HO
              go_wp2_with (go_at_call 69; refine HST.out.mono ?_; rintro e w6 ⟨rfl, l2, hp2, hu2, ho6, hg6⟩)
              go_ret
              have hfin : l2 = foundR val val2 := found_unique (hp2.trans (by rw [← HL'.out, HME.out]; exact values_perm HM2.out.nodup zHeld (keysUp_perm m))) hu2
              refine ⟨_, rfl, ?_, HOK.out, ?_⟩
              · rw [← hfin]; exact ho6.base_le (by have := hB4.size; omega)
              · exact hB4.trans ((hBq.trans (Below.appended HOF.out hg6 (Nat.le_refl _) hBq.size)).mono hB4.size)
end Go.Proofs.YtendmmhfjhgdaaaGreat
end
