/-
  CheckNote, CheckSet, isSet: walked.
-/
import Derived.Test.YtnmgfnpphglphaaGreatWell
import Derived.Test.YtnmgfnpphglphaaGreatLays
set_option maxHeartbeats 16000000
set_option maxRecDepth 100000
set_option linter.unusedVariables false
set_option linter.unusedSimpArgs false
namespace Go.Proofs.YtnmgfnpphglphaaGreat
open Go.RowKit
def setFrom (p : Option Note) (i : Nat) : List Note → Int × Int
 | [] => (0, 0)
 | n :: r => if wellB n = false then (90, i) else
  match p with
  | none => setFrom (some n) (i + 1) r
  | some m => if compareRefsI (refN m) (refN n) = 0 then (91, i) else if compareRefsI (refN m) (refN n) = 1 then (1, i) else setFrom (some n) (i + 1) r
def checkSetR (l : List Note) : Int × Int := if 400 < (l.length : Int) then (2, 0) else setFrom none 0 l
def isSetB (l : List Note) : Bool := (checkSetR l).1 == 0
theorem run_load_mem {P : Program} {W : World} {ev : Operand → Value} {dst : Option Tmp} {ty ty0 : TypeId} {x : Operand} {pos : String} {af : Array Edge} {g : Option (Nat × Bool)} {b off : Nat} (ds : Array Value) {d : TypeDesc}
  (hx : ev x = .pointer (some ⟨b, off, none⟩)) (hds : ∀ j, j < ds.size → W.cell? ⟨b, off + j, none⟩ = ds[j]?) (hu : P.underlying ty = some d) (hd : (match d with | .struct _ | .array _ _ => true | _ => false) = true)
  (hi : (P.info? ty).map (·.size) = some ds.size) : (execOp ev ⟨dst, .load ty x, ty0, pos, af, g⟩).run P W = .ok (.value (.agg ds)) W := by
 have hl := run_loadVar_at (P := P) W b off ty ds d hds hu hd hi
 unfold execOp
 simp only [hx, Instr.loadAt, Instr.sureAddr, Sem.run_bind, Sem.run_pure, Result.andThen_ok, hl]
theorem checkSet_any (D : Nat → Prop) (s : Sl Note) (w : World) (hs : s.OK 29 encNote okNote D w) :
  Calls Tryz.prog 131 #[.slice s.a s.val.length s.cap] w fun e w' => e = .returned (.tuple #[.int .i64 (checkSetR s.val).1, .int .i64 (checkSetR s.val).2]) ∧ Below w.heap.size w w' := by
 have hroom := hs.room
 have HS := Lib.hid hs
 clear hs
 obtain ⟨a, cap, val⟩ := s
 simp only at hroom
 by_cases hlong : 400 < (val.length : Int)
 ·have HR : Hid (checkSetR val = (2, 0)) := Lib.hid (by simp [checkSetR, hlong])
  go_enter Tryz.func131, Tryz.ntmps131
  go_wp2
  exact bodyPost_ret (v := .tuple #[.int .i64 2, .int .i64 0]) (by simp [results, Tryz.results131, go_sem]) rfl ⟨by simp [HR.out], Below.refl _ _⟩
 have HR : Hid (checkSetR val = setFrom none 0 val) := Lib.hid (by simp only [checkSetR]; rw [if_neg hlong])
 go_enter Tryz.func131, Tryz.ntmps131
 go_wp2
 go_loopw [4, 5, 11] (fun _ _ i wr => ∃ k : Nat, k ≤ val.length ∧ i = .int .i64 k ∧ Hid (checkSetR val = setFrom (if k = 0 then none else val[k - 1]?) k (val.drop k)) ∧ Below w.heap.size w wr) (fun _ _ i _ => val.length - (intOf i).toNat)
 case atStart => exact ⟨0, Nat.zero_le _, rfl, Lib.hid (by rw [HR.out]; simp), Below.refl _ _⟩
 case round =>
  obtain ⟨k, hk, rfl, hn, hB⟩ := hrel
  by_cases hlt : k < val.length
  ·obtain ⟨y, hy⟩ : ∃ y, val[k]? = some y := ⟨_, List.getElem?_eq_getElem hlt⟩
   obtain ⟨b, o, rfl, hb, _, hok, hcell⟩ := HS.out.at hy
   have HC : Hid (∀ W, Below w.heap.size w W → ∀ j, j < (encNote y).size → W.cell? ⟨b, o + k * 29 + j, none⟩ = (encNote y)[j]?) := Lib.hid fun W hW j hj => by
    rw [(Ext.of_below (D := fun _ => False) hW).cell hb id]; exact hcell j hj
   have hi1 : (k : Int) < (val.length : Int) := by omega
   have HV : Hid (∀ W, Below w.heap.size w W → Calls Tryz.prog 41 #[.agg (encNote y)] W fun e w' => e = .returned (.bool (wellB y)) ∧ Below W.heap.size W w') :=
    Lib.hid fun W hW => wellFormed_any D y W (okNote.ext hok (.of_below hW))
   have hdrop : val.drop k = y :: val.drop (k + 1) := by
    rw [List.drop_eq_getElem_cons hlt]; congr 1; have := List.getElem?_eq_getElem hlt; rw [hy] at this; exact (Option.some.inj this).symm
   have HD := Lib.hid hdrop
   have HY := Lib.hid hy
   have hBb : Below w.heap.size w (wr.alloc (.cells (encNote y) 43)) := hB.alloc hB.size _
   clear hy hcell hok hdrop
   rcases hw : wellB y
   case false =>
    have HF : Hid (checkSetR val = (90, (k : Int))) := Lib.hid (by rw [hn.out, HD.out]; unfold setFrom; rw [if_pos hw])
    simp only [hw] at HV
    go_wp2_with (first
     | (with_reducible refine at_dst 15 ?_; refine wpList_load_at rfl 43 _ rfl b (o + k * 29) rfl (encNote y) _ (HC.out _ hB) Tryz.underlying43 rfl (by kernel_rfl) ?_)
     | (with_reducible refine at_store ?_; refine wpList_store_last (cs := encNote y) rfl 43 _ _ rfl rfl rfl rfl (by kernel_rfl) rfl (encNote_one _) ?_)
     | (with_reducible refine at_dst 16 ?_; refine wpList_loadB (BoxAt.new _ _ _) rfl 43 _ rfl rfl (encNote y) (whole_cells _) Tryz.underlying43 rfl (by kernel_rfl) ?_)
     | (go_at_call 41; refine (HV.out _ hBb).mono ?_; rintro e w1 ⟨rfl, hb1⟩))
    exact bodyPost_ret (v := .tuple #[.int .i64 90, .int .i64 (k : Int)]) (by simp [results, Tryz.results131, go_sem]) rfl ⟨by simp [HF.out], Below.call hBb hb1 (Nat.le_refl _)⟩
   case true =>
   simp only [hw] at HV
   cases k with
   | zero =>
    have HF : Hid (checkSetR val = setFrom (some y) 1 (val.drop 1)) := Lib.hid (by rw [hn.out, HD.out]; simp [setFrom, hw])
    simp only [Nat.zero_mul, Nat.add_zero] at HC
    rw [show ((0 : Nat) : Int) = 0 from rfl]
    go_wp2_with (first
     | (with_reducible refine at_dst 15 ?_; refine wpList_load_at rfl 43 _ rfl b (o) rfl (encNote y) _ (HC.out _ hB) Tryz.underlying43 rfl (by kernel_rfl) ?_)
     | (with_reducible refine at_store ?_; refine wpList_store_last (cs := encNote y) rfl 43 _ _ rfl rfl rfl rfl (by kernel_rfl) rfl (encNote_one _) ?_)
     | (with_reducible refine at_dst 16 ?_; refine wpList_loadB (BoxAt.new _ _ _) rfl 43 _ rfl rfl (encNote y) (whole_cells _) Tryz.underlying43 rfl (by kernel_rfl) ?_)
     | (go_at_call 41; refine (HV.out _ hBb).mono ?_; rintro e w1 ⟨rfl, hb1⟩))
    go_roundw
    case rel => exact ⟨1, by omega, by go_num, Lib.hid (by rw [HF.out]; simp [HY.out]), Below.call hBb hb1 (Nat.le_refl _)⟩
    case measure => simp [intOf]; omega
   | succ m =>
    obtain ⟨x, hx⟩ : ∃ x, val[m]? = some x := ⟨_, List.getElem?_eq_getElem (by omega)⟩
    have hcell2 := HS.out.cell b o rfl _ _ hx
    have HC2 : Hid (∀ W, Below w.heap.size w W → ∀ j, j < (encNote x).size → W.cell? ⟨b, o + m * 29 + j, none⟩ = (encNote x)[j]?) := Lib.hid fun W hW j hj => by
     rw [(Ext.of_below (D := fun _ => False) hW).cell hb id]; exact hcell2 j hj
    have HF : Hid (checkSetR val = if compareRefsI (refN x) (refN y) = 0 then (91, ((m + 1 : Nat) : Int)) else if compareRefsI (refN x) (refN y) = 1 then (1, ((m + 1 : Nat) : Int)) else setFrom (some y) (m + 2) (val.drop (m + 2))) := Lib.hid (by
     rw [hn.out, HD.out, if_neg (Nat.succ_ne_zero m), Nat.add_sub_cancel, hx, setFrom, if_neg (by simp [hw])])
    clear hx hcell2
    have h1 : IntKind.i64.wrap (m : Int) = m := IntWalk.i64_in _ (by omega)
    have h2 : (m : Int) < (val.length : Int) := by omega
    have h6 : (0 : Int) < (m : Int) + 1 := by omega
    have h3 : (m : Int) + 1 < (val.length : Int) := by omega
    have h4 : (0 : Int) ≤ (m : Int) + 1 := by omega
    have h5 : ((m : Int) + 1).toNat = m + 1 := by omega
    by_cases hc0 : compareRefsI (refN x) (refN y) = 0
    ·have HF0 : Hid (checkSetR val = (91, (m : Int) + 1)) := Lib.hid (by rw [HF.out, if_pos hc0]; simp)
     go_wp2_with (first
     | (with_reducible refine at_dst 15 ?_; refine wpList_load_at rfl 43 _ rfl b (o + (m + 1) * 29) rfl (encNote y) _ (HC.out _ hB) Tryz.underlying43 rfl (by kernel_rfl) ?_)
     | (with_reducible refine at_store ?_; refine wpList_store_last (cs := encNote y) rfl 43 _ _ rfl rfl rfl rfl (by kernel_rfl) rfl (encNote_one _) ?_)
     | (with_reducible refine at_dst 16 ?_; refine wpList_loadB (BoxAt.new _ _ _) rfl 43 _ rfl rfl (encNote y) (whole_cells _) Tryz.underlying43 rfl (by kernel_rfl) ?_)
     | (go_at_call 41; refine (HV.out _ hBb).mono ?_; rintro e w1 ⟨rfl, hb1⟩))
     have hB1 := (Below.call hBb hb1 (Nat.le_refl _)).drew
     have hbY : BoxAt w1.drew wr.heap.size 43 (encNote y) := ((BoxAt.new _ _ _).belowAll hb1).drew
     refine wp_region_ord [(0, true), (1, true), (2, true), (3, true), (4, true), (6, true), (5, false), (7, false), (8, false)] rfl (by kernel_rfl) (by kernel_rfl) (fun d _ _ _ _ h => by cases d <;> exact h) ?_
     iterate 4 (refine wpB_fix rfl rfl (fun W hW => by go_simp; with_reducible rfl) ?_; simp only [pTs, pTn, pTz, pTc])
     refine wpB_fix (v := .agg (encNote x)) rfl rfl (fun W hW => run_load_mem (b := b) (off := o + m * 29) (encNote x) rfl (HC2.out W (hB1.trans (hW.mono hB1.size))) Tryz.underlying43 rfl (by kernel_rfl)) ?_; simp only [pTs, pTn, pTz, pTc]
     refine wpB_fix (v := .agg (encNote y)) rfl rfl (fun W hW => run_load_box (encNote y) (hbY.belowAll hW) rfl (whole_cells _) Tryz.underlying43 rfl (by kernel_rfl)) ?_; simp only [pTs, pTn, pTz, pTc]
     refine wpB_act rfl rfl (fun K hK => ?_)
     go_simp
     refine (refOf_any x _).mono ?_
     rintro e w2 ⟨rfl, hb2⟩
     have hB2 := Below.call hB1 hb2 (Nat.le_refl _)
     refine hK _ _ hb2 ?_
     clear hK K
     try simp only [pTs, pTn, pTz, pTc]
     refine wpB_act rfl rfl (fun K hK => ?_)
     go_simp
     refine (refOf_any y _).mono ?_
     rintro e w3 ⟨rfl, hb3⟩
     have hB3 := Below.call hB2 hb3 (Nat.le_refl _)
     refine hK _ _ hb3 ?_
     clear hK K
     try simp only [pTs, pTn, pTz, pTc]
     refine wpB_act rfl rfl (fun K hK => ?_)
     go_simp
     refine (compareRefs_any (refN x) (refN y) _).mono ?_
     rintro e w4 ⟨rfl, hb4⟩
     have hB4 := Below.call hB3 hb4 (Nat.le_refl _)
     refine hK _ _ hb4 ?_
     clear hK K
     try simp only [pTs, pTn, pTz, pTc]
     simp only [wpB]
     go_wp2
     exact bodyPost_ret (v := .tuple #[.int .i64 91, .int .i64 ((m : Int) + 1)]) (by simp [results, Tryz.results131, go_sem]) rfl ⟨by simp [HF0.out], hB4⟩
    ·by_cases hc1 : compareRefsI (refN x) (refN y) = 1
     ·have HF1 : Hid (checkSetR val = (1, (m : Int) + 1)) := Lib.hid (by rw [HF.out, if_neg hc0, if_pos hc1]; simp)
      go_wp2_with (first
     | (with_reducible refine at_dst 15 ?_; refine wpList_load_at rfl 43 _ rfl b (o + (m + 1) * 29) rfl (encNote y) _ (HC.out _ hB) Tryz.underlying43 rfl (by kernel_rfl) ?_)
     | (with_reducible refine at_store ?_; refine wpList_store_last (cs := encNote y) rfl 43 _ _ rfl rfl rfl rfl (by kernel_rfl) rfl (encNote_one _) ?_)
     | (with_reducible refine at_dst 16 ?_; refine wpList_loadB (BoxAt.new _ _ _) rfl 43 _ rfl rfl (encNote y) (whole_cells _) Tryz.underlying43 rfl (by kernel_rfl) ?_)
     | (go_at_call 41; refine (HV.out _ hBb).mono ?_; rintro e w1 ⟨rfl, hb1⟩))
      have hB1 := (Below.call hBb hb1 (Nat.le_refl _)).drew
      have hbY : BoxAt w1.drew wr.heap.size 43 (encNote y) := ((BoxAt.new _ _ _).belowAll hb1).drew
      refine wp_region_ord [(0, true), (1, true), (2, true), (3, true), (4, true), (6, true), (5, false), (7, false), (8, false)] rfl (by kernel_rfl) (by kernel_rfl) (fun d _ _ _ _ h => by cases d <;> exact h) ?_
      iterate 4 (refine wpB_fix rfl rfl (fun W hW => by go_simp; with_reducible rfl) ?_; simp only [pTs, pTn, pTz, pTc])
      refine wpB_fix (v := .agg (encNote x)) rfl rfl (fun W hW => run_load_mem (b := b) (off := o + m * 29) (encNote x) rfl (HC2.out W (hB1.trans (hW.mono hB1.size))) Tryz.underlying43 rfl (by kernel_rfl)) ?_; simp only [pTs, pTn, pTz, pTc]
      refine wpB_fix (v := .agg (encNote y)) rfl rfl (fun W hW => run_load_box (encNote y) (hbY.belowAll hW) rfl (whole_cells _) Tryz.underlying43 rfl (by kernel_rfl)) ?_; simp only [pTs, pTn, pTz, pTc]
      refine wpB_act rfl rfl (fun K hK => ?_)
      go_simp
      refine (refOf_any x _).mono ?_
      rintro e w2 ⟨rfl, hb2⟩
      have hB2 := Below.call hB1 hb2 (Nat.le_refl _)
      refine hK _ _ hb2 ?_
      clear hK K
      try simp only [pTs, pTn, pTz, pTc]
      refine wpB_act rfl rfl (fun K hK => ?_)
      go_simp
      refine (refOf_any y _).mono ?_
      rintro e w3 ⟨rfl, hb3⟩
      have hB3 := Below.call hB2 hb3 (Nat.le_refl _)
      refine hK _ _ hb3 ?_
      clear hK K
      try simp only [pTs, pTn, pTz, pTc]
      refine wpB_act rfl rfl (fun K hK => ?_)
      go_simp
      refine (compareRefs_any (refN x) (refN y) _).mono ?_
      rintro e w4 ⟨rfl, hb4⟩
      have hB4 := Below.call hB3 hb4 (Nat.le_refl _)
      refine hK _ _ hb4 ?_
      clear hK K
      try simp only [pTs, pTn, pTz, pTc]
      simp only [wpB]
      go_wp2
      exact bodyPost_ret (v := .tuple #[.int .i64 1, .int .i64 ((m : Int) + 1)]) (by simp [results, Tryz.results131, go_sem]) rfl ⟨by simp [HF1.out], hB4⟩
     ·have HF2 : Hid (checkSetR val = setFrom (some y) (m + 2) (val.drop (m + 2))) := Lib.hid (by rw [HF.out, if_neg hc0, if_neg hc1])
      go_wp2_with (first
     | (with_reducible refine at_dst 15 ?_; refine wpList_load_at rfl 43 _ rfl b (o + (m + 1) * 29) rfl (encNote y) _ (HC.out _ hB) Tryz.underlying43 rfl (by kernel_rfl) ?_)
     | (with_reducible refine at_store ?_; refine wpList_store_last (cs := encNote y) rfl 43 _ _ rfl rfl rfl rfl (by kernel_rfl) rfl (encNote_one _) ?_)
     | (with_reducible refine at_dst 16 ?_; refine wpList_loadB (BoxAt.new _ _ _) rfl 43 _ rfl rfl (encNote y) (whole_cells _) Tryz.underlying43 rfl (by kernel_rfl) ?_)
     | (go_at_call 41; refine (HV.out _ hBb).mono ?_; rintro e w1 ⟨rfl, hb1⟩))
      have hB1 := (Below.call hBb hb1 (Nat.le_refl _)).drew
      have hbY : BoxAt w1.drew wr.heap.size 43 (encNote y) := ((BoxAt.new _ _ _).belowAll hb1).drew
      refine wp_region_ord [(0, true), (1, true), (2, true), (3, true), (4, true), (6, true), (5, false), (7, false), (8, false)] rfl (by kernel_rfl) (by kernel_rfl) (fun d _ _ _ _ h => by cases d <;> exact h) ?_
      iterate 4 (refine wpB_fix rfl rfl (fun W hW => by go_simp; with_reducible rfl) ?_; simp only [pTs, pTn, pTz, pTc])
      refine wpB_fix (v := .agg (encNote x)) rfl rfl (fun W hW => run_load_mem (b := b) (off := o + m * 29) (encNote x) rfl (HC2.out W (hB1.trans (hW.mono hB1.size))) Tryz.underlying43 rfl (by kernel_rfl)) ?_; simp only [pTs, pTn, pTz, pTc]
      refine wpB_fix (v := .agg (encNote y)) rfl rfl (fun W hW => run_load_box (encNote y) (hbY.belowAll hW) rfl (whole_cells _) Tryz.underlying43 rfl (by kernel_rfl)) ?_; simp only [pTs, pTn, pTz, pTc]
      refine wpB_act rfl rfl (fun K hK => ?_)
      go_simp
      refine (refOf_any x _).mono ?_
      rintro e w2 ⟨rfl, hb2⟩
      have hB2 := Below.call hB1 hb2 (Nat.le_refl _)
      refine hK _ _ hb2 ?_
      clear hK K
      try simp only [pTs, pTn, pTz, pTc]
      refine wpB_act rfl rfl (fun K hK => ?_)
      go_simp
      refine (refOf_any y _).mono ?_
      rintro e w3 ⟨rfl, hb3⟩
      have hB3 := Below.call hB2 hb3 (Nat.le_refl _)
      refine hK _ _ hb3 ?_
      clear hK K
      try simp only [pTs, pTn, pTz, pTc]
      refine wpB_act rfl rfl (fun K hK => ?_)
      go_simp
      refine (compareRefs_any (refN x) (refN y) _).mono ?_
      rintro e w4 ⟨rfl, hb4⟩
      have hB4 := Below.call hB3 hb4 (Nat.le_refl _)
      refine hK _ _ hb4 ?_
      clear hK K
      try simp only [pTs, pTn, pTz, pTc]
      simp only [wpB]
      go_wp2
      go_roundw
      case rel => exact ⟨m + 2, by omega, by go_num, Lib.hid (by rw [HF2.out, if_neg (by omega)]; rw [show m + 2 - 1 = m + 1 from rfl, HY.out]), hB4⟩
      case measure => simp [intOf]; omega
  ·have HH : Hid (checkSetR val = (0, 0)) := Lib.hid (by
    have : k = val.length := by omega
    rw [hn.out, this, List.drop_length]; rfl)
   go_wp2
   exact bodyPost_ret (v := .tuple #[.int .i64 0, .int .i64 0]) (by simp [results, Tryz.results131, go_sem]) rfl ⟨by simp [HH.out], hB⟩
theorem isSet_any (D : Nat → Prop) (s : Sl Note) (w : World) (hs : s.OK 29 encNote okNote D w) :
  Calls Tryz.prog 85 #[.slice s.a s.val.length s.cap] w fun e w' => e = .returned (.bool (isSetB s.val)) ∧ Below w.heap.size w w' := by
 have HC := Lib.hid (checkSet_any D s w hs)
 clear hs
 go_enter Tryz.func85, Tryz.ntmps85
 go_wp2_with (go_at_call 131; refine HC.out.mono ?_; rintro e w1 ⟨rfl, hb1⟩)
 all_goals go_ret
 all_goals exact ⟨by simp [isSetB], hb1⟩
end Go.Proofs.YtnmgfnpphglphaaGreat
