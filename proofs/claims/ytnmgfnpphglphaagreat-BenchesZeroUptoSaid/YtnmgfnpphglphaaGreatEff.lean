/-
  Which notes are plain: the first loop of effective, walked.
-/
import Derived.Test.YtnmgfnpphglphaaGreatEff0
set_option maxHeartbeats 16000000
set_option maxRecDepth 100000
set_option linter.unusedVariables false
set_option linter.unusedSimpArgs false
namespace Go.Proofs.YtnmgfnpphglphaaGreat
open Go.RowKit
theorem effective_any (hsort : NoteSort) (D : Nat → Prop) (s : Sl Note) (w : World) (hs : s.OK 29 encNote okNote D w) (hlen : s.val.length ≤ 1000000) (hnd : (s.val.map refN).Nodup) :
  Calls Tryz.prog 112 #[.slice s.a s.val.length s.cap] w fun e w' => ∃ (s1 : Sl Note) (s2 : Sl Ref), e = .returned (.tuple #[s1.v, s2.v]) ∧ s1.val.map Note.abs = effA (s.val.map Note.abs) ∧ s2.val = dangA (s.val.map Note.abs) ∧
    Sl.OK 29 encNote okNote (Old w.heap.size) w' s1 ∧ Sl.OK 2 encRef okRef (Old w.heap.size) w' s2 ∧ Below w.heap.size w w' := by
 have HS := Lib.hid hs
 clear hs
 obtain ⟨a, cap, val⟩ := s
 simp only at hlen
 have HND := Lib.hid hnd
 have HSORT := Lib.hid hsort
 clear hnd hsort
 have hm1 : MapAt vRef vNote gRef (w.alloc (.map #[] 0)) w.heap.size [] := MapAt.made _ _ _ _
 have hm2 : MapAt vRef vNote gRef ((w.alloc (.map #[] 0)).alloc (.map #[] 0)) w.heap.size [] := hm1.alloc _
 have hm3 : MapAt vRef Value.bool gRef ((w.alloc (.map #[] 0)).alloc (.map #[] 0)) (w.heap.size + 1) [] := by have h := MapAt.made vRef Value.bool gRef (w.alloc (.map #[] 0)); rw [World.size_alloc] at h; exact h
 have hB00 : Below w.heap.size w ((w.alloc (.map #[] 0)).alloc (.map #[] 0)) := ((Below.refl _ _).alloc (Nat.le_refl _) _).alloc (by simp) _
 have HM := Lib.hid (And.intro hm2 hm3)
 clear hm1 hm2 hm3
 have hmm := @run_makeMap Tryz.prog
 go_enter Tryz.func112, Tryz.ntmps112
 go_wp2
 clear hmm
 go_loopw [7, 22] (fun _ i wr => ∃ k : Nat, k ≤ val.length ∧ i = .int .i64 k ∧ Hid (MapAt vRef Value.bool gRef wr (w.heap.size + 1) (plainN (val.take k))) ∧ Hid (MapAt vRef vNote gRef wr w.heap.size []) ∧ w.heap.size + 2 ≤ wr.heap.size ∧ Below w.heap.size w wr) (fun _ i _ => val.length - (intOf i).toNat)
 case atStart => exact ⟨0, Nat.zero_le _, rfl, Lib.hid HM.out.2, Lib.hid HM.out.1, by simp, hB00⟩
 case round =>
  obtain ⟨k, hk, rfl, HP, HJ, hSz, hB⟩ := hrel
  by_cases hlt : k < val.length
  ·obtain ⟨x, hx⟩ : ∃ x, val[k]? = some x := ⟨_, List.getElem?_eq_getElem hlt⟩
   obtain ⟨b, o, rfl, hb, _, hok, hcell⟩ := HS.out.at hx
   have HC : Hid (∀ W, Below w.heap.size w W → ∀ j, j < (encNote x).size → W.cell? ⟨b, o + k * 29 + j, none⟩ = (encNote x)[j]?) := Lib.hid fun W hW j hj => by
    rw [(Ext.of_below (D := fun _ => False) hW).cell hb id]; exact hcell j hj
   have hi1 : (k : Int) < (val.length : Int) := by omega
   have hgx := Lib.hid (okNote_name hok)
   have HX := Lib.hid hx
   have hB0 : Below w.heap.size w (wr.alloc (.cells (encNote x) 43)).drew := (hB.alloc hB.size _).drew
   have hbX : BoxAt (wr.alloc (.cells (encNote x) 43)).drew wr.heap.size 43 (encNote x) := (BoxAt.new _ _ _).drew
   have hmP : MapAt vRef Value.bool gRef (wr.alloc (.cells (encNote x) 43)).drew (w.heap.size + 1) _ := (HP.out.alloc _).of_block rfl
   have hmJ : MapAt vRef vNote gRef (wr.alloc (.cells (encNote x) 43)).drew w.heap.size _ := (HJ.out.alloc _).of_block rfl
   clear hx hok hcell
   go_wp2_with (first
    | (with_reducible refine at_dst 25 ?_; refine wpList_load_at rfl 43 _ rfl b (o + k * 29) rfl (encNote x) _ (HC.out _ hB) Tryz.underlying43 rfl (by kernel_rfl) ?_)
    | (with_reducible refine at_store ?_; refine wpList_store_last (cs := encNote x) rfl 43 _ _ rfl rfl rfl rfl (by kernel_rfl) rfl (encNote_one _) ?_))
   refine wp_region_mark 6 [(0, none), (1, some true), (3, some true), (2, some false), (4, some false), (5, none), (6, some false)] rfl (by kernel_rfl) (by kernel_rfl) (fun d _ _ _ _ h => by cases d <;> exact h) ?_
   refine wpC_pure rfl rfl (fun W => by go_simp; with_reducible rfl) ?_; simp only [pTs, pTn, pTz, pTc]
   iterate 2 (refine wpC_fix (v := .agg (encNote x)) rfl rfl (fun W hW => run_load_box (encNote x) (hbX.belowAll hW) rfl (whole_cells _) Tryz.underlying43 rfl (by kernel_rfl)) ?_; simp only [pTs, pTn, pTz, pTc])
   refine wpC_act rfl rfl rfl (fun K hK => ?_)
   go_simp
   refine (refOf_any x _).mono ?_
   rintro e w1 ⟨rfl, hb1⟩
   have hB1 := Below.call hB0 hb1 (Nat.le_refl _)
   have hbX := hbX.belowAll hb1
   have hmP := hmP.below hb1 hmP.lt
   have hmJ := hmJ.below hb1 hmJ.lt
   refine hK _ _ hb1 ?_
   clear hK K
   try simp only [pTs, pTn, pTz, pTc]
   refine wpC_act rfl rfl rfl (fun K hK => ?_)
   go_simp
   refine (judging_any x _).mono ?_
   rintro e w2 ⟨rfl, hb2⟩
   have hB2 := Below.call hB1 hb2 (Nat.le_refl _)
   have hmP := hmP.below hb2 hmP.lt
   have hmJ := hmJ.below hb2 hmJ.lt
   refine hK _ _ hb2 ?_
   clear hK K
   try simp only [pTs, pTn, pTz, pTc]
   refine wpC_pure rfl rfl (fun W => by go_simp; with_reducible rfl) ?_; simp only [pTs, pTn, pTz, pTc]
   refine wpC_mark rfl rfl (fun K hK => ?_)
   refine wp_store_map _ _ _ _ rfl refKey Tryz.underlying228 rfl hmP (refN x) hgx.out rfl (!judgingI x.kind) rfl ?_
   intro w3 hmP hT
   have hmJ := hmJ.turn hT (Nat.ne_of_lt (Nat.lt_succ_self _))
   have hB3 := hB2.trans (hT.below (Nat.le_succ _))
   have hS3 : wr.heap.size ≤ w3.heap.size := by rw [hT.size]; exact Nat.le_trans (by simp) (Nat.le_trans hb1.size hb2.size)
   clear hT
   refine hK _ _ ?_
   clear hK K
   try simp only [pTs, pTn, pTz, pTc]
   simp only [wpC]
   have HP2 : Hid (MapAt vRef Value.bool gRef w3 (w.heap.size + 1) (plainN (val.take (k + 1)))) := Lib.hid (by rw [take_snoc HX.out, plainN_snoc]; exact hmP)
   have HJ2 := Lib.hid hmJ
   clear hmP hmJ
   go_wp2
   go_roundw
   case rel => exact ⟨k + 1, by omega, by go_num, HP2, HJ2, Nat.le_trans hSz hS3, hB3⟩
   case measure => simp [intOf]; omega
  ·have hk' : k = val.length := by omega
   have HPL : Hid (MapAt vRef Value.bool gRef wr (w.heap.size + 1) (plainN val)) := Lib.hid (by have h := HP.out; rwa [hk', List.take_length] at h)
   clear HP
   subst hk'
   go_wp2
   go_loopw [3, 9, 10, 11, 12, 35] (fun v _ _ _ _ i wr => ∃ (k : Nat) (js : List (Ref × Note)), k ≤ val.length ∧ i = .int .i64 k ∧ Hid (absMap js = (jst val k).1) ∧ Hid (∀ p ∈ js, okNote D w p.2) ∧
    Hid (MapAt vRef vNote gRef wr w.heap.size js) ∧ Hid (MapAt vRef Value.bool gRef wr (w.heap.size + 1) (plainN val)) ∧ Hid (OwnL encRef 2 wr (w.heap.size + 2) 34 v (jst val k).2) ∧ w.heap.size + 2 ≤ wr.heap.size ∧ Below w.heap.size w wr) (fun _ _ _ _ _ i _ => val.length - (intOf i).toNat)
   case atStart => exact ⟨0, [], Nat.zero_le _, rfl, Lib.hid rfl, Lib.hid (by simp), HJ, HPL, Lib.hid (OwnL.nil _ _ _ _ _), hSz, hB⟩
   case round =>
    obtain ⟨k2, js, hk2, rfl, HJS, HJO, HMJ, HMP, HOD, hSz, hB⟩ := hrel
    by_cases hlt2 : k2 < val.length
    ·obtain ⟨x, hx⟩ : ∃ x, val[k2]? = some x := ⟨_, List.getElem?_eq_getElem hlt2⟩
     obtain ⟨b, o, rfl, hb, _, hok, hcell⟩ := HS.out.at hx
     have HC : Hid (∀ W, Below w.heap.size w W → ∀ j, j < (encNote x).size → W.cell? ⟨b, o + k2 * 29 + j, none⟩ = (encNote x)[j]?) := Lib.hid fun W hW j hj => by
      rw [(Ext.of_below (D := fun _ => False) hW).cell hb id]; exact hcell j hj
     have hi1 : (k2 : Int) < (val.length : Int) := by omega
     have hgx := Lib.hid (okNote_name hok)
     have hgr := Lib.hid (okNote_ref hok)
     have HX := Lib.hid hx
     have HOKX := Lib.hid hok
     have hB0 : Below w.heap.size w (wr.alloc (.cells (encNote x) 43)) := hB.alloc hB.size _
     have hbX : BoxAt (wr.alloc (.cells (encNote x) 43)) wr.heap.size 43 (encNote x) := BoxAt.new _ _ _
     have hmP := HMP.out.alloc (.cells (encNote x) 43)
     have hmJ := HMJ.out.alloc (.cells (encNote x) 43)
     have hoD := HOD.out.belowAll ((Below.refl _ _).alloc (Nat.le_refl _) (.cells (encNote x) 43))
     have hvX : u3.ownBlock ≠ some wr.heap.size := fun e => absurd (HOD.out.block _ e).2 (Nat.lt_irrefl _)
     have hS1 : w.heap.size + 2 ≤ (wr.alloc (.cells (encNote x) 43)).heap.size := Nat.le_trans hSz (by simp)
     have HJU : Hid (∀ W, Calls Tryz.prog 151 #[.agg (encNote x)] W fun e w' => e = .returned (.bool (judgingI x.kind)) ∧ Below W.heap.size W w') := Lib.hid fun W => judging_any x W
     clear hx hok hcell
     rcases hj : judgingI x.kind
     case false =>
      simp only [hj] at HJU
      go_wp2_with (first
       | (with_reducible refine at_dst 38 ?_; refine wpList_load_at rfl 43 _ rfl b (o + k2 * 29) rfl (encNote x) _ (HC.out _ hB) Tryz.underlying43 rfl (by kernel_rfl) ?_)
       | (with_reducible refine at_dst 39 ?_; refine wpList_loadB hbX rfl 43 _ rfl rfl (encNote x) (whole_cells _) Tryz.underlying43 rfl (by kernel_rfl) ?_)
       | (with_reducible refine at_store ?_; refine wpList_store_last (cs := encNote x) rfl 43 _ _ rfl rfl rfl rfl (by kernel_rfl) rfl (encNote_one _) ?_)
       | (go_at_call 151; refine (HJU.out _).mono ?_; rintro e w1 ⟨rfl, hb1⟩; have hB0 := Below.call hB0 hb1 (Nat.le_refl _); have hbX := hbX.belowAll hb1; have hmP := hmP.below hb1 hmP.lt; have hmJ := hmJ.below hb1 hmJ.lt; have hoD := hoD.belowAll hb1; have hS1 := Nat.le_trans hS1 hb1.size; clear hb1))
      go_roundw
      case rel => exact ⟨k2 + 1, js, by omega, by go_num, Lib.hid (by rw [jst_no HX.out hj]; exact HJS.out), HJO, Lib.hid hmJ, Lib.hid hmP, Lib.hid (by rw [jst_no HX.out hj]; exact hoD), hS1, hB0⟩
      case measure => simp [intOf]; omega
     case true =>
      simp only [hj] at HJU
      obtain ⟨old, hold⟩ : ∃ q, (aget js x.ref).getD zNote = q := ⟨_, rfl⟩
      have HJY := Lib.hid (jst_yes HX.out hj HJS.out hold)
      have HOLD := Lib.hid hold
      clear hold
      rcases hp : (aget (plainN val) x.ref).getD false
      case false =>
       rcases hkn : ahas js x.ref
       case false =>
        go_wp2_with (first
         | (with_reducible refine at_dst 38 ?_; refine wpList_load_at rfl 43 _ rfl b (o + k2 * 29) rfl (encNote x) _ (HC.out _ hB) Tryz.underlying43 rfl (by kernel_rfl) ?_)
         | (with_reducible refine at_dst 39 ?_; refine wpList_loadB hbX rfl 43 _ rfl rfl (encNote x) (whole_cells _) Tryz.underlying43 rfl (by kernel_rfl) ?_)
         | (with_reducible refine at_store ?_; refine wpList_store_last (cs := encNote x) rfl 43 _ _ rfl rfl rfl rfl (by kernel_rfl) rfl (encNote_one _) ?_)
         | (go_at_call 151; refine (HJU.out _).mono ?_; rintro e w1 ⟨rfl, hb1⟩; have hB0 := Below.call hB0 hb1 (Nat.le_refl _); have hbX := hbX.belowAll hb1; have hmP := hmP.below hb1 hmP.lt; have hmJ := hmJ.below hb1 hmJ.lt; have hoD := hoD.belowAll hb1; have hS1 := Nat.le_trans hS1 hb1.size; clear hb1)
         | (with_reducible refine at_dst 44 ?_; refine wpList_loadB hbX rfl 34 _ rfl rfl (encRef x.ref) (encNote_ref x) Tryz.underlying34 rfl (by kernel_rfl) ?_)
         | (with_reducible refine at_dst 45 ?_; refine wpList_look rfl _ _ 228 rfl refKey Tryz.underlying228 false (zeroBool _) rfl hmP x.ref hgr.out rfl ?_; rw [hp])
         | (with_reducible refine at_dst 55 ?_; refine wpList_loadB hbX rfl 34 _ rfl rfl (encRef x.ref) (encNote_ref x) Tryz.underlying34 rfl (by kernel_rfl) ?_)
         | (with_reducible refine at_dst 56 ?_; refine wpList_lookok rfl _ _ 63 rfl refKey Tryz.underlying63 zNote (zeroNote _) rfl hmJ x.ref hgr.out rfl ?_; rw [HOLD.out, hkn])
         | (with_reducible refine at_store ?_; refine wpList_store_last (cs := encNote old) rfl 43 _ _ rfl rfl rfl rfl (by kernel_rfl) rfl (encNote_one _) ?_)
         | (with_reducible refine at_dst 48 ?_; refine wpList_loadB hbX rfl 43 _ rfl rfl (encNote x) (whole_cells _) Tryz.underlying43 rfl (by kernel_rfl) ?_)
         | (go_at_call 59; refine (refOf_any x _).mono ?_; rintro e w2 ⟨rfl, hb2⟩; have hB0 := Below.call hB0 hb2 (Nat.le_refl _); have hbX := hbX.belowAll hb2; have hmP := hmP.below hb2 hmP.lt; have hmJ := hmJ.below hb2 hmJ.lt; have hoD := hoD.belowAll hb2; have hS1 := Nat.le_trans hS1 hb2.size; clear hb2)
         | ((with_reducible refine at_dst 51 ?_); refine wpList_append_one rfl _ _ 98 rfl (w.heap.size + 2) einfo_Ref (fun _ => rfl) (by decide) encRef_one (by decide) _ _ rfl (hoD.belowAll ((Below.refl _ _).alloc (Nat.le_refl _) _)) w2.heap.size 0 1 (refN x) rfl (cells_of_eq (buildRef (refN x))) (by have := jst_len val k2; omega) (Nat.le_trans hS1 (by simp)) ?_; intro v3 w3 hoD' hg hne; have hb3 := app_below hoD hg (Nat.le_refl _) hS1; have hB0 := hB0.trans (hb3.mono (Nat.le_add_right _ _)); have hbX := hbX.of_block (app_keep hg hbX.lt hvX); have hmP := hmP.of_block (hb3.block _ (Nat.lt_succ_self _)); have hmJ := hmJ.of_block (hb3.block _ (Nat.lt_succ_of_lt (Nat.lt_succ_self _))); have hS1 := Nat.le_trans hS1 hb3.size; have hoD := hoD'; clear hg hb3 hne))
        have hbO : BoxAt (w3.alloc (.cells (encNote old) 43)).drew w3.heap.size 43 (encNote old) := (BoxAt.new _ _ _).drew
        replace hbX : BoxAt (w3.alloc (.cells (encNote old) 43)).drew wr.heap.size 43 (encNote x) := (hbX.alloc _).drew
        replace hmP : MapAt vRef Value.bool gRef (w3.alloc (.cells (encNote old) 43)).drew (w.heap.size + 1) (plainN val) := (hmP.alloc _).of_block rfl
        replace hmJ : MapAt vRef vNote gRef (w3.alloc (.cells (encNote old) 43)).drew w.heap.size js := (hmJ.alloc _).of_block rfl
        replace hoD := hoD.belowAll (((Below.refl w3.heap.size w3).alloc (Nat.le_refl _) (.cells (encNote old) 43)).drew)
        replace hB0 : Below w.heap.size w (w3.alloc (.cells (encNote old) 43)).drew := (hB0.alloc hB0.size _).drew
        replace hS1 : w.heap.size + 2 ≤ (w3.alloc (.cells (encNote old) 43)).drew.heap.size := Nat.le_trans hS1 (by simp)
        refine wp_region_ord [(0, true), (1, true), (2, true), (3, true), (5, true), (7, true), (4, false), (6, false), (8, false), (9, false), (10, false), (11, false), (12, true), (13, true)] rfl (by kernel_rfl) (by kernel_rfl) (fun d _ _ _ _ h => by cases d <;> exact h) ?_
        refine wpB_fix rfl rfl (fun W hW => by go_simp; with_reducible rfl) ?_; simp only [pTs, pTn, pTz, pTc]
        refine wpB_fix (v := vi x.clock) rfl rfl (fun W hW => by have e : W.cell? ⟨wr.heap.size, 2, none⟩ = some (vi x.clock) := ((hbX.belowAll hW).cell 2).trans (encNote_2 x); go_simp) ?_; simp only [pTs, pTn, pTz, pTc]
        refine wpB_fix rfl rfl (fun W hW => by go_simp; with_reducible rfl) ?_; simp only [pTs, pTn, pTz, pTc]
        refine wpB_fix (v := vi old.clock) rfl rfl (fun W hW => by have e : W.cell? ⟨w3.heap.size, 2, none⟩ = some (vi old.clock) := ((hbO.belowAll hW).cell 2).trans (encNote_2 old); go_simp) ?_; simp only [pTs, pTn, pTz, pTc]
        refine wpB_fix (v := .agg (encNote x)) rfl rfl (fun W hW => run_load_box (encNote x) (hbX.belowAll hW) rfl (whole_cells _) Tryz.underlying43 rfl (by kernel_rfl)) ?_; simp only [pTs, pTn, pTz, pTc]
        refine wpB_fix (v := .agg (encNote old)) rfl rfl (fun W hW => run_load_box (encNote old) (hbO.belowAll hW) rfl (whole_cells _) Tryz.underlying43 rfl (by kernel_rfl)) ?_; simp only [pTs, pTn, pTz, pTc]
        refine wpB_act rfl rfl (fun K hK => ?_)
        go_simp
        refine (cmp_any _ _ _).mono ?_
        rintro e wq ⟨rfl, rfl⟩
        refine hK _ _ (Below.refl _ _) ?_
        clear hK K
        try simp only [pTs, pTn, pTz, pTc]
        refine wpB_act rfl rfl (fun K hK => ?_)
        go_simp
        refine (refOf_any x _).mono ?_
        rintro e w6 ⟨rfl, hb6⟩
        have hB0 := Below.call hB0 hb6 (Nat.le_refl _); have hbX := hbX.belowAll hb6; have hmP := hmP.below hb6 hmP.lt; have hmJ := hmJ.below hb6 hmJ.lt; have hoD := hoD.belowAll hb6; have hS1 := Nat.le_trans hS1 hb6.size
        refine hK _ _ hb6 ?_
        clear hK K
        try simp only [pTs, pTn, pTz, pTc]
        refine wpB_act rfl rfl (fun K hK => ?_)
        go_simp
        refine (refOf_any old _).mono ?_
        rintro e w7 ⟨rfl, hb7⟩
        have hB0 := Below.call hB0 hb7 (Nat.le_refl _); have hbX := hbX.belowAll hb7; have hmP := hmP.below hb7 hmP.lt; have hmJ := hmJ.below hb7 hmJ.lt; have hoD := hoD.belowAll hb7; have hS1 := Nat.le_trans hS1 hb7.size
        refine hK _ _ hb7 ?_
        clear hK K
        try simp only [pTs, pTn, pTz, pTc]
        refine wpB_act rfl rfl (fun K hK => ?_)
        go_simp
        refine (compareRefs_any (refN x) (refN old) _).mono ?_
        rintro e w8 ⟨rfl, hb8⟩
        have hB0 := Below.call hB0 hb8 (Nat.le_refl _); have hbX := hbX.belowAll hb8; have hmP := hmP.below hb8 hmP.lt; have hmJ := hmJ.below hb8 hmJ.lt; have hoD := hoD.belowAll hb8; have hS1 := Nat.le_trans hS1 hb8.size
        refine hK _ _ hb8 ?_
        clear hK K
        try simp only [pTs, pTn, pTz, pTc]
        refine wpB_act rfl rfl (fun K hK => ?_)
        go_simp
        refine hK _ _ ((Below.refl _ _).alloc (Nat.le_refl _) _) ?_
        clear hK K
        try simp only [pTs, pTn, pTz, pTc]
        refine wpB_act rfl rfl (fun K hK => ?_)
        go_simp
        refine (or_any w8.heap.size 0 2 2 [cmpI x.clock old.clock, compareRefsI (refN x) (refN old)] _ rfl (by decide) ?_).mono ?_
        ·rintro (_ | _ | kk) q hq <;> simp at hq <;> subst hq <;> simp [go_sem]
        rintro e wq ⟨rfl, rfl⟩
        refine hK _ _ (Below.refl _ _) ?_
        clear hK K
        try simp only [pTs, pTn, pTz, pTc]
        iterate 2 (refine wpB_fix rfl rfl (fun W hW => by go_simp; with_reducible rfl) ?_; simp only [pTs, pTn, pTz, pTc])
        simp only [wpB]
        go_wp2_with (first
         | (with_reducible refine at_dst 79 ?_; refine wpList_loadB (hbX.alloc _) rfl 34 _ rfl rfl (encRef x.ref) (encNote_ref x) Tryz.underlying34 rfl (by kernel_rfl) ?_)
         | (with_reducible refine at_dst 80 ?_; refine wpList_loadB (hbX.alloc _) rfl 43 _ rfl rfl (encNote x) (whole_cells _) Tryz.underlying43 rfl (by kernel_rfl) ?_)
         | (at_mapUpdate; refine wpList_store_map rfl _ _ _ 63 rfl refKey Tryz.underlying63 rfl (hmJ.alloc _) x.ref hgr.out rfl x rfl ?_; intro w9 hmJ9 hT; have hB9 := (hB0.alloc hB0.size _).trans (hT.below (Nat.le_refl _)); have hmP9 := (hmP.alloc _).turn hT (Nat.succ_ne_self _); have hoD9 := (hoD.belowAll ((Below.refl _ _).alloc (Nat.le_refl _) _)).turn hT (own_ne (hoD.belowAll ((Below.refl _ _).alloc (Nat.le_refl _) (.map #[] 0))) (by omega)); have hS9 : w.heap.size + 2 ≤ w9.heap.size := (by rw [hT.size]; exact Nat.le_trans hS1 (by simp)); clear hT))
        go_roundw
        case rel => exact ⟨k2 + 1, aput js x.ref x, by omega, by go_num, Lib.hid (by rw [HJY.out]; simp [hkn]), Lib.hid (fun p hp => by rcases mem_aput hp with rfl | hp; exact HOKX.out; exact HJO.out p hp), Lib.hid hmJ9, Lib.hid hmP9, Lib.hid (by rw [HJY.out]; simp only [hp]; exact hoD9), hS9, hB9⟩
        case measure => simp [intOf]; omega
       case true =>
        by_cases hL : 0 < orI [cmpI x.clock old.clock, compareRefsI (refN x) (refN old)]
        ·skip
         go_wp2_with (first
          | (with_reducible refine at_dst 38 ?_; refine wpList_load_at rfl 43 _ rfl b (o + k2 * 29) rfl (encNote x) _ (HC.out _ hB) Tryz.underlying43 rfl (by kernel_rfl) ?_)
          | (with_reducible refine at_dst 39 ?_; refine wpList_loadB hbX rfl 43 _ rfl rfl (encNote x) (whole_cells _) Tryz.underlying43 rfl (by kernel_rfl) ?_)
          | (with_reducible refine at_store ?_; refine wpList_store_last (cs := encNote x) rfl 43 _ _ rfl rfl rfl rfl (by kernel_rfl) rfl (encNote_one _) ?_)
          | (go_at_call 151; refine (HJU.out _).mono ?_; rintro e w1 ⟨rfl, hb1⟩; have hB0 := Below.call hB0 hb1 (Nat.le_refl _); have hbX := hbX.belowAll hb1; have hmP := hmP.below hb1 hmP.lt; have hmJ := hmJ.below hb1 hmJ.lt; have hoD := hoD.belowAll hb1; have hS1 := Nat.le_trans hS1 hb1.size; clear hb1)
          | (with_reducible refine at_dst 44 ?_; refine wpList_loadB hbX rfl 34 _ rfl rfl (encRef x.ref) (encNote_ref x) Tryz.underlying34 rfl (by kernel_rfl) ?_)
          | (with_reducible refine at_dst 45 ?_; refine wpList_look rfl _ _ 228 rfl refKey Tryz.underlying228 false (zeroBool _) rfl hmP x.ref hgr.out rfl ?_; rw [hp])
          | (with_reducible refine at_dst 55 ?_; refine wpList_loadB hbX rfl 34 _ rfl rfl (encRef x.ref) (encNote_ref x) Tryz.underlying34 rfl (by kernel_rfl) ?_)
          | (with_reducible refine at_dst 56 ?_; refine wpList_lookok rfl _ _ 63 rfl refKey Tryz.underlying63 zNote (zeroNote _) rfl hmJ x.ref hgr.out rfl ?_; rw [HOLD.out, hkn])
          | (with_reducible refine at_store ?_; refine wpList_store_last (cs := encNote old) rfl 43 _ _ rfl rfl rfl rfl (by kernel_rfl) rfl (encNote_one _) ?_)
          | (with_reducible refine at_dst 48 ?_; refine wpList_loadB hbX rfl 43 _ rfl rfl (encNote x) (whole_cells _) Tryz.underlying43 rfl (by kernel_rfl) ?_)
          | (go_at_call 59; refine (refOf_any x _).mono ?_; rintro e w2 ⟨rfl, hb2⟩; have hB0 := Below.call hB0 hb2 (Nat.le_refl _); have hbX := hbX.belowAll hb2; have hmP := hmP.below hb2 hmP.lt; have hmJ := hmJ.below hb2 hmJ.lt; have hoD := hoD.belowAll hb2; have hS1 := Nat.le_trans hS1 hb2.size; clear hb2)
          | ((with_reducible refine at_dst 51 ?_); refine wpList_append_one rfl _ _ 98 rfl (w.heap.size + 2) einfo_Ref (fun _ => rfl) (by decide) encRef_one (by decide) _ _ rfl (hoD.belowAll ((Below.refl _ _).alloc (Nat.le_refl _) _)) w2.heap.size 0 1 (refN x) rfl (cells_of_eq (buildRef (refN x))) (by have := jst_len val k2; omega) (Nat.le_trans hS1 (by simp)) ?_; intro v3 w3 hoD' hg hne; have hb3 := app_below hoD hg (Nat.le_refl _) hS1; have hB0 := hB0.trans (hb3.mono (Nat.le_add_right _ _)); have hbX := hbX.of_block (app_keep hg hbX.lt hvX); have hmP := hmP.of_block (hb3.block _ (Nat.lt_succ_self _)); have hmJ := hmJ.of_block (hb3.block _ (Nat.lt_succ_of_lt (Nat.lt_succ_self _))); have hS1 := Nat.le_trans hS1 hb3.size; have hoD := hoD'; clear hg hb3 hne))
         have hbO : BoxAt (w3.alloc (.cells (encNote old) 43)).drew w3.heap.size 43 (encNote old) := (BoxAt.new _ _ _).drew
         replace hbX : BoxAt (w3.alloc (.cells (encNote old) 43)).drew wr.heap.size 43 (encNote x) := (hbX.alloc _).drew
         replace hmP : MapAt vRef Value.bool gRef (w3.alloc (.cells (encNote old) 43)).drew (w.heap.size + 1) (plainN val) := (hmP.alloc _).of_block rfl
         replace hmJ : MapAt vRef vNote gRef (w3.alloc (.cells (encNote old) 43)).drew w.heap.size js := (hmJ.alloc _).of_block rfl
         replace hoD := hoD.belowAll (((Below.refl w3.heap.size w3).alloc (Nat.le_refl _) (.cells (encNote old) 43)).drew)
         replace hB0 : Below w.heap.size w (w3.alloc (.cells (encNote old) 43)).drew := (hB0.alloc hB0.size _).drew
         replace hS1 : w.heap.size + 2 ≤ (w3.alloc (.cells (encNote old) 43)).drew.heap.size := Nat.le_trans hS1 (by simp)
         refine wp_region_ord [(0, true), (1, true), (2, true), (3, true), (5, true), (7, true), (4, false), (6, false), (8, false), (9, false), (10, false), (11, false), (12, true), (13, true)] rfl (by kernel_rfl) (by kernel_rfl) (fun d _ _ _ _ h => by cases d <;> exact h) ?_
         refine wpB_fix rfl rfl (fun W hW => by go_simp; with_reducible rfl) ?_; simp only [pTs, pTn, pTz, pTc]
         refine wpB_fix (v := vi x.clock) rfl rfl (fun W hW => by have e : W.cell? ⟨wr.heap.size, 2, none⟩ = some (vi x.clock) := ((hbX.belowAll hW).cell 2).trans (encNote_2 x); go_simp) ?_; simp only [pTs, pTn, pTz, pTc]
         refine wpB_fix rfl rfl (fun W hW => by go_simp; with_reducible rfl) ?_; simp only [pTs, pTn, pTz, pTc]
         refine wpB_fix (v := vi old.clock) rfl rfl (fun W hW => by have e : W.cell? ⟨w3.heap.size, 2, none⟩ = some (vi old.clock) := ((hbO.belowAll hW).cell 2).trans (encNote_2 old); go_simp) ?_; simp only [pTs, pTn, pTz, pTc]
         refine wpB_fix (v := .agg (encNote x)) rfl rfl (fun W hW => run_load_box (encNote x) (hbX.belowAll hW) rfl (whole_cells _) Tryz.underlying43 rfl (by kernel_rfl)) ?_; simp only [pTs, pTn, pTz, pTc]
         refine wpB_fix (v := .agg (encNote old)) rfl rfl (fun W hW => run_load_box (encNote old) (hbO.belowAll hW) rfl (whole_cells _) Tryz.underlying43 rfl (by kernel_rfl)) ?_; simp only [pTs, pTn, pTz, pTc]
         refine wpB_act rfl rfl (fun K hK => ?_)
         go_simp
         refine (cmp_any _ _ _).mono ?_
         rintro e wq ⟨rfl, rfl⟩
         refine hK _ _ (Below.refl _ _) ?_
         clear hK K
         try simp only [pTs, pTn, pTz, pTc]
         refine wpB_act rfl rfl (fun K hK => ?_)
         go_simp
         refine (refOf_any x _).mono ?_
         rintro e w6 ⟨rfl, hb6⟩
         have hB0 := Below.call hB0 hb6 (Nat.le_refl _); have hbX := hbX.belowAll hb6; have hmP := hmP.below hb6 hmP.lt; have hmJ := hmJ.below hb6 hmJ.lt; have hoD := hoD.belowAll hb6; have hS1 := Nat.le_trans hS1 hb6.size
         refine hK _ _ hb6 ?_
         clear hK K
         try simp only [pTs, pTn, pTz, pTc]
         refine wpB_act rfl rfl (fun K hK => ?_)
         go_simp
         refine (refOf_any old _).mono ?_
         rintro e w7 ⟨rfl, hb7⟩
         have hB0 := Below.call hB0 hb7 (Nat.le_refl _); have hbX := hbX.belowAll hb7; have hmP := hmP.below hb7 hmP.lt; have hmJ := hmJ.below hb7 hmJ.lt; have hoD := hoD.belowAll hb7; have hS1 := Nat.le_trans hS1 hb7.size
         refine hK _ _ hb7 ?_
         clear hK K
         try simp only [pTs, pTn, pTz, pTc]
         refine wpB_act rfl rfl (fun K hK => ?_)
         go_simp
         refine (compareRefs_any (refN x) (refN old) _).mono ?_
         rintro e w8 ⟨rfl, hb8⟩
         have hB0 := Below.call hB0 hb8 (Nat.le_refl _); have hbX := hbX.belowAll hb8; have hmP := hmP.below hb8 hmP.lt; have hmJ := hmJ.below hb8 hmJ.lt; have hoD := hoD.belowAll hb8; have hS1 := Nat.le_trans hS1 hb8.size
         refine hK _ _ hb8 ?_
         clear hK K
         try simp only [pTs, pTn, pTz, pTc]
         refine wpB_act rfl rfl (fun K hK => ?_)
         go_simp
         refine hK _ _ ((Below.refl _ _).alloc (Nat.le_refl _) _) ?_
         clear hK K
         try simp only [pTs, pTn, pTz, pTc]
         refine wpB_act rfl rfl (fun K hK => ?_)
         go_simp
         refine (or_any w8.heap.size 0 2 2 [cmpI x.clock old.clock, compareRefsI (refN x) (refN old)] _ rfl (by decide) ?_).mono ?_
         ·rintro (_ | _ | kk) q hq <;> simp at hq <;> subst hq <;> simp [go_sem]
         rintro e wq ⟨rfl, rfl⟩
         refine hK _ _ (Below.refl _ _) ?_
         clear hK K
         try simp only [pTs, pTn, pTz, pTc]
         iterate 2 (refine wpB_fix rfl rfl (fun W hW => by go_simp; with_reducible rfl) ?_; simp only [pTs, pTn, pTz, pTc])
         simp only [wpB]
         go_wp2_with (first
          | (with_reducible refine at_dst 79 ?_; refine wpList_loadB (hbX.alloc _) rfl 34 _ rfl rfl (encRef x.ref) (encNote_ref x) Tryz.underlying34 rfl (by kernel_rfl) ?_)
          | (with_reducible refine at_dst 80 ?_; refine wpList_loadB (hbX.alloc _) rfl 43 _ rfl rfl (encNote x) (whole_cells _) Tryz.underlying43 rfl (by kernel_rfl) ?_)
          | (at_mapUpdate; refine wpList_store_map rfl _ _ _ 63 rfl refKey Tryz.underlying63 rfl (hmJ.alloc _) x.ref hgr.out rfl x rfl ?_; intro w9 hmJ9 hT; have hB9 := (hB0.alloc hB0.size _).trans (hT.below (Nat.le_refl _)); have hmP9 := (hmP.alloc _).turn hT (Nat.succ_ne_self _); have hoD9 := (hoD.belowAll ((Below.refl _ _).alloc (Nat.le_refl _) _)).turn hT (own_ne (hoD.belowAll ((Below.refl _ _).alloc (Nat.le_refl _) (.map #[] 0))) (by omega)); have hS9 : w.heap.size + 2 ≤ w9.heap.size := (by rw [hT.size]; exact Nat.le_trans hS1 (by simp)); clear hT))
         go_roundw
         case rel => exact ⟨k2 + 1, aput js x.ref x, by omega, by go_num, Lib.hid (by rw [HJY.out]; simp [hkn, hL]), Lib.hid (fun p hp => by rcases mem_aput hp with rfl | hp; exact HOKX.out; exact HJO.out p hp), Lib.hid hmJ9, Lib.hid hmP9, Lib.hid (by rw [HJY.out]; simp only [hp]; exact hoD9), hS9, hB9⟩
         case measure => simp [intOf]; omega
        ·skip
         go_wp2_with (first
          | (with_reducible refine at_dst 38 ?_; refine wpList_load_at rfl 43 _ rfl b (o + k2 * 29) rfl (encNote x) _ (HC.out _ hB) Tryz.underlying43 rfl (by kernel_rfl) ?_)
          | (with_reducible refine at_dst 39 ?_; refine wpList_loadB hbX rfl 43 _ rfl rfl (encNote x) (whole_cells _) Tryz.underlying43 rfl (by kernel_rfl) ?_)
          | (with_reducible refine at_store ?_; refine wpList_store_last (cs := encNote x) rfl 43 _ _ rfl rfl rfl rfl (by kernel_rfl) rfl (encNote_one _) ?_)
          | (go_at_call 151; refine (HJU.out _).mono ?_; rintro e w1 ⟨rfl, hb1⟩; have hB0 := Below.call hB0 hb1 (Nat.le_refl _); have hbX := hbX.belowAll hb1; have hmP := hmP.below hb1 hmP.lt; have hmJ := hmJ.below hb1 hmJ.lt; have hoD := hoD.belowAll hb1; have hS1 := Nat.le_trans hS1 hb1.size; clear hb1)
          | (with_reducible refine at_dst 44 ?_; refine wpList_loadB hbX rfl 34 _ rfl rfl (encRef x.ref) (encNote_ref x) Tryz.underlying34 rfl (by kernel_rfl) ?_)
          | (with_reducible refine at_dst 45 ?_; refine wpList_look rfl _ _ 228 rfl refKey Tryz.underlying228 false (zeroBool _) rfl hmP x.ref hgr.out rfl ?_; rw [hp])
          | (with_reducible refine at_dst 55 ?_; refine wpList_loadB hbX rfl 34 _ rfl rfl (encRef x.ref) (encNote_ref x) Tryz.underlying34 rfl (by kernel_rfl) ?_)
          | (with_reducible refine at_dst 56 ?_; refine wpList_lookok rfl _ _ 63 rfl refKey Tryz.underlying63 zNote (zeroNote _) rfl hmJ x.ref hgr.out rfl ?_; rw [HOLD.out, hkn])
          | (with_reducible refine at_store ?_; refine wpList_store_last (cs := encNote old) rfl 43 _ _ rfl rfl rfl rfl (by kernel_rfl) rfl (encNote_one _) ?_)
          | (with_reducible refine at_dst 48 ?_; refine wpList_loadB hbX rfl 43 _ rfl rfl (encNote x) (whole_cells _) Tryz.underlying43 rfl (by kernel_rfl) ?_)
          | (go_at_call 59; refine (refOf_any x _).mono ?_; rintro e w2 ⟨rfl, hb2⟩; have hB0 := Below.call hB0 hb2 (Nat.le_refl _); have hbX := hbX.belowAll hb2; have hmP := hmP.below hb2 hmP.lt; have hmJ := hmJ.below hb2 hmJ.lt; have hoD := hoD.belowAll hb2; have hS1 := Nat.le_trans hS1 hb2.size; clear hb2)
          | ((with_reducible refine at_dst 51 ?_); refine wpList_append_one rfl _ _ 98 rfl (w.heap.size + 2) einfo_Ref (fun _ => rfl) (by decide) encRef_one (by decide) _ _ rfl (hoD.belowAll ((Below.refl _ _).alloc (Nat.le_refl _) _)) w2.heap.size 0 1 (refN x) rfl (cells_of_eq (buildRef (refN x))) (by have := jst_len val k2; omega) (Nat.le_trans hS1 (by simp)) ?_; intro v3 w3 hoD' hg hne; have hb3 := app_below hoD hg (Nat.le_refl _) hS1; have hB0 := hB0.trans (hb3.mono (Nat.le_add_right _ _)); have hbX := hbX.of_block (app_keep hg hbX.lt hvX); have hmP := hmP.of_block (hb3.block _ (Nat.lt_succ_self _)); have hmJ := hmJ.of_block (hb3.block _ (Nat.lt_succ_of_lt (Nat.lt_succ_self _))); have hS1 := Nat.le_trans hS1 hb3.size; have hoD := hoD'; clear hg hb3 hne))
         have hbO : BoxAt (w3.alloc (.cells (encNote old) 43)).drew w3.heap.size 43 (encNote old) := (BoxAt.new _ _ _).drew
         replace hbX : BoxAt (w3.alloc (.cells (encNote old) 43)).drew wr.heap.size 43 (encNote x) := (hbX.alloc _).drew
         replace hmP : MapAt vRef Value.bool gRef (w3.alloc (.cells (encNote old) 43)).drew (w.heap.size + 1) (plainN val) := (hmP.alloc _).of_block rfl
         replace hmJ : MapAt vRef vNote gRef (w3.alloc (.cells (encNote old) 43)).drew w.heap.size js := (hmJ.alloc _).of_block rfl
         replace hoD := hoD.belowAll (((Below.refl w3.heap.size w3).alloc (Nat.le_refl _) (.cells (encNote old) 43)).drew)
         replace hB0 : Below w.heap.size w (w3.alloc (.cells (encNote old) 43)).drew := (hB0.alloc hB0.size _).drew
         replace hS1 : w.heap.size + 2 ≤ (w3.alloc (.cells (encNote old) 43)).drew.heap.size := Nat.le_trans hS1 (by simp)
         refine wp_region_ord [(0, true), (1, true), (2, true), (3, true), (5, true), (7, true), (4, false), (6, false), (8, false), (9, false), (10, false), (11, false), (12, true), (13, true)] rfl (by kernel_rfl) (by kernel_rfl) (fun d _ _ _ _ h => by cases d <;> exact h) ?_
         refine wpB_fix rfl rfl (fun W hW => by go_simp; with_reducible rfl) ?_; simp only [pTs, pTn, pTz, pTc]
         refine wpB_fix (v := vi x.clock) rfl rfl (fun W hW => by have e : W.cell? ⟨wr.heap.size, 2, none⟩ = some (vi x.clock) := ((hbX.belowAll hW).cell 2).trans (encNote_2 x); go_simp) ?_; simp only [pTs, pTn, pTz, pTc]
         refine wpB_fix rfl rfl (fun W hW => by go_simp; with_reducible rfl) ?_; simp only [pTs, pTn, pTz, pTc]
         refine wpB_fix (v := vi old.clock) rfl rfl (fun W hW => by have e : W.cell? ⟨w3.heap.size, 2, none⟩ = some (vi old.clock) := ((hbO.belowAll hW).cell 2).trans (encNote_2 old); go_simp) ?_; simp only [pTs, pTn, pTz, pTc]
         refine wpB_fix (v := .agg (encNote x)) rfl rfl (fun W hW => run_load_box (encNote x) (hbX.belowAll hW) rfl (whole_cells _) Tryz.underlying43 rfl (by kernel_rfl)) ?_; simp only [pTs, pTn, pTz, pTc]
         refine wpB_fix (v := .agg (encNote old)) rfl rfl (fun W hW => run_load_box (encNote old) (hbO.belowAll hW) rfl (whole_cells _) Tryz.underlying43 rfl (by kernel_rfl)) ?_; simp only [pTs, pTn, pTz, pTc]
         refine wpB_act rfl rfl (fun K hK => ?_)
         go_simp
         refine (cmp_any _ _ _).mono ?_
         rintro e wq ⟨rfl, rfl⟩
         refine hK _ _ (Below.refl _ _) ?_
         clear hK K
         try simp only [pTs, pTn, pTz, pTc]
         refine wpB_act rfl rfl (fun K hK => ?_)
         go_simp
         refine (refOf_any x _).mono ?_
         rintro e w6 ⟨rfl, hb6⟩
         have hB0 := Below.call hB0 hb6 (Nat.le_refl _); have hbX := hbX.belowAll hb6; have hmP := hmP.below hb6 hmP.lt; have hmJ := hmJ.below hb6 hmJ.lt; have hoD := hoD.belowAll hb6; have hS1 := Nat.le_trans hS1 hb6.size
         refine hK _ _ hb6 ?_
         clear hK K
         try simp only [pTs, pTn, pTz, pTc]
         refine wpB_act rfl rfl (fun K hK => ?_)
         go_simp
         refine (refOf_any old _).mono ?_
         rintro e w7 ⟨rfl, hb7⟩
         have hB0 := Below.call hB0 hb7 (Nat.le_refl _); have hbX := hbX.belowAll hb7; have hmP := hmP.below hb7 hmP.lt; have hmJ := hmJ.below hb7 hmJ.lt; have hoD := hoD.belowAll hb7; have hS1 := Nat.le_trans hS1 hb7.size
         refine hK _ _ hb7 ?_
         clear hK K
         try simp only [pTs, pTn, pTz, pTc]
         refine wpB_act rfl rfl (fun K hK => ?_)
         go_simp
         refine (compareRefs_any (refN x) (refN old) _).mono ?_
         rintro e w8 ⟨rfl, hb8⟩
         have hB0 := Below.call hB0 hb8 (Nat.le_refl _); have hbX := hbX.belowAll hb8; have hmP := hmP.below hb8 hmP.lt; have hmJ := hmJ.below hb8 hmJ.lt; have hoD := hoD.belowAll hb8; have hS1 := Nat.le_trans hS1 hb8.size
         refine hK _ _ hb8 ?_
         clear hK K
         try simp only [pTs, pTn, pTz, pTc]
         refine wpB_act rfl rfl (fun K hK => ?_)
         go_simp
         refine hK _ _ ((Below.refl _ _).alloc (Nat.le_refl _) _) ?_
         clear hK K
         try simp only [pTs, pTn, pTz, pTc]
         refine wpB_act rfl rfl (fun K hK => ?_)
         go_simp
         refine (or_any w8.heap.size 0 2 2 [cmpI x.clock old.clock, compareRefsI (refN x) (refN old)] _ rfl (by decide) ?_).mono ?_
         ·rintro (_ | _ | kk) q hq <;> simp at hq <;> subst hq <;> simp [go_sem]
         rintro e wq ⟨rfl, rfl⟩
         refine hK _ _ (Below.refl _ _) ?_
         clear hK K
         try simp only [pTs, pTn, pTz, pTc]
         iterate 2 (refine wpB_fix rfl rfl (fun W hW => by go_simp; with_reducible rfl) ?_; simp only [pTs, pTn, pTz, pTc])
         simp only [wpB]
         go_wp2
         go_roundw
         case rel => exact ⟨k2 + 1, js, by omega, by go_num, Lib.hid (by rw [HJY.out]; simp [hkn]; intro h; exact absurd h (by omega)), HJO, Lib.hid (hmJ.alloc _), Lib.hid (hmP.alloc _), Lib.hid (by rw [HJY.out]; simp only [hp]; exact hoD.belowAll ((Below.refl _ _).alloc (Nat.le_refl _) _)), Nat.le_trans hS1 (by simp), hB0.alloc hB0.size _⟩
         case measure => simp [intOf]; omega
      case true =>
       rcases hkn : ahas js x.ref
       case false =>
        go_wp2_with (first
         | (with_reducible refine at_dst 38 ?_; refine wpList_load_at rfl 43 _ rfl b (o + k2 * 29) rfl (encNote x) _ (HC.out _ hB) Tryz.underlying43 rfl (by kernel_rfl) ?_)
         | (with_reducible refine at_dst 39 ?_; refine wpList_loadB hbX rfl 43 _ rfl rfl (encNote x) (whole_cells _) Tryz.underlying43 rfl (by kernel_rfl) ?_)
         | (with_reducible refine at_store ?_; refine wpList_store_last (cs := encNote x) rfl 43 _ _ rfl rfl rfl rfl (by kernel_rfl) rfl (encNote_one _) ?_)
         | (go_at_call 151; refine (HJU.out _).mono ?_; rintro e w1 ⟨rfl, hb1⟩; have hB0 := Below.call hB0 hb1 (Nat.le_refl _); have hbX := hbX.belowAll hb1; have hmP := hmP.below hb1 hmP.lt; have hmJ := hmJ.below hb1 hmJ.lt; have hoD := hoD.belowAll hb1; have hS1 := Nat.le_trans hS1 hb1.size; clear hb1)
         | (with_reducible refine at_dst 44 ?_; refine wpList_loadB hbX rfl 34 _ rfl rfl (encRef x.ref) (encNote_ref x) Tryz.underlying34 rfl (by kernel_rfl) ?_)
         | (with_reducible refine at_dst 45 ?_; refine wpList_look rfl _ _ 228 rfl refKey Tryz.underlying228 false (zeroBool _) rfl hmP x.ref hgr.out rfl ?_; rw [hp])
         | (with_reducible refine at_dst 55 ?_; refine wpList_loadB hbX rfl 34 _ rfl rfl (encRef x.ref) (encNote_ref x) Tryz.underlying34 rfl (by kernel_rfl) ?_)
         | (with_reducible refine at_dst 56 ?_; refine wpList_lookok rfl _ _ 63 rfl refKey Tryz.underlying63 zNote (zeroNote _) rfl hmJ x.ref hgr.out rfl ?_; rw [HOLD.out, hkn])
         | (with_reducible refine at_store ?_; refine wpList_store_last (cs := encNote old) rfl 43 _ _ rfl rfl rfl rfl (by kernel_rfl) rfl (encNote_one _) ?_))
        have hbO : BoxAt (w1.alloc (.cells (encNote old) 43)).drew w1.heap.size 43 (encNote old) := (BoxAt.new _ _ _).drew
        replace hbX : BoxAt (w1.alloc (.cells (encNote old) 43)).drew wr.heap.size 43 (encNote x) := (hbX.alloc _).drew
        replace hmP : MapAt vRef Value.bool gRef (w1.alloc (.cells (encNote old) 43)).drew (w.heap.size + 1) (plainN val) := (hmP.alloc _).of_block rfl
        replace hmJ : MapAt vRef vNote gRef (w1.alloc (.cells (encNote old) 43)).drew w.heap.size js := (hmJ.alloc _).of_block rfl
        replace hoD := hoD.belowAll (((Below.refl w1.heap.size w1).alloc (Nat.le_refl _) (.cells (encNote old) 43)).drew)
        replace hB0 : Below w.heap.size w (w1.alloc (.cells (encNote old) 43)).drew := (hB0.alloc hB0.size _).drew
        replace hS1 : w.heap.size + 2 ≤ (w1.alloc (.cells (encNote old) 43)).drew.heap.size := Nat.le_trans hS1 (by simp)
        refine wp_region_ord [(0, true), (1, true), (2, true), (3, true), (5, true), (7, true), (4, false), (6, false), (8, false), (9, false), (10, false), (11, false), (12, true), (13, true)] rfl (by kernel_rfl) (by kernel_rfl) (fun d _ _ _ _ h => by cases d <;> exact h) ?_
        refine wpB_fix rfl rfl (fun W hW => by go_simp; with_reducible rfl) ?_; simp only [pTs, pTn, pTz, pTc]
        refine wpB_fix (v := vi x.clock) rfl rfl (fun W hW => by have e : W.cell? ⟨wr.heap.size, 2, none⟩ = some (vi x.clock) := ((hbX.belowAll hW).cell 2).trans (encNote_2 x); go_simp) ?_; simp only [pTs, pTn, pTz, pTc]
        refine wpB_fix rfl rfl (fun W hW => by go_simp; with_reducible rfl) ?_; simp only [pTs, pTn, pTz, pTc]
        refine wpB_fix (v := vi old.clock) rfl rfl (fun W hW => by have e : W.cell? ⟨w1.heap.size, 2, none⟩ = some (vi old.clock) := ((hbO.belowAll hW).cell 2).trans (encNote_2 old); go_simp) ?_; simp only [pTs, pTn, pTz, pTc]
        refine wpB_fix (v := .agg (encNote x)) rfl rfl (fun W hW => run_load_box (encNote x) (hbX.belowAll hW) rfl (whole_cells _) Tryz.underlying43 rfl (by kernel_rfl)) ?_; simp only [pTs, pTn, pTz, pTc]
        refine wpB_fix (v := .agg (encNote old)) rfl rfl (fun W hW => run_load_box (encNote old) (hbO.belowAll hW) rfl (whole_cells _) Tryz.underlying43 rfl (by kernel_rfl)) ?_; simp only [pTs, pTn, pTz, pTc]
        refine wpB_act rfl rfl (fun K hK => ?_)
        go_simp
        refine (cmp_any _ _ _).mono ?_
        rintro e wq ⟨rfl, rfl⟩
        refine hK _ _ (Below.refl _ _) ?_
        clear hK K
        try simp only [pTs, pTn, pTz, pTc]
        refine wpB_act rfl rfl (fun K hK => ?_)
        go_simp
        refine (refOf_any x _).mono ?_
        rintro e w6 ⟨rfl, hb6⟩
        have hB0 := Below.call hB0 hb6 (Nat.le_refl _); have hbX := hbX.belowAll hb6; have hmP := hmP.below hb6 hmP.lt; have hmJ := hmJ.below hb6 hmJ.lt; have hoD := hoD.belowAll hb6; have hS1 := Nat.le_trans hS1 hb6.size
        refine hK _ _ hb6 ?_
        clear hK K
        try simp only [pTs, pTn, pTz, pTc]
        refine wpB_act rfl rfl (fun K hK => ?_)
        go_simp
        refine (refOf_any old _).mono ?_
        rintro e w7 ⟨rfl, hb7⟩
        have hB0 := Below.call hB0 hb7 (Nat.le_refl _); have hbX := hbX.belowAll hb7; have hmP := hmP.below hb7 hmP.lt; have hmJ := hmJ.below hb7 hmJ.lt; have hoD := hoD.belowAll hb7; have hS1 := Nat.le_trans hS1 hb7.size
        refine hK _ _ hb7 ?_
        clear hK K
        try simp only [pTs, pTn, pTz, pTc]
        refine wpB_act rfl rfl (fun K hK => ?_)
        go_simp
        refine (compareRefs_any (refN x) (refN old) _).mono ?_
        rintro e w8 ⟨rfl, hb8⟩
        have hB0 := Below.call hB0 hb8 (Nat.le_refl _); have hbX := hbX.belowAll hb8; have hmP := hmP.below hb8 hmP.lt; have hmJ := hmJ.below hb8 hmJ.lt; have hoD := hoD.belowAll hb8; have hS1 := Nat.le_trans hS1 hb8.size
        refine hK _ _ hb8 ?_
        clear hK K
        try simp only [pTs, pTn, pTz, pTc]
        refine wpB_act rfl rfl (fun K hK => ?_)
        go_simp
        refine hK _ _ ((Below.refl _ _).alloc (Nat.le_refl _) _) ?_
        clear hK K
        try simp only [pTs, pTn, pTz, pTc]
        refine wpB_act rfl rfl (fun K hK => ?_)
        go_simp
        refine (or_any w8.heap.size 0 2 2 [cmpI x.clock old.clock, compareRefsI (refN x) (refN old)] _ rfl (by decide) ?_).mono ?_
        ·rintro (_ | _ | kk) q hq <;> simp at hq <;> subst hq <;> simp [go_sem]
        rintro e wq ⟨rfl, rfl⟩
        refine hK _ _ (Below.refl _ _) ?_
        clear hK K
        try simp only [pTs, pTn, pTz, pTc]
        iterate 2 (refine wpB_fix rfl rfl (fun W hW => by go_simp; with_reducible rfl) ?_; simp only [pTs, pTn, pTz, pTc])
        simp only [wpB]
        go_wp2_with (first
         | (with_reducible refine at_dst 79 ?_; refine wpList_loadB (hbX.alloc _) rfl 34 _ rfl rfl (encRef x.ref) (encNote_ref x) Tryz.underlying34 rfl (by kernel_rfl) ?_)
         | (with_reducible refine at_dst 80 ?_; refine wpList_loadB (hbX.alloc _) rfl 43 _ rfl rfl (encNote x) (whole_cells _) Tryz.underlying43 rfl (by kernel_rfl) ?_)
         | (at_mapUpdate; refine wpList_store_map rfl _ _ _ 63 rfl refKey Tryz.underlying63 rfl (hmJ.alloc _) x.ref hgr.out rfl x rfl ?_; intro w9 hmJ9 hT; have hB9 := (hB0.alloc hB0.size _).trans (hT.below (Nat.le_refl _)); have hmP9 := (hmP.alloc _).turn hT (Nat.succ_ne_self _); have hoD9 := (hoD.belowAll ((Below.refl _ _).alloc (Nat.le_refl _) _)).turn hT (own_ne (hoD.belowAll ((Below.refl _ _).alloc (Nat.le_refl _) (.map #[] 0))) (by omega)); have hS9 : w.heap.size + 2 ≤ w9.heap.size := (by rw [hT.size]; exact Nat.le_trans hS1 (by simp)); clear hT))
        go_roundw
        case rel => exact ⟨k2 + 1, aput js x.ref x, by omega, by go_num, Lib.hid (by rw [HJY.out]; simp [hkn]), Lib.hid (fun p hp => by rcases mem_aput hp with rfl | hp; exact HOKX.out; exact HJO.out p hp), Lib.hid hmJ9, Lib.hid hmP9, Lib.hid (by rw [HJY.out]; simp only [hp]; exact hoD9), hS9, hB9⟩
        case measure => simp [intOf]; omega
       case true =>
        by_cases hL : 0 < orI [cmpI x.clock old.clock, compareRefsI (refN x) (refN old)]
        ·skip
         go_wp2_with (first
          | (with_reducible refine at_dst 38 ?_; refine wpList_load_at rfl 43 _ rfl b (o + k2 * 29) rfl (encNote x) _ (HC.out _ hB) Tryz.underlying43 rfl (by kernel_rfl) ?_)
          | (with_reducible refine at_dst 39 ?_; refine wpList_loadB hbX rfl 43 _ rfl rfl (encNote x) (whole_cells _) Tryz.underlying43 rfl (by kernel_rfl) ?_)
          | (with_reducible refine at_store ?_; refine wpList_store_last (cs := encNote x) rfl 43 _ _ rfl rfl rfl rfl (by kernel_rfl) rfl (encNote_one _) ?_)
          | (go_at_call 151; refine (HJU.out _).mono ?_; rintro e w1 ⟨rfl, hb1⟩; have hB0 := Below.call hB0 hb1 (Nat.le_refl _); have hbX := hbX.belowAll hb1; have hmP := hmP.below hb1 hmP.lt; have hmJ := hmJ.below hb1 hmJ.lt; have hoD := hoD.belowAll hb1; have hS1 := Nat.le_trans hS1 hb1.size; clear hb1)
          | (with_reducible refine at_dst 44 ?_; refine wpList_loadB hbX rfl 34 _ rfl rfl (encRef x.ref) (encNote_ref x) Tryz.underlying34 rfl (by kernel_rfl) ?_)
          | (with_reducible refine at_dst 45 ?_; refine wpList_look rfl _ _ 228 rfl refKey Tryz.underlying228 false (zeroBool _) rfl hmP x.ref hgr.out rfl ?_; rw [hp])
          | (with_reducible refine at_dst 55 ?_; refine wpList_loadB hbX rfl 34 _ rfl rfl (encRef x.ref) (encNote_ref x) Tryz.underlying34 rfl (by kernel_rfl) ?_)
          | (with_reducible refine at_dst 56 ?_; refine wpList_lookok rfl _ _ 63 rfl refKey Tryz.underlying63 zNote (zeroNote _) rfl hmJ x.ref hgr.out rfl ?_; rw [HOLD.out, hkn])
          | (with_reducible refine at_store ?_; refine wpList_store_last (cs := encNote old) rfl 43 _ _ rfl rfl rfl rfl (by kernel_rfl) rfl (encNote_one _) ?_))
         have hbO : BoxAt (w1.alloc (.cells (encNote old) 43)).drew w1.heap.size 43 (encNote old) := (BoxAt.new _ _ _).drew
         replace hbX : BoxAt (w1.alloc (.cells (encNote old) 43)).drew wr.heap.size 43 (encNote x) := (hbX.alloc _).drew
         replace hmP : MapAt vRef Value.bool gRef (w1.alloc (.cells (encNote old) 43)).drew (w.heap.size + 1) (plainN val) := (hmP.alloc _).of_block rfl
         replace hmJ : MapAt vRef vNote gRef (w1.alloc (.cells (encNote old) 43)).drew w.heap.size js := (hmJ.alloc _).of_block rfl
         replace hoD := hoD.belowAll (((Below.refl w1.heap.size w1).alloc (Nat.le_refl _) (.cells (encNote old) 43)).drew)
         replace hB0 : Below w.heap.size w (w1.alloc (.cells (encNote old) 43)).drew := (hB0.alloc hB0.size _).drew
         replace hS1 : w.heap.size + 2 ≤ (w1.alloc (.cells (encNote old) 43)).drew.heap.size := Nat.le_trans hS1 (by simp)
         refine wp_region_ord [(0, true), (1, true), (2, true), (3, true), (5, true), (7, true), (4, false), (6, false), (8, false), (9, false), (10, false), (11, false), (12, true), (13, true)] rfl (by kernel_rfl) (by kernel_rfl) (fun d _ _ _ _ h => by cases d <;> exact h) ?_
         refine wpB_fix rfl rfl (fun W hW => by go_simp; with_reducible rfl) ?_; simp only [pTs, pTn, pTz, pTc]
         refine wpB_fix (v := vi x.clock) rfl rfl (fun W hW => by have e : W.cell? ⟨wr.heap.size, 2, none⟩ = some (vi x.clock) := ((hbX.belowAll hW).cell 2).trans (encNote_2 x); go_simp) ?_; simp only [pTs, pTn, pTz, pTc]
         refine wpB_fix rfl rfl (fun W hW => by go_simp; with_reducible rfl) ?_; simp only [pTs, pTn, pTz, pTc]
         refine wpB_fix (v := vi old.clock) rfl rfl (fun W hW => by have e : W.cell? ⟨w1.heap.size, 2, none⟩ = some (vi old.clock) := ((hbO.belowAll hW).cell 2).trans (encNote_2 old); go_simp) ?_; simp only [pTs, pTn, pTz, pTc]
         refine wpB_fix (v := .agg (encNote x)) rfl rfl (fun W hW => run_load_box (encNote x) (hbX.belowAll hW) rfl (whole_cells _) Tryz.underlying43 rfl (by kernel_rfl)) ?_; simp only [pTs, pTn, pTz, pTc]
         refine wpB_fix (v := .agg (encNote old)) rfl rfl (fun W hW => run_load_box (encNote old) (hbO.belowAll hW) rfl (whole_cells _) Tryz.underlying43 rfl (by kernel_rfl)) ?_; simp only [pTs, pTn, pTz, pTc]
         refine wpB_act rfl rfl (fun K hK => ?_)
         go_simp
         refine (cmp_any _ _ _).mono ?_
         rintro e wq ⟨rfl, rfl⟩
         refine hK _ _ (Below.refl _ _) ?_
         clear hK K
         try simp only [pTs, pTn, pTz, pTc]
         refine wpB_act rfl rfl (fun K hK => ?_)
         go_simp
         refine (refOf_any x _).mono ?_
         rintro e w6 ⟨rfl, hb6⟩
         have hB0 := Below.call hB0 hb6 (Nat.le_refl _); have hbX := hbX.belowAll hb6; have hmP := hmP.below hb6 hmP.lt; have hmJ := hmJ.below hb6 hmJ.lt; have hoD := hoD.belowAll hb6; have hS1 := Nat.le_trans hS1 hb6.size
         refine hK _ _ hb6 ?_
         clear hK K
         try simp only [pTs, pTn, pTz, pTc]
         refine wpB_act rfl rfl (fun K hK => ?_)
         go_simp
         refine (refOf_any old _).mono ?_
         rintro e w7 ⟨rfl, hb7⟩
         have hB0 := Below.call hB0 hb7 (Nat.le_refl _); have hbX := hbX.belowAll hb7; have hmP := hmP.below hb7 hmP.lt; have hmJ := hmJ.below hb7 hmJ.lt; have hoD := hoD.belowAll hb7; have hS1 := Nat.le_trans hS1 hb7.size
         refine hK _ _ hb7 ?_
         clear hK K
         try simp only [pTs, pTn, pTz, pTc]
         refine wpB_act rfl rfl (fun K hK => ?_)
         go_simp
         refine (compareRefs_any (refN x) (refN old) _).mono ?_
         rintro e w8 ⟨rfl, hb8⟩
         have hB0 := Below.call hB0 hb8 (Nat.le_refl _); have hbX := hbX.belowAll hb8; have hmP := hmP.below hb8 hmP.lt; have hmJ := hmJ.below hb8 hmJ.lt; have hoD := hoD.belowAll hb8; have hS1 := Nat.le_trans hS1 hb8.size
         refine hK _ _ hb8 ?_
         clear hK K
         try simp only [pTs, pTn, pTz, pTc]
         refine wpB_act rfl rfl (fun K hK => ?_)
         go_simp
         refine hK _ _ ((Below.refl _ _).alloc (Nat.le_refl _) _) ?_
         clear hK K
         try simp only [pTs, pTn, pTz, pTc]
         refine wpB_act rfl rfl (fun K hK => ?_)
         go_simp
         refine (or_any w8.heap.size 0 2 2 [cmpI x.clock old.clock, compareRefsI (refN x) (refN old)] _ rfl (by decide) ?_).mono ?_
         ·rintro (_ | _ | kk) q hq <;> simp at hq <;> subst hq <;> simp [go_sem]
         rintro e wq ⟨rfl, rfl⟩
         refine hK _ _ (Below.refl _ _) ?_
         clear hK K
         try simp only [pTs, pTn, pTz, pTc]
         iterate 2 (refine wpB_fix rfl rfl (fun W hW => by go_simp; with_reducible rfl) ?_; simp only [pTs, pTn, pTz, pTc])
         simp only [wpB]
         go_wp2_with (first
          | (with_reducible refine at_dst 79 ?_; refine wpList_loadB (hbX.alloc _) rfl 34 _ rfl rfl (encRef x.ref) (encNote_ref x) Tryz.underlying34 rfl (by kernel_rfl) ?_)
          | (with_reducible refine at_dst 80 ?_; refine wpList_loadB (hbX.alloc _) rfl 43 _ rfl rfl (encNote x) (whole_cells _) Tryz.underlying43 rfl (by kernel_rfl) ?_)
          | (at_mapUpdate; refine wpList_store_map rfl _ _ _ 63 rfl refKey Tryz.underlying63 rfl (hmJ.alloc _) x.ref hgr.out rfl x rfl ?_; intro w9 hmJ9 hT; have hB9 := (hB0.alloc hB0.size _).trans (hT.below (Nat.le_refl _)); have hmP9 := (hmP.alloc _).turn hT (Nat.succ_ne_self _); have hoD9 := (hoD.belowAll ((Below.refl _ _).alloc (Nat.le_refl _) _)).turn hT (own_ne (hoD.belowAll ((Below.refl _ _).alloc (Nat.le_refl _) (.map #[] 0))) (by omega)); have hS9 : w.heap.size + 2 ≤ w9.heap.size := (by rw [hT.size]; exact Nat.le_trans hS1 (by simp)); clear hT))
         go_roundw
         case rel => exact ⟨k2 + 1, aput js x.ref x, by omega, by go_num, Lib.hid (by rw [HJY.out]; simp [hkn, hL]), Lib.hid (fun p hp => by rcases mem_aput hp with rfl | hp; exact HOKX.out; exact HJO.out p hp), Lib.hid hmJ9, Lib.hid hmP9, Lib.hid (by rw [HJY.out]; simp only [hp]; exact hoD9), hS9, hB9⟩
         case measure => simp [intOf]; omega
        ·skip
         go_wp2_with (first
          | (with_reducible refine at_dst 38 ?_; refine wpList_load_at rfl 43 _ rfl b (o + k2 * 29) rfl (encNote x) _ (HC.out _ hB) Tryz.underlying43 rfl (by kernel_rfl) ?_)
          | (with_reducible refine at_dst 39 ?_; refine wpList_loadB hbX rfl 43 _ rfl rfl (encNote x) (whole_cells _) Tryz.underlying43 rfl (by kernel_rfl) ?_)
          | (with_reducible refine at_store ?_; refine wpList_store_last (cs := encNote x) rfl 43 _ _ rfl rfl rfl rfl (by kernel_rfl) rfl (encNote_one _) ?_)
          | (go_at_call 151; refine (HJU.out _).mono ?_; rintro e w1 ⟨rfl, hb1⟩; have hB0 := Below.call hB0 hb1 (Nat.le_refl _); have hbX := hbX.belowAll hb1; have hmP := hmP.below hb1 hmP.lt; have hmJ := hmJ.below hb1 hmJ.lt; have hoD := hoD.belowAll hb1; have hS1 := Nat.le_trans hS1 hb1.size; clear hb1)
          | (with_reducible refine at_dst 44 ?_; refine wpList_loadB hbX rfl 34 _ rfl rfl (encRef x.ref) (encNote_ref x) Tryz.underlying34 rfl (by kernel_rfl) ?_)
          | (with_reducible refine at_dst 45 ?_; refine wpList_look rfl _ _ 228 rfl refKey Tryz.underlying228 false (zeroBool _) rfl hmP x.ref hgr.out rfl ?_; rw [hp])
          | (with_reducible refine at_dst 55 ?_; refine wpList_loadB hbX rfl 34 _ rfl rfl (encRef x.ref) (encNote_ref x) Tryz.underlying34 rfl (by kernel_rfl) ?_)
          | (with_reducible refine at_dst 56 ?_; refine wpList_lookok rfl _ _ 63 rfl refKey Tryz.underlying63 zNote (zeroNote _) rfl hmJ x.ref hgr.out rfl ?_; rw [HOLD.out, hkn])
          | (with_reducible refine at_store ?_; refine wpList_store_last (cs := encNote old) rfl 43 _ _ rfl rfl rfl rfl (by kernel_rfl) rfl (encNote_one _) ?_))
         have hbO : BoxAt (w1.alloc (.cells (encNote old) 43)).drew w1.heap.size 43 (encNote old) := (BoxAt.new _ _ _).drew
         replace hbX : BoxAt (w1.alloc (.cells (encNote old) 43)).drew wr.heap.size 43 (encNote x) := (hbX.alloc _).drew
         replace hmP : MapAt vRef Value.bool gRef (w1.alloc (.cells (encNote old) 43)).drew (w.heap.size + 1) (plainN val) := (hmP.alloc _).of_block rfl
         replace hmJ : MapAt vRef vNote gRef (w1.alloc (.cells (encNote old) 43)).drew w.heap.size js := (hmJ.alloc _).of_block rfl
         replace hoD := hoD.belowAll (((Below.refl w1.heap.size w1).alloc (Nat.le_refl _) (.cells (encNote old) 43)).drew)
         replace hB0 : Below w.heap.size w (w1.alloc (.cells (encNote old) 43)).drew := (hB0.alloc hB0.size _).drew
         replace hS1 : w.heap.size + 2 ≤ (w1.alloc (.cells (encNote old) 43)).drew.heap.size := Nat.le_trans hS1 (by simp)
         refine wp_region_ord [(0, true), (1, true), (2, true), (3, true), (5, true), (7, true), (4, false), (6, false), (8, false), (9, false), (10, false), (11, false), (12, true), (13, true)] rfl (by kernel_rfl) (by kernel_rfl) (fun d _ _ _ _ h => by cases d <;> exact h) ?_
         refine wpB_fix rfl rfl (fun W hW => by go_simp; with_reducible rfl) ?_; simp only [pTs, pTn, pTz, pTc]
         refine wpB_fix (v := vi x.clock) rfl rfl (fun W hW => by have e : W.cell? ⟨wr.heap.size, 2, none⟩ = some (vi x.clock) := ((hbX.belowAll hW).cell 2).trans (encNote_2 x); go_simp) ?_; simp only [pTs, pTn, pTz, pTc]
         refine wpB_fix rfl rfl (fun W hW => by go_simp; with_reducible rfl) ?_; simp only [pTs, pTn, pTz, pTc]
         refine wpB_fix (v := vi old.clock) rfl rfl (fun W hW => by have e : W.cell? ⟨w1.heap.size, 2, none⟩ = some (vi old.clock) := ((hbO.belowAll hW).cell 2).trans (encNote_2 old); go_simp) ?_; simp only [pTs, pTn, pTz, pTc]
         refine wpB_fix (v := .agg (encNote x)) rfl rfl (fun W hW => run_load_box (encNote x) (hbX.belowAll hW) rfl (whole_cells _) Tryz.underlying43 rfl (by kernel_rfl)) ?_; simp only [pTs, pTn, pTz, pTc]
         refine wpB_fix (v := .agg (encNote old)) rfl rfl (fun W hW => run_load_box (encNote old) (hbO.belowAll hW) rfl (whole_cells _) Tryz.underlying43 rfl (by kernel_rfl)) ?_; simp only [pTs, pTn, pTz, pTc]
         refine wpB_act rfl rfl (fun K hK => ?_)
         go_simp
         refine (cmp_any _ _ _).mono ?_
         rintro e wq ⟨rfl, rfl⟩
         refine hK _ _ (Below.refl _ _) ?_
         clear hK K
         try simp only [pTs, pTn, pTz, pTc]
         refine wpB_act rfl rfl (fun K hK => ?_)
         go_simp
         refine (refOf_any x _).mono ?_
         rintro e w6 ⟨rfl, hb6⟩
         have hB0 := Below.call hB0 hb6 (Nat.le_refl _); have hbX := hbX.belowAll hb6; have hmP := hmP.below hb6 hmP.lt; have hmJ := hmJ.below hb6 hmJ.lt; have hoD := hoD.belowAll hb6; have hS1 := Nat.le_trans hS1 hb6.size
         refine hK _ _ hb6 ?_
         clear hK K
         try simp only [pTs, pTn, pTz, pTc]
         refine wpB_act rfl rfl (fun K hK => ?_)
         go_simp
         refine (refOf_any old _).mono ?_
         rintro e w7 ⟨rfl, hb7⟩
         have hB0 := Below.call hB0 hb7 (Nat.le_refl _); have hbX := hbX.belowAll hb7; have hmP := hmP.below hb7 hmP.lt; have hmJ := hmJ.below hb7 hmJ.lt; have hoD := hoD.belowAll hb7; have hS1 := Nat.le_trans hS1 hb7.size
         refine hK _ _ hb7 ?_
         clear hK K
         try simp only [pTs, pTn, pTz, pTc]
         refine wpB_act rfl rfl (fun K hK => ?_)
         go_simp
         refine (compareRefs_any (refN x) (refN old) _).mono ?_
         rintro e w8 ⟨rfl, hb8⟩
         have hB0 := Below.call hB0 hb8 (Nat.le_refl _); have hbX := hbX.belowAll hb8; have hmP := hmP.below hb8 hmP.lt; have hmJ := hmJ.below hb8 hmJ.lt; have hoD := hoD.belowAll hb8; have hS1 := Nat.le_trans hS1 hb8.size
         refine hK _ _ hb8 ?_
         clear hK K
         try simp only [pTs, pTn, pTz, pTc]
         refine wpB_act rfl rfl (fun K hK => ?_)
         go_simp
         refine hK _ _ ((Below.refl _ _).alloc (Nat.le_refl _) _) ?_
         clear hK K
         try simp only [pTs, pTn, pTz, pTc]
         refine wpB_act rfl rfl (fun K hK => ?_)
         go_simp
         refine (or_any w8.heap.size 0 2 2 [cmpI x.clock old.clock, compareRefsI (refN x) (refN old)] _ rfl (by decide) ?_).mono ?_
         ·rintro (_ | _ | kk) q hq <;> simp at hq <;> subst hq <;> simp [go_sem]
         rintro e wq ⟨rfl, rfl⟩
         refine hK _ _ (Below.refl _ _) ?_
         clear hK K
         try simp only [pTs, pTn, pTz, pTc]
         iterate 2 (refine wpB_fix rfl rfl (fun W hW => by go_simp; with_reducible rfl) ?_; simp only [pTs, pTn, pTz, pTc])
         simp only [wpB]
         go_wp2
         go_roundw
         case rel => exact ⟨k2 + 1, js, by omega, by go_num, Lib.hid (by rw [HJY.out]; simp [hkn]; intro h; exact absurd h (by omega)), HJO, Lib.hid (hmJ.alloc _), Lib.hid (hmP.alloc _), Lib.hid (by rw [HJY.out]; simp only [hp]; exact hoD.belowAll ((Below.refl _ _).alloc (Nat.le_refl _) _)), Nat.le_trans hS1 (by simp), hB0.alloc hB0.size _⟩
         case measure => simp [intOf]; omega
    ·have hk2' : k2 = val.length := by omega
     subst hk2'
     have HJA : Hid (absMap js = (judgesA (val.map Note.abs)).1) := Lib.hid (by rw [HJS.out, jst_all])
     have HDA : Hid (OwnL encRef 2 wr (w.heap.size + 2) 34 u3 (dangA (val.map Note.abs))) := Lib.hid (by have h := HOD.out; rw [jst_all] at h; exact h)
     clear HJS HOD HMP
     go_wp2
     go_loopw [2, 14, 15, 16, 17, 84] (fun v _ _ _ _ i wr => ∃ (k : Nat) (outs : List Note), k ≤ val.length ∧ i = .int .i64 k ∧ outs.length ≤ k ∧ Hid (outs.map Note.abs = countN val k) ∧
      Hid (∀ p ∈ outs, okNote (fun q => q < w.heap.size ∨ v.ownBlock = some q) wr p) ∧ Hid (MapAt vRef vNote gRef wr w.heap.size js) ∧ Hid (OwnL encNote 29 wr (w.heap.size + 2) 43 v outs) ∧
      Hid (OwnL encRef 2 wr (w.heap.size + 2) 34 u3 (dangA (val.map Note.abs))) ∧ Hid (∀ g, u3.ownBlock = some g → v.ownBlock ≠ some g) ∧ w.heap.size + 2 ≤ wr.heap.size ∧ Below w.heap.size w wr) (fun _ _ _ _ _ i _ => val.length - (intOf i).toNat)
     case atStart => exact ⟨0, [], Nat.zero_le _, rfl, Nat.le_refl _, Lib.hid (by simp [countN]), Lib.hid (by simp), HMJ, Lib.hid (OwnL.nil _ _ _ _ _), HDA, Lib.hid (by simp [Value.ownBlock]), hSz, hB⟩
     case round =>
      obtain ⟨k3, outs, hk3, rfl, hol, HOA, HOO, HMJ, HOL, HDA, HNE, hSz, hB⟩ := hrel
      by_cases hlt3 : k3 < val.length
      ·obtain ⟨x, hx⟩ : ∃ x, val[k3]? = some x := ⟨_, List.getElem?_eq_getElem hlt3⟩
       obtain ⟨b, o, rfl, hb, _, hok, hcell⟩ := HS.out.at hx
       have HC : Hid (∀ W, Below w.heap.size w W → ∀ j, j < (encNote x).size → W.cell? ⟨b, o + k3 * 29 + j, none⟩ = (encNote x)[j]?) := Lib.hid fun W hW j hj => by
        rw [(Ext.of_below (D := fun _ => False) hW).cell hb id]; exact hcell j hj
       have hi1 : (k3 : Int) < (val.length : Int) := by omega
       have hgx := Lib.hid (okNote_name hok)
       have HX := Lib.hid hx
       have HOKX := Lib.hid hok
       have hBw : Below wr.heap.size wr (wr.alloc (.cells (encNote x) 43)) := (Below.refl _ _).alloc (Nat.le_refl _) _
       have hbX : BoxAt (wr.alloc (.cells (encNote x) 43)) wr.heap.size 43 (encNote x) := BoxAt.new _ _ _
       have HJU : Hid (∀ W, Calls Tryz.prog 151 #[.agg (encNote x)] W fun e w' => e = .returned (.bool (judgingI x.kind)) ∧ Below W.heap.size W w') := Lib.hid fun W => judging_any x W
       have HCN := Lib.hid (countN_succ hx HJA.out)
       clear hx hok hcell
       rcases hj : judgingI x.kind
       case true =>
        simp only [hj] at HJU
        go_wp2_with (first
         | (with_reducible refine at_dst 87 ?_; refine wpList_load_at rfl 43 _ rfl b (o + k3 * 29) rfl (encNote x) _ (HC.out _ hB) Tryz.underlying43 rfl (by kernel_rfl) ?_)
         | (with_reducible refine at_store ?_; refine wpList_store_last (cs := encNote x) rfl 43 _ _ rfl rfl rfl rfl (by kernel_rfl) rfl (encNote_one _) ?_)
         | (with_reducible refine at_dst 88 ?_; refine wpList_loadB hbX rfl 43 _ rfl rfl (encNote x) (whole_cells _) Tryz.underlying43 rfl (by kernel_rfl) ?_)
         | (go_at_call 151; refine (HJU.out _).mono ?_; rintro e w1 ⟨rfl, hb1⟩; have hBw := Below.call hBw hb1 (Nat.le_refl _); have hbX := hbX.belowAll hb1; clear hb1))
        go_roundw
        case rel => exact ⟨k3 + 1, outs, by omega, by go_num, by omega, Lib.hid (by rw [HCN.out, HOA.out]; simp [hj]), Lib.hid (fun p hp => okNote_step (HOO.out p hp) (fun q hq _ => (hBw).block q hq) (hBw).size (fun q hq => .inl hq)), Lib.hid (HMJ.out.below (hBw) HMJ.out.lt), Lib.hid (HOL.out.belowAll (hBw)), Lib.hid (HDA.out.belowAll (hBw)), HNE, Nat.le_trans hSz (hBw).size, hB.trans ((hBw).mono hB.size)⟩
        case measure => simp [intOf]; omega
       case false =>
        simp only [hj] at HJU
        obtain ⟨jd, hjd⟩ : ∃ q, (aget js (refN x)).getD zNote = q := ⟨_, rfl⟩
        have HJD := Lib.hid hjd
        clear hjd
        rcases hkn : ahas js (refN x)
        case false =>
         have HNO : Hid (aget js (refN x) = none) := Lib.hid (by have h := aget_isSome js (refN x); rw [hkn] at h; simpa using h)
         go_wp2_with (first
         | (with_reducible refine at_dst 87 ?_; refine wpList_load_at rfl 43 _ rfl b (o + k3 * 29) rfl (encNote x) _ (HC.out _ hB) Tryz.underlying43 rfl (by kernel_rfl) ?_)
         | (with_reducible refine at_store ?_; refine wpList_store_last (cs := encNote x) rfl 43 _ _ rfl rfl rfl rfl (by kernel_rfl) rfl (encNote_one _) ?_)
         | (with_reducible refine at_dst 88 ?_; refine wpList_loadB hbX rfl 43 _ rfl rfl (encNote x) (whole_cells _) Tryz.underlying43 rfl (by kernel_rfl) ?_)
         | (go_at_call 151; refine (HJU.out _).mono ?_; rintro e w1 ⟨rfl, hb1⟩; have hBw := Below.call hBw hb1 (Nat.le_refl _); have hbX := hbX.belowAll hb1; clear hb1)
         | (with_reducible refine at_dst 92 ?_; refine wpList_loadB hbX rfl 43 _ rfl rfl (encNote x) (whole_cells _) Tryz.underlying43 rfl (by kernel_rfl) ?_)
         | (go_at_call 59; refine (refOf_any x _).mono ?_; rintro e w2 ⟨rfl, hb1⟩; have hBw := Below.call hBw hb1 (Nat.le_refl _); have hbX := hbX.belowAll hb1; clear hb1)
         | (with_reducible refine at_dst 94 ?_; refine wpList_lookok rfl _ _ 63 rfl refKey Tryz.underlying63 zNote (zeroNote _) rfl (HMJ.out.below hBw HMJ.out.lt) (refN x) hgx.out rfl ?_; rw [HJD.out, hkn])
         | (with_reducible refine at_store ?_; refine wpList_store_last (cs := encNote jd) rfl 43 _ _ rfl (by simp) rfl rfl (by kernel_rfl) rfl (encNote_one _) ?_)
         | (with_reducible refine at_dst 122 ?_; refine wpList_loadB (hbX.alloc _) rfl 43 _ rfl rfl (encNote x) (whole_cells _) Tryz.underlying43 rfl (by kernel_rfl) ?_)
         | (go_at_call 57; refine (copied_any D x _ (okNote.ext HOKX.out (.of_below ((hB.trans (hBw.mono hB.size)).alloc (Nat.le_trans hB.size hBw.size) _)))).mono ?_; rintro e w4 ⟨y, rfl, ly, oy, hb4⟩; have hBw4 := Below.call (hBw.alloc hBw.size _) hb4 (Nat.le_refl _); have hS4 : wr.heap.size ≤ w4.heap.size := hBw4.size)
         | ((with_reducible refine at_dst 125 ?_); refine wpList_append_oneAt rfl _ _ 44 rfl (w.heap.size + 2) einfo_Note (fun _ => rfl) (by decide) encNote_one (by decide) _ _ rfl ((HOL.out.belowAll hBw4).belowAll ((Below.refl _ _).alloc (Nat.le_refl _) _)) w4.heap.size 0 1 y rfl (cells_of_eq (buildNote y)) (by omega) (Nat.le_trans hSz (Nat.le_trans hS4 (by simp))) ?_; intro v5 w5 hoO5 hg hne hat))
         go_roundw
         case rel =>
          have HL4 := HOL.out.belowAll hBw4
          have hb5 := app_below (n := w.heap.size + 2) HL4 hg (Nat.le_refl _) (Nat.le_trans hSz hS4)
          have hBf : Below w.heap.size w w5 := (hB.trans (hBw4.mono hB.size)).trans (hb5.mono (Nat.le_add_right _ _))
          have hvb : ∀ q, u2.ownBlock = some q → q < wr.heap.size := fun q hq => (HOL.out.block q hq).2
          have hsz5 : w4.heap.size ≤ w5.heap.size := hb5.size
          refine ⟨k3 + 1, outs ++ [y], by omega, by go_num, by simp; omega, Lib.hid (by rw [List.map_append, HCN.out, HOA.out]; simp [hj, HNO.out, ly]), Lib.hid (fun p hp => ?_), Lib.hid (((HMJ.out.below hBw4 HMJ.out.lt)).of_block (hb5.block _ (by omega))), Lib.hid hoO5, Lib.hid ((HDA.out.belowAll hBw4).kept fun g hg' => app_keep hg ((HDA.out.belowAll hBw4).block g hg').2 (HNE.out g hg')), Lib.hid ?_, Nat.le_trans hSz (Nat.le_trans hS4 hsz5), hBf⟩
          ·rcases List.mem_append.1 hp with hp | hp
           ·refine okNote_step (HOO.out p hp) (fun q hq hn => ?_) (Nat.le_trans hS4 hsz5) (fun q hq => ?_)
            ·rw [app_keep hg (Nat.lt_of_lt_of_le hq hS4) (fun e => hn (.inr e))]; exact hBw4.block q hq
            ·rcases hq with hq | hq
             ·exact .inl (.inl hq)
             ·rcases hat with h | h
              ·exact .inl (.inr (h.symm.trans hq))
              ·rw [h] at hq; simp only [World.size_alloc, Option.some.injEq] at hq; exact .inr (by omega)
           ·simp only [List.mem_singleton] at hp; subst hp
            refine okNote_step oy (fun q hq hn => ?_) hsz5 (fun q hq => ?_)
            ·refine app_keep hg hq (fun e => hn ?_); have h1 := hvb q e; exact Nat.lt_of_lt_of_le h1 (Nat.le_trans hBw.size (by simp))
            ·rcases hq with hq | hq
             ·exact .inl (Nat.lt_of_lt_of_le hq (Nat.le_trans hB.size (Nat.le_trans hBw.size (by simp))))
             ·rcases hat with h | h
              ·exact .inl (Nat.lt_of_lt_of_le (hvb q (h.symm.trans hq)) (Nat.le_trans hBw.size (by simp)))
              ·rw [h] at hq; simp only [World.size_alloc, Option.some.injEq] at hq; exact .inr (by omega)
          ·intro g hg1 hg2
           rcases hat with h | h
           ·exact HNE.out g hg1 (h.symm.trans hg2)
           ·rw [h] at hg2; simp only [World.size_alloc, Option.some.injEq] at hg2; have := (HDA.out.block g hg1).2; omega
         case measure => simp [intOf]; omega
        case true =>
         have HSO : Hid (aget js (refN x) = some jd) := Lib.hid (by have h := aget_isSome js (refN x); rw [hkn] at h; obtain ⟨q, hq⟩ := Option.isSome_iff_exists.1 h; have h2 := HJD.out; rw [hq] at h2 ⊢; simpa using h2)
         by_cases h10 : jd.kind = 10
         ·skip
          have hc4 : ∀ W : World, (W.alloc (.cells (encNote jd) 43)).cell? ⟨W.heap.size, 4, none⟩ = some (vi jd.kind) := fun W => ((BoxAt.new W 43 (encNote jd)).cell 4).trans (encNote_4 jd)
          go_wp2_with (first
         | (with_reducible refine at_dst 87 ?_; refine wpList_load_at rfl 43 _ rfl b (o + k3 * 29) rfl (encNote x) _ (HC.out _ hB) Tryz.underlying43 rfl (by kernel_rfl) ?_)
         | (with_reducible refine at_store ?_; refine wpList_store_last (cs := encNote x) rfl 43 _ _ rfl rfl rfl rfl (by kernel_rfl) rfl (encNote_one _) ?_)
         | (with_reducible refine at_dst 88 ?_; refine wpList_loadB hbX rfl 43 _ rfl rfl (encNote x) (whole_cells _) Tryz.underlying43 rfl (by kernel_rfl) ?_)
         | (go_at_call 151; refine (HJU.out _).mono ?_; rintro e w1 ⟨rfl, hb1⟩; have hBw := Below.call hBw hb1 (Nat.le_refl _); have hbX := hbX.belowAll hb1; clear hb1)
         | (with_reducible refine at_dst 92 ?_; refine wpList_loadB hbX rfl 43 _ rfl rfl (encNote x) (whole_cells _) Tryz.underlying43 rfl (by kernel_rfl) ?_)
         | (go_at_call 59; refine (refOf_any x _).mono ?_; rintro e w2 ⟨rfl, hb1⟩; have hBw := Below.call hBw hb1 (Nat.le_refl _); have hbX := hbX.belowAll hb1; clear hb1)
         | (with_reducible refine at_dst 94 ?_; refine wpList_lookok rfl _ _ 63 rfl refKey Tryz.underlying63 zNote (zeroNote _) rfl (HMJ.out.below hBw HMJ.out.lt) (refN x) hgx.out rfl ?_; rw [HJD.out, hkn])
         | (with_reducible refine at_store ?_; refine wpList_store_last (cs := encNote jd) rfl 43 _ _ rfl (by simp) rfl rfl (by kernel_rfl) rfl (encNote_one _) ?_))
          go_roundw
          case rel => exact ⟨k3 + 1, outs, by omega, by go_num, by omega, Lib.hid (by rw [HCN.out, HOA.out]; simp [hj, HSO.out, h10]), Lib.hid (fun p hp => okNote_step (HOO.out p hp) (fun q hq _ => (hBw.alloc hBw.size (.cells (encNote jd) 43)).block q hq) (hBw.alloc hBw.size (.cells (encNote jd) 43)).size (fun q hq => .inl hq)), Lib.hid (HMJ.out.below (hBw.alloc hBw.size (.cells (encNote jd) 43)) HMJ.out.lt), Lib.hid (HOL.out.belowAll (hBw.alloc hBw.size (.cells (encNote jd) 43))), Lib.hid (HDA.out.belowAll (hBw.alloc hBw.size (.cells (encNote jd) 43))), HNE, Nat.le_trans hSz (hBw.alloc hBw.size (.cells (encNote jd) 43)).size, hB.trans ((hBw.alloc hBw.size (.cells (encNote jd) 43)).mono hB.size)⟩
          case measure => simp [intOf]; omega
         ·skip
          have hc4 : ∀ W : World, (W.alloc (.cells (encNote jd) 43)).cell? ⟨W.heap.size, 4, none⟩ = some (vi jd.kind) := fun W => ((BoxAt.new W 43 (encNote jd)).cell 4).trans (encNote_4 jd)
          go_wp2_with (first
         | (with_reducible refine at_dst 87 ?_; refine wpList_load_at rfl 43 _ rfl b (o + k3 * 29) rfl (encNote x) _ (HC.out _ hB) Tryz.underlying43 rfl (by kernel_rfl) ?_)
         | (with_reducible refine at_store ?_; refine wpList_store_last (cs := encNote x) rfl 43 _ _ rfl rfl rfl rfl (by kernel_rfl) rfl (encNote_one _) ?_)
         | (with_reducible refine at_dst 88 ?_; refine wpList_loadB hbX rfl 43 _ rfl rfl (encNote x) (whole_cells _) Tryz.underlying43 rfl (by kernel_rfl) ?_)
         | (go_at_call 151; refine (HJU.out _).mono ?_; rintro e w1 ⟨rfl, hb1⟩; have hBw := Below.call hBw hb1 (Nat.le_refl _); have hbX := hbX.belowAll hb1; clear hb1)
         | (with_reducible refine at_dst 92 ?_; refine wpList_loadB hbX rfl 43 _ rfl rfl (encNote x) (whole_cells _) Tryz.underlying43 rfl (by kernel_rfl) ?_)
         | (go_at_call 59; refine (refOf_any x _).mono ?_; rintro e w2 ⟨rfl, hb1⟩; have hBw := Below.call hBw hb1 (Nat.le_refl _); have hbX := hbX.belowAll hb1; clear hb1)
         | (with_reducible refine at_dst 94 ?_; refine wpList_lookok rfl _ _ 63 rfl refKey Tryz.underlying63 zNote (zeroNote _) rfl (HMJ.out.below hBw HMJ.out.lt) (refN x) hgx.out rfl ?_; rw [HJD.out, hkn])
         | (with_reducible refine at_store ?_; refine wpList_store_last (cs := encNote jd) rfl 43 _ _ rfl (by simp) rfl rfl (by kernel_rfl) rfl (encNote_one _) ?_)
         | (with_reducible refine at_dst 104 ?_; refine wpList_loadB (BoxAt.new _ _ _) rfl 43 _ rfl rfl (encNote jd) (whole_cells _) Tryz.underlying43 rfl (by kernel_rfl) ?_))
          have hb14 : BoxAt ((w2.alloc (.cells (encNote jd) 43)).alloc (.cells (encNote jd) 43)).drew wr.heap.size 43 (encNote x) := ((hbX.alloc _).alloc _).drew
          have hb15 : BoxAt ((w2.alloc (.cells (encNote jd) 43)).alloc (.cells (encNote jd) 43)).drew w2.heap.size 43 (encNote jd) := ((BoxAt.new _ _ _).alloc _).drew
          have hb17 : BoxAt ((w2.alloc (.cells (encNote jd) 43)).alloc (.cells (encNote jd) 43)).drew (w2.heap.size + 1) 43 (encNote jd) := by have h := BoxAt.new (w2.alloc (.cells (encNote jd) 43)) 43 (encNote jd); rw [World.size_alloc] at h; exact h.drew
          have hBx : Below wr.heap.size wr ((w2.alloc (.cells (encNote jd) 43)).alloc (.cells (encNote jd) 43)).drew := ((hBw.alloc hBw.size _).alloc (Nat.le_trans hBw.size (by simp)) _).drew
          have hlt14 : wr.heap.size < w2.heap.size := hbX.lt
          have hle14 : wr.heap.size ≤ w2.heap.size := hBw.size
          refine wp_region_S (fun W => BoxAt W wr.heap.size 43 (encNote x) ∧ BoxAt W w2.heap.size 43 (encNote jd)) [(0, true), (1, true), (2, true), (3, true), (4, true), (5, true), (6, true), (7, true), (8, true), (9, true), (10, false), (11, true), (12, false), (13, true), (14, false), (15, true), (16, false), (17, true), (18, false), (19, true), (20, false)] rfl (by kernel_rfl) (by kernel_rfl) (fun d _ _ _ _ h => by cases d <;> exact h) ⟨hb14, hb15⟩ ?_
          refine wpS_fix rfl rfl (fun W hW => by go_simp; with_reducible rfl) ?_; simp only [pTs, pTn, pTz, pTc]
          refine wpS_fix (v := vi x.bench) rfl rfl (fun W hW => by have e : W.cell? ⟨wr.heap.size, 0, none⟩ = some (vi x.bench) := (hW.1.cell 0).trans (encNote_0 _); go_simp) ?_; simp only [pTs, pTn, pTz, pTc]
          refine wpS_fix rfl rfl (fun W hW => by go_simp; with_reducible rfl) ?_; simp only [pTs, pTn, pTz, pTc]
          refine wpS_fix (v := vi x.num) rfl rfl (fun W hW => by have e : W.cell? ⟨wr.heap.size, 1, none⟩ = some (vi x.num) := (hW.1.cell 1).trans (encNote_1 _); go_simp) ?_; simp only [pTs, pTn, pTz, pTc]
          refine wpS_fix rfl rfl (fun W hW => by go_simp; with_reducible rfl) ?_; simp only [pTs, pTn, pTz, pTc]
          refine wpS_fix (v := vi x.clock) rfl rfl (fun W hW => by have e : W.cell? ⟨wr.heap.size, 2, none⟩ = some (vi x.clock) := (hW.1.cell 2).trans (encNote_2 _); go_simp) ?_; simp only [pTs, pTn, pTz, pTc]
          refine wpS_fix rfl rfl (fun W hW => by go_simp; with_reducible rfl) ?_; simp only [pTs, pTn, pTz, pTc]
          refine wpS_fix (v := vi jd.fix) rfl rfl (fun W hW => by have e : W.cell? ⟨w2.heap.size, 5, none⟩ = some (vi jd.fix) := (hW.2.cell 5).trans (encNote_5 _); go_simp) ?_; simp only [pTs, pTn, pTz, pTc]
          iterate 2 (refine wpS_fix rfl rfl (fun W hW => by go_simp; with_reducible rfl) ?_; simp only [pTs, pTn, pTz, pTc])
          refine wpS_act rfl rfl (fun K hK => ?_)
          refine wp_store_box hb17 _ _ _ rfl rfl (vi x.bench) rfl (by kernel_rfl) (by (try simp only [splice_size]); rfl) (one_vi _) ?_
          intro w7 hb17 hT
          have hb14 := hb14.turn hT (by omega)
          have hb15 := hb15.turn hT (by omega)
          have hBx := hBx.trans (hT.below (by omega))
          clear hT
          refine hK _ _ ⟨hb14, hb15⟩ ?_
          clear hK K
          try simp only [pTs, pTn, pTz, pTc]
          refine wpS_fix rfl rfl (fun W hW => by go_simp; with_reducible rfl) ?_; simp only [pTs, pTn, pTz, pTc]
          refine wpS_act rfl rfl (fun K hK => ?_)
          refine wp_store_box hb17 _ _ _ rfl rfl (vi x.num) rfl (by kernel_rfl) (by (try simp only [splice_size]); rfl) (one_vi _) ?_
          intro w7 hb17 hT
          have hb14 := hb14.turn hT (by omega)
          have hb15 := hb15.turn hT (by omega)
          have hBx := hBx.trans (hT.below (by omega))
          clear hT
          refine hK _ _ ⟨hb14, hb15⟩ ?_
          clear hK K
          try simp only [pTs, pTn, pTz, pTc]
          refine wpS_fix rfl rfl (fun W hW => by go_simp; with_reducible rfl) ?_; simp only [pTs, pTn, pTz, pTc]
          refine wpS_act rfl rfl (fun K hK => ?_)
          refine wp_store_box hb17 _ _ _ rfl rfl (vi x.clock) rfl (by kernel_rfl) (by (try simp only [splice_size]); rfl) (one_vi _) ?_
          intro w7 hb17 hT
          have hb14 := hb14.turn hT (by omega)
          have hb15 := hb15.turn hT (by omega)
          have hBx := hBx.trans (hT.below (by omega))
          clear hT
          refine hK _ _ ⟨hb14, hb15⟩ ?_
          clear hK K
          try simp only [pTs, pTn, pTz, pTc]
          refine wpS_fix rfl rfl (fun W hW => by go_simp; with_reducible rfl) ?_; simp only [pTs, pTn, pTz, pTc]
          refine wpS_act rfl rfl (fun K hK => ?_)
          refine wp_store_box hb17 _ _ _ rfl rfl (vi jd.fix) rfl (by kernel_rfl) (by (try simp only [splice_size]); rfl) (one_vi _) ?_
          intro w7 hb17 hT
          have hb14 := hb14.turn hT (by omega)
          have hb15 := hb15.turn hT (by omega)
          have hBx := hBx.trans (hT.below (by omega))
          clear hT
          refine hK _ _ ⟨hb14, hb15⟩ ?_
          clear hK K
          try simp only [pTs, pTn, pTz, pTc]
          refine wpS_fix rfl rfl (fun W hW => by go_simp; with_reducible rfl) ?_; simp only [pTs, pTn, pTz, pTc]
          refine wpS_act rfl rfl (fun K hK => ?_)
          refine wp_store_box hb17 _ _ _ rfl rfl (vi 0) rfl (by kernel_rfl) (by (try simp only [splice_size]); rfl) (one_vi _) ?_
          intro w7 hb17 hT
          have hb14 := hb14.turn hT (by omega)
          have hb15 := hb15.turn hT (by omega)
          have hBx := hBx.trans (hT.below (by omega))
          clear hT
          refine hK _ _ ⟨hb14, hb15⟩ ?_
          clear hK K
          try simp only [pTs, pTn, pTz, pTc]
          refine wpS_fix rfl rfl (fun W hW => by go_simp; with_reducible rfl) ?_; simp only [pTs, pTn, pTz, pTc]
          refine wpS_act rfl rfl (fun K hK => ?_)
          refine wp_store_box hb17 _ _ _ rfl rfl (.agg (encRef ⟨0, 0⟩)) rfl (by kernel_rfl) (by (try simp only [splice_size]); rfl) (one_agg (encRef_one _)) ?_
          intro w7 hb17 hT
          have hb14 := hb14.turn hT (by omega)
          have hb15 := hb15.turn hT (by omega)
          have hBx := hBx.trans (hT.below (by omega))
          clear hT
          refine hK _ _ ⟨hb14, hb15⟩ ?_
          clear hK K
          try simp only [pTs, pTn, pTz, pTc]
          simp only [wpS]
          have hb17f := hb17.eqv (cs' := encNote (fixedN jd x)) (by simp [splice, encNote, encRef, fixedN, Value.cells])
          go_wp2_with (first
         | (with_reducible refine at_dst 120 ?_; refine wpList_loadB hb17f rfl 43 _ rfl rfl (encNote (fixedN jd x)) (whole_cells _) Tryz.underlying43 rfl (by kernel_rfl) ?_)
         | (with_reducible refine at_store ?_; refine wpList_store_box hb14 rfl _ _ _ rfl rfl (.agg (encNote (fixedN jd x))) rfl (by kernel_rfl) rfl (one_agg (encNote_one _)) ?_; intro w8 hb14f hT; have hb14g := hb14f.eqv (cs' := encNote (fixedN jd x)) (by simp [splice, encNote, Value.cells]); have hBy := hBx.trans (hT.below (Nat.le_refl _)); clear hT)
         | (with_reducible refine at_dst 122 ?_; refine wpList_loadB hb14g rfl 43 _ rfl rfl (encNote (fixedN jd x)) (whole_cells _) Tryz.underlying43 rfl (by kernel_rfl) ?_)
         | (go_at_call 57; refine (copied_any D (fixedN jd x) _ (okNote.ext (okNote_fixed (HJO.out _ (mem_of_aget HSO.out)) HOKX.out) (.of_below (hB.trans (hBy.mono hB.size))))).mono ?_; rintro e w4 ⟨y, rfl, ly, oy, hb4⟩; have hBw4 := Below.call (hBy) hb4 (Nat.le_refl _); have hS4 : wr.heap.size ≤ w4.heap.size := hBw4.size)
         | ((with_reducible refine at_dst 125 ?_); refine wpList_append_oneAt rfl _ _ 44 rfl (w.heap.size + 2) einfo_Note (fun _ => rfl) (by decide) encNote_one (by decide) _ _ rfl ((HOL.out.belowAll hBw4).belowAll ((Below.refl _ _).alloc (Nat.le_refl _) _)) w4.heap.size 0 1 y rfl (cells_of_eq (buildNote y)) (by omega) (Nat.le_trans hSz (Nat.le_trans hS4 (by simp))) ?_; intro v5 w5 hoO5 hg hne hat))
          go_roundw
          case rel =>
           have HL4 := HOL.out.belowAll hBw4
           have hb5 := app_below (n := w.heap.size + 2) HL4 hg (Nat.le_refl _) (Nat.le_trans hSz hS4)
           have hBf : Below w.heap.size w w5 := (hB.trans (hBw4.mono hB.size)).trans (hb5.mono (Nat.le_add_right _ _))
           have hvb : ∀ q, u2.ownBlock = some q → q < wr.heap.size := fun q hq => (HOL.out.block q hq).2
           have hsz5 : w4.heap.size ≤ w5.heap.size := hb5.size
           refine ⟨k3 + 1, outs ++ [y], by omega, by go_num, by simp; omega, Lib.hid (by rw [List.map_append, HCN.out, HOA.out]; simp [hj, HSO.out, h10, ly]), Lib.hid (fun p hp => ?_), Lib.hid (((HMJ.out.below hBw4 HMJ.out.lt)).of_block (hb5.block _ (by omega))), Lib.hid hoO5, Lib.hid ((HDA.out.belowAll hBw4).kept fun g hg' => app_keep hg ((HDA.out.belowAll hBw4).block g hg').2 (HNE.out g hg')), Lib.hid ?_, Nat.le_trans hSz (Nat.le_trans hS4 hsz5), hBf⟩
           ·rcases List.mem_append.1 hp with hp | hp
            ·refine okNote_step (HOO.out p hp) (fun q hq hn => ?_) (Nat.le_trans hS4 hsz5) (fun q hq => ?_)
             ·rw [app_keep hg (Nat.lt_of_lt_of_le hq hS4) (fun e => hn (.inr e))]; exact hBw4.block q hq
             ·rcases hq with hq | hq
              ·exact .inl (.inl hq)
              ·rcases hat with h | h
               ·exact .inl (.inr (h.symm.trans hq))
               ·rw [h] at hq; simp only [World.size_alloc, Option.some.injEq] at hq; exact .inr (by omega)
            ·simp only [List.mem_singleton] at hp; subst hp
             refine okNote_step oy (fun q hq hn => ?_) hsz5 (fun q hq => ?_)
             ·refine app_keep hg hq (fun e => hn ?_); have h1 := hvb q e; exact Nat.lt_of_lt_of_le h1 hBy.size
             ·rcases hq with hq | hq
              ·exact .inl (Nat.lt_of_lt_of_le hq (Nat.le_trans hB.size hBy.size))
              ·rcases hat with h | h
               ·exact .inl (Nat.lt_of_lt_of_le (hvb q (h.symm.trans hq)) hBy.size)
               ·rw [h] at hq; simp only [World.size_alloc, Option.some.injEq] at hq; exact .inr (by omega)
           ·intro g hg1 hg2
            rcases hat with h | h
            ·exact HNE.out g hg1 (h.symm.trans hg2)
            ·rw [h] at hg2; simp only [World.size_alloc, Option.some.injEq] at hg2; have := (HDA.out.block g hg1).2; omega
          case measure => simp [intOf]; omega
      ·have hk3' : k3 = val.length := by omega
       subst hk3'
       go_wp2_with (go_at_call 154; refine (HSORT.out _ _ _ _ HOL.out (by omega)).mono ?_; rintro e w6 ⟨rfl, l', hp, hu, ho6, hg6⟩)
       refine bodyPost_ret (v := .tuple #[u2, u3]) (by simp [results, Tryz.results112, go_sem]) rfl ?_
       have hsz6 : wr.heap.size ≤ w6.heap.size := hg6.size
       have hl6 : l'.length ≤ 1000000 := by rw [hp.length_eq]; omega
       obtain ⟨s1, e1, l1, o1⟩ := ho6.slOld (n := w.heap.size) (fun _ => rfl) okNote (by omega) (fun p hpm => okNote_step (HOO.out p (hp.mem_iff.1 hpm)) (fun q hq hn => hg6.block q hq (fun e => hn (.inr e.symm))) hsz6 (fun q hq => .inl (.inl hq))) (by omega)
       have hda6 := HDA.out.kept (w' := w6) fun g hg' => hg6.block g (HDA.out.block g hg').2 (Ne.symm (HNE.out g hg'))
       obtain ⟨s2, e2, l2, o2⟩ := hda6.slOld (n := w.heap.size) (fun _ => rfl) okRef (by omega) (fun r hr => by
        have h1 : (dangA (val.map Note.abs)) = (jst val val.length).2 := by rw [jst_all]; rfl
        rw [h1] at hr
        obtain ⟨x, hx, rfl⟩ := jst_mem val _ r hr
        exact okNote_name (HS.out.elem x hx)) (by
        have h1 : (dangA (val.map Note.abs)) = (jst val val.length).2 := by rw [jst_all]; rfl
        rw [h1]; have := jst_len val val.length; omega)
       exact ⟨s1, s2, by rw [e1, e2], by rw [l1]; exact eff_unique HND.out HOA.out hp hu, l2, o1, o2, hB.trans (Below.appended HOL.out hg6 (by omega) hSz)⟩
end Go.Proofs.YtnmgfnpphglphaaGreat
