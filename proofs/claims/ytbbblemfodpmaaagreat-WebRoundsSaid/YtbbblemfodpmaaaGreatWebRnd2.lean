/-
  WebRounds at a valid web.
-/
import Derived.Test.YtbbblemfodpmaaaGreatWebGs
set_option maxHeartbeats 16000000
set_option maxRecDepth 100000
set_option linter.unusedVariables false
set_option linter.unusedSimpArgs false
namespace Go.Proofs.YtbbblemfodpmaaaGreat
open Go.RowKit
theorem rounds_good (sj : Sl Joint) (sl : Sl Lead) (w : World) (hj : sj.OK 3 encJoint okJoint (fun _ => False) w) (hl : sl.OK 8 encLead okLead (fun _ => False) w) (h1 : sj.val.length ≤ 40) (h2 : sl.val.length ≤ 60) (h0 : (checkA sj.val sl.val).1 = 0) :
  Calls Tryz.prog 7 #[.agg #[.slice sj.a sj.val.length sj.cap, .slice sl.a sl.val.length sl.cap]] w fun e w' => e = .returned (.bool true) ∧ Below w.heap.size w w' := by
 have V := valid_w h0
 have HB0 : Hid (Below w.heap.size w (w.alloc (.cells #[.slice sj.a sj.val.length sj.cap, .slice sl.a sl.val.length sl.cap] 25))) := Lib.hid ((Below.refl _ _).alloc (Nat.le_refl _) _)
 have HX0 := Lib.hid (BoxAt.new w 25 #[.slice sj.a sj.val.length sj.cap, .slice sl.a sl.val.length sl.cap])
 have HC : Hid (∀ W, Below w.heap.size w W → Calls Tryz.prog 18 #[.agg #[.slice sj.a sj.val.length sj.cap, .slice sl.a sl.val.length sl.cap]] W fun e w' => e = .returned (.tuple #[.int .i64 0, .int .i64 (checkA sj.val sl.val).2]) ∧ Below W.heap.size W w') := Lib.hid fun W hW => by
  have h := check_any sj sl W (hj.jmoved hW) (hl.lmoved hW)
  simp only [h0] at h
  exact h
 have HK : Hid (∀ W, Below w.heap.size w W → Calls Tryz.prog 39 #[.agg #[.slice sj.a sj.val.length sj.cap, .slice sl.a sl.val.length sl.cap]] W fun e w' => ∃ a c, e = .returned (.tuple #[.slice a (walksA sj.val sl.val).length c, .int .i64 0]) ∧ OwnSS w' W.heap.size (.slice a (walksA sj.val sl.val).length c) (walksA sj.val sl.val) ∧ Below W.heap.size W w') := Lib.hid fun W hW => (Walks_ok sj sl W (hj.jmoved hW) (hl.lmoved hW) h0).mono fun e w' => by
  rintro ⟨v, rfl, ho, hb⟩
  obtain ⟨a, c, rfl⟩ := ho.shape
  exact ⟨a, c, rfl, ho, hb⟩
 have HS : Hid (∀ W, Below w.heap.size w W → Calls Tryz.prog 43 #[.agg #[.slice sj.a sj.val.length sj.cap, .slice sl.a sl.val.length sl.cap]] W fun e w' => ∃ a c, e = .returned (.slice a (sidesA sl.val).length c) ∧ OwnL encSide 2 w' W.heap.size 59 (.slice a (sidesA sl.val).length c) (sidesA sl.val) ∧ Below W.heap.size W w') := Lib.hid fun W hW => (sides_any sj sl W (hl.lmoved hW) (by omega)).mono fun e w' => by
  rintro ⟨v, rfl, ho, hb⟩
  obtain ⟨a, c, rfl⟩ := ho.shape
  exact ⟨a, c, rfl, ho, hb⟩
 have HNX : Hid (∀ W s t, Below w.heap.size w W → IsSide sl.val s → nextA sj.val sl.val s = t → Calls Tryz.prog 31 #[.agg #[.slice sj.a sj.val.length sj.cap, .slice sl.a sl.val.length sl.cap], .agg (encSide s)] W fun e w' => e = .returned (.tuple #[.agg (encSide t), .int .i64 0]) ∧ Below W.heap.size W w') := Lib.hid fun W s t hW hs ht => next_at sj sl s W (hj.jmoved hW) (hl.lmoved hW) h0 hs ht
 have HPR : Hid (∀ W s t, Below w.heap.size w W → IsSide sl.val s → priorA sj.val sl.val s = t → Calls Tryz.prog 33 #[.agg #[.slice sj.a sj.val.length sj.cap, .slice sl.a sl.val.length sl.cap], .agg (encSide s)] W fun e w' => e = .returned (.tuple #[.agg (encSide t), .int .i64 0]) ∧ Below W.heap.size W w') := Lib.hid fun W s t hW hs ht => prior_at sj sl s W (hj.jmoved hW) (hl.lmoved hW) h0 hs ht
 have HTM : Hid (∀ W N v s, OwnSS W N v (walksA sj.val sl.val) → IsSide sl.val s → Calls Tryz.prog 44 #[v, .agg (encSide s)] W fun e w' => e = .returned (.int .i64 1) ∧ Below W.heap.size W w') := Lib.hid fun W N v s ho hs => by
  have h := times_any v (walksA sj.val sl.val) s W ho (by have := walks_small V; omega) (by have := flat_small V; omega)
  rw [V.walks_once hs] at h
  exact h
 have HVN : Hid (∀ s, IsSide sl.val s → IsSide sl.val (nextA sj.val sl.val s) ∧ priorA sj.val sl.val (nextA sj.val sl.val s) = s) := Lib.hid fun s hs => ⟨(V.next hs).1, (V.next hs).2.2⟩
 have HVP : Hid (∀ s, IsSide sl.val s → IsSide sl.val (priorA sj.val sl.val s) ∧ nextA sj.val sl.val (priorA sj.val sl.val s) = s) := Lib.hid fun s hs => V.prior hs
 have HVW : Hid (∀ (x : List Side), x ∈ walksA sj.val sl.val → ∀ (k : Nat) (t : Side), x[k]? = some t → IsSide sl.val t ∧ x[(k + 1) % x.length]? = some (nextA sj.val sl.val t)) := Lib.hid fun x hx k t hk => V.walks_next hx hk
 have HLL : Hid (∀ x ∈ walksA sj.val sl.val, x.length ≤ 800) := Lib.hid fun x hx => (walks_good V hx).2.1
 obtain ⟨L, hL⟩ : ∃ L, walksA sj.val sl.val = L := ⟨_, rfl⟩
 obtain ⟨S, hS⟩ : ∃ S, sidesA sl.val = S := ⟨_, rfl⟩
 have HSI : Hid (∀ x ∈ S, IsSide sl.val x) := Lib.hid fun x hx => by rw [← hS] at hx; exact mem_sides.1 hx
 have hSl : S.length ≤ 120 := by rw [← hS, sides_length]; omega
 have hLl : L.length ≤ 800 := by rw [← hL]; exact walks_small V
 obtain ⟨n, hn⟩ : ∃ n, sj.val.length = n := ⟨_, rfl⟩
 obtain ⟨m, hm⟩ : ∃ m, sl.val.length = m := ⟨_, rfl⟩
 obtain ⟨c2, hc2⟩ : ∃ c, (checkA sj.val sl.val).2 = c := ⟨_, rfl⟩
 obtain ⟨nS, hnS⟩ : ∃ n, S.length = n := ⟨_, rfl⟩
 obtain ⟨nL, hnL⟩ : ∃ n, L.length = n := ⟨_, rfl⟩
 have HNS := Lib.hid hnS
 have HNL := Lib.hid hnL
 rw [hn] at h1
 rw [hm] at h2
 rw [hnS] at hSl
 rw [hnL] at hLl
 simp only [hn, hm, hc2, hL, hS, hnS, hnL] at HB0 HX0 HC HK HS HNX HPR HTM HVW HLL ⊢
 clear hj hl h0 V hn hm hc2 hL hS hnS hnL
 go_enter Tryz.func7, Tryz.ntmps7
 go_wp2_with (first
  | (go_at_call 13; refine (awake_any _).mono ?_; rintro e w1 ⟨rfl, hb1⟩; have b1 := HX0.out.belowAll hb1; have hB1 := HB0.out.trans (hb1.mono HB0.out.size); have q0 := (b1.cell 0).trans (show _ = some (.slice sj.a n sj.cap) from rfl); have q1 := (b1.cell 1).trans (show _ = some (.slice sl.a m sl.cap) from rfl))
  | ((with_reducible refine at_dst 35 ?_); refine wpList_loadB b1 rfl 25 _ rfl rfl #[.slice sj.a n sj.cap, .slice sl.a m sl.cap] (whole_cells _) Tryz.underlying25 rfl (by kernel_rfl) ?_)
  | (go_at_call 18; refine (HC.out _ hB1).mono ?_; rintro e w2 ⟨rfl, hb2⟩; have b2 := b1.belowAll hb2; have hB2 := hB1.trans (hb2.mono hB1.size))
  | ((with_reducible refine at_dst 40 ?_); refine wpList_loadB b2 rfl 25 _ rfl rfl #[.slice sj.a n sj.cap, .slice sl.a m sl.cap] (whole_cells _) Tryz.underlying25 rfl (by kernel_rfl) ?_)
  | (go_at_call 39; refine (HK.out _ hB2).mono ?_; rintro e w3 ⟨aa, ac, rfl, hoa, hb3⟩; have b3 := b2.belowAll hb3; have hB3 := hB2.trans (hb3.mono hB2.size))
  | ((with_reducible refine at_dst 61 ?_); refine wpList_loadB b3 rfl 25 _ rfl rfl #[.slice sj.a n sj.cap, .slice sl.a m sl.cap] (whole_cells _) Tryz.underlying25 rfl (by kernel_rfl) ?_)
  | (go_at_call 43; refine (HS.out _ hB3).mono ?_; rintro e w4 ⟨sa, sc, rfl, hos, hb4⟩; have HBX : Hid (∀ W, Below w4.heap.size w4 W → BoxAt W w.heap.size 25 #[.slice sj.a n sj.cap, .slice sl.a m sl.cap]) := (Lib.hid fun W hW => (b3.belowAll hb4).belowAll hW); have HAL : Hid (∀ W, Below w4.heap.size w4 W → OwnSS W w2.heap.size (.slice aa nL ac) L) := (Lib.hid fun W hW => (hoa.belowAll hb4).belowAll hW); have HOS := Lib.hid hos; have HB4 := Lib.hid (hB3.trans (hb4.mono hB3.size)); have HUP : Hid (∀ W, Below w4.heap.size w4 W → Below w.heap.size w W) := (Lib.hid fun W hW => HB4.out.trans (hW.mono HB4.out.size)); clear hos hoa b1 b2 b3 hb1 hb2 hb3 hb4 hB1 hB2 hB3 q0 q1))
 go_loopw [9] (fun i wr => ∃ k : Nat, k ≤ nS ∧ i = .int .i64 k ∧ Hid (Below w4.heap.size w4 wr)) (fun i _ => nS - (intOf i).toNat)
 case atStart => exact ⟨0, Nat.zero_le _, rfl, Lib.hid (Below.refl _ _)⟩
 case round =>
  obtain ⟨k, hk, rfl, HD⟩ := hrel
  by_cases hlt : k < nS
  ·obtain ⟨x, hx⟩ : ∃ x, S[k]? = some x := ⟨_, List.getElem?_eq_getElem (by rw [HNS.out]; exact hlt)⟩
   have hsx := HSI.out x (List.mem_of_getElem? hx)
   obtain ⟨g, c, e, _, hg, hcx⟩ := OwnL.cellOf (enc := encSide) (sz := 2) (fun _ => rfl) HOS.out hx
   rw [HNS.out] at e
   simp only [Value.slice.injEq, true_and] at e
   obtain ⟨rfl, rfl⟩ := e
   have HCX : Hid (∀ W, Below w4.heap.size w4 W → ∀ j, j < (encSide x).size → W.cell? ⟨g, k * 2 + j, none⟩ = (encSide x)[j]?) := Lib.hid fun W hW j hj => by
    rw [hW.cell (p := ⟨g, k * 2 + j, none⟩) hg]; exact hcx j hj
   have HDa : Hid (Below w4.heap.size w4 wr.drew) := Lib.hid (HD.out.trans ((Lays.refl wr).drew.below HD.out.size))
   obtain ⟨y, hy⟩ : ∃ y, nextA sj.val sl.val x = y := ⟨_, rfl⟩
   obtain ⟨z, hz⟩ : ∃ z, priorA sj.val sl.val x = z := ⟨_, rfl⟩
   have hvn := HVN.out x hsx
   have hvp := HVP.out x hsx
   rw [hy] at hvn
   rw [hz] at hvp
   have HN1 := Lib.hid fun W (hW : Below w4.heap.size w4 W) => HNX.out W x y (HUP.out W hW) hsx hy
   have HP1 := Lib.hid fun W (hW : Below w4.heap.size w4 W) => HPR.out W y x (HUP.out W hW) hvn.1 hvn.2
   have HP2 := Lib.hid fun W (hW : Below w4.heap.size w4 W) => HPR.out W x z (HUP.out W hW) hsx hz
   have HN2 := Lib.hid fun W (hW : Below w4.heap.size w4 W) => HNX.out W z x (HUP.out W hW) hvp.1 hvp.2
   have HT1 := Lib.hid fun W (hW : Below w4.heap.size w4 W) => HTM.out W _ _ x (HAL.out W hW) hsx
   clear hx hcx hg hsx hvn hvp hy hz
   go_wp2
   refine wp_region_fork 10 [(1, none), (2, none), (3, none), (0, some true), (4, some true)] 5 [(6, none), (7, none), (8, none), (9, some false), (10, some false), (11, some false)] 9 [(5, some false), (6, none), (7, none), (8, none), (10, some false), (11, some false)] rfl (by kernel_rfl) (by kernel_rfl) (fun d _ _ _ _ h => by cases d <;> exact h) ?_
   iterate 3 (refine wpF_pure (v := ?_) rfl rfl ?_ ?_; rotate_left; (focus (intro W; go_simp; with_reducible rfl)); simp only [pTs, pTn, pTz, pTc])
   refine wpF_fix (v := .agg #[.slice sj.a n sj.cap, .slice sl.a m sl.cap]) rfl rfl (fun W hW => run_load_box #[.slice sj.a n sj.cap, .slice sl.a m sl.cap] (HBX.out _ (HDa.out.trans (hW.mono HDa.out.size))) rfl (whole_cells _) Tryz.underlying25 rfl (by kernel_rfl)) ?_; simp only [pTs, pTn, pTz, pTc]
   refine wpF_fix (v := .agg (encSide x)) rfl rfl (fun W hW => run_load_cell (encSide x) (HCX.out _ (HDa.out.trans (hW.mono HDa.out.size))) rfl Tryz.underlying59 rfl (by kernel_rfl)) ?_; simp only [pTs, pTn, pTz, pTc]
   refine ⟨?_, ?_⟩
   ·refine wpC_act rfl rfl rfl (fun K hK => ?_)
    go_simp
    refine (HN1.out _ HDa.out).mono ?_
    rintro e a7 ⟨rfl, ha7⟩
    refine hK _ _ ha7 ?_
    clear hK K
    try simp only [pTs, pTn, pTz, pTc]
    iterate 3 (refine wpC_pure rfl rfl (fun W => by go_simp; with_reducible rfl) ?_; simp only [pTs, pTn, pTz, pTc])
    refine wpC_act rfl rfl rfl (fun K hK => ?_)
    go_simp
    refine hK _ _ ((Below.refl _ _).alloc (Nat.le_refl _) _) ?_
    clear hK K
    try simp only [pTs, pTn, pTz, pTc]
    refine wpC_mark rfl rfl (fun K hK => ?_)
    refine wp_store_box (BoxAt.new _ _ _) _ _ _ rfl rfl (.agg (encSide y)) rfl (by kernel_rfl) rfl (one_agg (encSide_one _)) ?_
    intro c7 hq7 hT7
    refine hK _ _ ?_
    clear hK K
    try simp only [pTs, pTn, pTz, pTc]
    refine wpC_past rfl rfl (fun K hK => ?_)
    go_simp
    refine hK _ _ ?_
    clear hK K
    try simp only [pTs, pTn, pTz, pTc]
    simp only [wpC]
    have bG7 : BoxAt c7 _ 59 (encSide y) := hq7.eqv rfl
    have HD7 := Lib.hid (((HDa.out.trans (ha7.mono HDa.out.size)).alloc (HDa.out.trans (ha7.mono HDa.out.size)).size _).trans (hT7.below (HDa.out.trans (ha7.mono HDa.out.size)).size))
    clear hq7 hT7 ha7
    go_wp2_with (first
     | ((with_reducible refine at_dst 79 ?_); refine wpList_loadB (HBX.out _ HD7.out) rfl 25 _ rfl rfl #[.slice sj.a n sj.cap, .slice sl.a m sl.cap] (whole_cells _) Tryz.underlying25 rfl (by kernel_rfl) ?_)
     | ((with_reducible refine at_dst 80 ?_); refine wpList_loadB bG7 rfl 59 _ rfl rfl (encSide y) (whole_cells _) Tryz.underlying59 rfl (by kernel_rfl) ?_)
     | ((with_reducible refine at_storeT 59 ?_); refine wpList_store_last (cs := encSide x) rfl 59 _ _ rfl rfl rfl rfl (by kernel_rfl) rfl (encSide_one _) ?_)
     | (go_at_call 33; refine (HP1.out _ HD7.out).mono ?_; rintro e w8 ⟨rfl, hb8⟩; have HDb := Lib.hid (((HD7.out.trans (hb8.mono HD7.out.size)).alloc (HD7.out.trans (hb8.mono HD7.out.size)).size (.cells (encSide x) 59)).drew); have b12 := (BoxAt.new w8 59 (encSide x)).drew; have hE8 : (w8.alloc (.cells (encSide x) 59)).drew.heap.size = w8.heap.size + 1 := World.size_alloc _ _; have HN9 := Lib.hid (BoxAt.new (w8.alloc (.cells (encSide x) 59)).drew 59 #[.int .i64 0, .bool false]); have HZ8 := Lib.hid HDb.out.size; rw [hE8] at HN9 HZ8; clear hb8 hE8))
    refine wp_region_fork 10 [(1, none), (2, none), (3, none), (0, some true), (4, some true)] 5 [(6, none), (7, none), (8, none), (9, some false), (10, some false), (11, some false)] 9 [(5, some false), (6, none), (7, none), (8, none), (10, some false), (11, some false)] rfl (by kernel_rfl) (by kernel_rfl) (fun d _ _ _ _ h => by cases d <;> exact h) ?_
    iterate 3 (refine wpF_pure (v := ?_) rfl rfl ?_ ?_; rotate_left; (focus (intro W; go_simp; with_reducible rfl)); simp only [pTs, pTn, pTz, pTc])
    refine wpF_fix (v := .agg #[.slice sj.a n sj.cap, .slice sl.a m sl.cap]) rfl rfl (fun W hW => run_load_box #[.slice sj.a n sj.cap, .slice sl.a m sl.cap] (HBX.out _ (HDb.out.trans (hW.mono HDb.out.size))) rfl (whole_cells _) Tryz.underlying25 rfl (by kernel_rfl)) ?_; simp only [pTs, pTn, pTz, pTc]
    refine wpF_fix (v := .agg (encSide x)) rfl rfl (fun W hW => run_load_cell (encSide x) (HCX.out _ (HDb.out.trans (hW.mono HDb.out.size))) rfl Tryz.underlying59 rfl (by kernel_rfl)) ?_; simp only [pTs, pTn, pTz, pTc]
    refine ⟨?_, ?_⟩
    ·refine wpC_act rfl rfl rfl (fun K hK => ?_)
     go_simp
     refine (HP2.out _ HDb.out).mono ?_
     rintro e a9 ⟨rfl, ha9⟩
     refine hK _ _ ha9 ?_
     clear hK K
     try simp only [pTs, pTn, pTz, pTc]
     iterate 3 (refine wpC_pure rfl rfl (fun W => by go_simp; with_reducible rfl) ?_; simp only [pTs, pTn, pTz, pTc])
     refine wpC_act rfl rfl rfl (fun K hK => ?_)
     go_simp
     refine hK _ _ ((Below.refl _ _).alloc (Nat.le_refl _) _) ?_
     clear hK K
     try simp only [pTs, pTn, pTz, pTc]
     refine wpC_mark rfl rfl (fun K hK => ?_)
     refine wp_store_box (BoxAt.new _ _ _) _ _ _ rfl rfl (.agg (encSide z)) rfl (by kernel_rfl) rfl (one_agg (encSide_one _)) ?_
     intro c9 hq9 hT9
     refine hK _ _ ?_
     clear hK K
     try simp only [pTs, pTn, pTz, pTc]
     refine wpC_past rfl rfl (fun K hK => ?_)
     go_simp
     refine hK _ _ ?_
     clear hK K
     try simp only [pTs, pTn, pTz, pTc]
     simp only [wpC]
     have bG9 : BoxAt c9 _ 59 (encSide z) := hq9.eqv rfl
     have HD9 := Lib.hid (((HDb.out.trans (ha9.mono HDb.out.size)).alloc (HDb.out.trans (ha9.mono HDb.out.size)).size _).trans (hT9.below (HDb.out.trans (ha9.mono HDb.out.size)).size))
     have b12b := (((b12).belowAll ha9).alloc _).turn hT9 (Nat.ne_of_lt ((b12).belowAll ha9).lt)
     clear hq9 hT9 ha9
     go_wp2_with (first
      | ((with_reducible refine at_dst 94 ?_); refine wpList_loadB (HBX.out _ HD9.out) rfl 25 _ rfl rfl #[.slice sj.a n sj.cap, .slice sl.a m sl.cap] (whole_cells _) Tryz.underlying25 rfl (by kernel_rfl) ?_)
      | ((with_reducible refine at_dst 95 ?_); refine wpList_loadB bG9 rfl 59 _ rfl rfl (encSide z) (whole_cells _) Tryz.underlying59 rfl (by kernel_rfl) ?_)
      | ((with_reducible refine at_storeT 59 ?_); refine wpList_store_last (cs := encSide x) rfl 59 _ _ rfl rfl rfl rfl (by kernel_rfl) rfl (encSide_one _) ?_)
      | (go_at_call 31; refine (HN2.out _ HD9.out).mono ?_; rintro e w10 ⟨rfl, hb10⟩; have HDc := Lib.hid (((HD9.out.trans (hb10.mono HD9.out.size)).alloc (HD9.out.trans (hb10.mono HD9.out.size)).size (.cells (encSide x) 59)).drew); have b16 := (BoxAt.new w10 59 (encSide x)).drew; have b12c := ((b12b.belowAll hb10).alloc (.cells (encSide x) 59)).drew; clear hb10))
     refine wp_region_ord [(0, true), (1, true), (2, true), (3, true), (4, true), (5, true), (6, true), (7, true), (8, true), (9, true), (10, true), (11, true), (12, true), (13, true), (14, true), (15, true), (16, true), (17, true), (18, true), (19, true), (20, true), (21, true), (22, true), (23, true), (24, true), (25, true), (26, true), (27, true), (28, true), (29, true), (30, true), (31, true), (32, true), (33, true), (34, true), (35, true), (36, false), (37, true), (38, true)] rfl (by kernel_rfl) (by kernel_rfl) (fun d _ _ _ _ h => by cases d <;> exact h) ?_
     iterate 15 (refine wpB_fix rfl rfl (fun W hW => by go_simp; with_reducible rfl) ?_; simp only [pTs, pTn, pTz, pTc])
     refine wpB_fix (v := .agg (encSide x)) rfl rfl (fun W hW => run_load_box (encSide x) (b12c.belowAll hW) rfl (whole_cells _) Tryz.underlying59 rfl (by kernel_rfl)) ?_; simp only [pTs, pTn, pTz, pTc]
     iterate 3 (refine wpB_fix rfl rfl (fun W hW => by go_simp; with_reducible rfl) ?_; simp only [pTs, pTn, pTz, pTc])
     refine wpB_fix (v := .agg (encSide x)) rfl rfl (fun W hW => run_load_cell (encSide x) (HCX.out _ (HDc.out.trans (hW.mono HDc.out.size))) rfl Tryz.underlying59 rfl (by kernel_rfl)) ?_; simp only [pTs, pTn, pTz, pTc]
     refine wpB_fix (v := .bool false) rfl rfl (fun W hW => by go_simp; simp [eqSide]) ?_; simp only [pTs, pTn, pTz, pTc]
     iterate 2 (refine wpB_fix rfl rfl (fun W hW => by go_simp; with_reducible rfl) ?_; simp only [pTs, pTn, pTz, pTc])
     refine wpB_fix (v := .agg (encSide x)) rfl rfl (fun W hW => run_load_box (encSide x) (b16.belowAll hW) rfl (whole_cells _) Tryz.underlying59 rfl (by kernel_rfl)) ?_; simp only [pTs, pTn, pTz, pTc]
     iterate 3 (refine wpB_fix rfl rfl (fun W hW => by go_simp; with_reducible rfl) ?_; simp only [pTs, pTn, pTz, pTc])
     refine wpB_fix (v := .agg (encSide x)) rfl rfl (fun W hW => run_load_cell (encSide x) (HCX.out _ (HDc.out.trans (hW.mono HDc.out.size))) rfl Tryz.underlying59 rfl (by kernel_rfl)) ?_; simp only [pTs, pTn, pTz, pTc]
     refine wpB_fix (v := .bool false) rfl rfl (fun W hW => by go_simp; simp [eqSide]) ?_; simp only [pTs, pTn, pTz, pTc]
     iterate 6 (refine wpB_fix rfl rfl (fun W hW => by go_simp; with_reducible rfl) ?_; simp only [pTs, pTn, pTz, pTc])
     refine wpB_fix (v := .agg (encSide x)) rfl rfl (fun W hW => run_load_cell (encSide x) (HCX.out _ (HDc.out.trans (hW.mono HDc.out.size))) rfl Tryz.underlying59 rfl (by kernel_rfl)) ?_; simp only [pTs, pTn, pTz, pTc]
     refine wpB_act rfl rfl (fun K hK => ?_)
     go_simp
     refine (HT1.out _ HDc.out).mono ?_
     rintro e w11 ⟨rfl, hb11⟩
     refine hK _ _ hb11 ?_
     clear hK K
     try simp only [pTs, pTn, pTz, pTc]
     iterate 2 (refine wpB_fix rfl rfl (fun W hW => by go_simp; with_reducible rfl) ?_; simp only [pTs, pTn, pTz, pTc])
     simp only [wpB]
     go_wp2
     go_roundw
     case rel => exact ⟨k + 1, by omega, by go_num, Lib.hid (HDc.out.trans (hb11.mono HDc.out.size))⟩
     case measure => simp [intOf]; omega
    ·refine wpC_act rfl rfl rfl (fun K hK => ?_)
     go_simp
     refine hK _ _ ((Below.refl _ _).alloc (Nat.le_refl _) _) ?_
     clear hK K
     try simp only [pTs, pTn, pTz, pTc]
     refine wpC_act rfl rfl rfl (fun K hK => ?_)
     go_simp
     refine (HP2.out _ (HDb.out.alloc HDb.out.size _)).mono ?_
     rintro e a9 ⟨rfl, ha9⟩
     refine hK _ _ ha9 ?_
     clear hK K
     try simp only [pTs, pTn, pTz, pTc]
     iterate 3 (refine wpC_pure rfl rfl (fun W => by go_simp; with_reducible rfl) ?_; simp only [pTs, pTn, pTz, pTc])
     refine wpC_mark rfl rfl (fun K hK => ?_)
     refine wp_store_box (HN9.out.belowAll ha9) _ _ _ rfl rfl (.agg (encSide z)) rfl (by kernel_rfl) rfl (one_agg (encSide_one _)) ?_
     intro c9 hq9 hT9
     refine hK _ _ ?_
     clear hK K
     try simp only [pTs, pTn, pTz, pTc]
     refine wpC_past rfl rfl (fun K hK => ?_)
     go_simp
     refine hK _ _ ?_
     clear hK K
     try simp only [pTs, pTn, pTz, pTc]
     simp only [wpC]
     have bG9 : BoxAt c9 _ 59 (encSide z) := hq9.eqv rfl
     have HD9 := Lib.hid (((HDb.out.alloc HDb.out.size _).trans (ha9.mono (HDb.out.alloc HDb.out.size _).size)).trans (hT9.below HZ8.out))
     have b12b := (((b12).alloc _).belowAll ha9).turn hT9 (Nat.ne_of_lt (Nat.lt_succ_self _))
     clear hq9 hT9 ha9
     go_wp2_with (first
      | ((with_reducible refine at_dst 94 ?_); refine wpList_loadB (HBX.out _ HD9.out) rfl 25 _ rfl rfl #[.slice sj.a n sj.cap, .slice sl.a m sl.cap] (whole_cells _) Tryz.underlying25 rfl (by kernel_rfl) ?_)
      | ((with_reducible refine at_dst 95 ?_); refine wpList_loadB bG9 rfl 59 _ rfl rfl (encSide z) (whole_cells _) Tryz.underlying59 rfl (by kernel_rfl) ?_)
      | ((with_reducible refine at_storeT 59 ?_); refine wpList_store_last (cs := encSide x) rfl 59 _ _ rfl rfl rfl rfl (by kernel_rfl) rfl (encSide_one _) ?_)
      | (go_at_call 31; refine (HN2.out _ HD9.out).mono ?_; rintro e w10 ⟨rfl, hb10⟩; have HDc := Lib.hid (((HD9.out.trans (hb10.mono HD9.out.size)).alloc (HD9.out.trans (hb10.mono HD9.out.size)).size (.cells (encSide x) 59)).drew); have b16 := (BoxAt.new w10 59 (encSide x)).drew; have b12c := ((b12b.belowAll hb10).alloc (.cells (encSide x) 59)).drew; clear hb10))
     refine wp_region_ord [(0, true), (1, true), (2, true), (3, true), (4, true), (5, true), (6, true), (7, true), (8, true), (9, true), (10, true), (11, true), (12, true), (13, true), (14, true), (15, true), (16, true), (17, true), (18, true), (19, true), (20, true), (21, true), (22, true), (23, true), (24, true), (25, true), (26, true), (27, true), (28, true), (29, true), (30, true), (31, true), (32, true), (33, true), (34, true), (35, true), (36, false), (37, true), (38, true)] rfl (by kernel_rfl) (by kernel_rfl) (fun d _ _ _ _ h => by cases d <;> exact h) ?_
     iterate 15 (refine wpB_fix rfl rfl (fun W hW => by go_simp; with_reducible rfl) ?_; simp only [pTs, pTn, pTz, pTc])
     refine wpB_fix (v := .agg (encSide x)) rfl rfl (fun W hW => run_load_box (encSide x) (b12c.belowAll hW) rfl (whole_cells _) Tryz.underlying59 rfl (by kernel_rfl)) ?_; simp only [pTs, pTn, pTz, pTc]
     iterate 3 (refine wpB_fix rfl rfl (fun W hW => by go_simp; with_reducible rfl) ?_; simp only [pTs, pTn, pTz, pTc])
     refine wpB_fix (v := .agg (encSide x)) rfl rfl (fun W hW => run_load_cell (encSide x) (HCX.out _ (HDc.out.trans (hW.mono HDc.out.size))) rfl Tryz.underlying59 rfl (by kernel_rfl)) ?_; simp only [pTs, pTn, pTz, pTc]
     refine wpB_fix (v := .bool false) rfl rfl (fun W hW => by go_simp; simp [eqSide]) ?_; simp only [pTs, pTn, pTz, pTc]
     iterate 2 (refine wpB_fix rfl rfl (fun W hW => by go_simp; with_reducible rfl) ?_; simp only [pTs, pTn, pTz, pTc])
     refine wpB_fix (v := .agg (encSide x)) rfl rfl (fun W hW => run_load_box (encSide x) (b16.belowAll hW) rfl (whole_cells _) Tryz.underlying59 rfl (by kernel_rfl)) ?_; simp only [pTs, pTn, pTz, pTc]
     iterate 3 (refine wpB_fix rfl rfl (fun W hW => by go_simp; with_reducible rfl) ?_; simp only [pTs, pTn, pTz, pTc])
     refine wpB_fix (v := .agg (encSide x)) rfl rfl (fun W hW => run_load_cell (encSide x) (HCX.out _ (HDc.out.trans (hW.mono HDc.out.size))) rfl Tryz.underlying59 rfl (by kernel_rfl)) ?_; simp only [pTs, pTn, pTz, pTc]
     refine wpB_fix (v := .bool false) rfl rfl (fun W hW => by go_simp; simp [eqSide]) ?_; simp only [pTs, pTn, pTz, pTc]
     iterate 6 (refine wpB_fix rfl rfl (fun W hW => by go_simp; with_reducible rfl) ?_; simp only [pTs, pTn, pTz, pTc])
     refine wpB_fix (v := .agg (encSide x)) rfl rfl (fun W hW => run_load_cell (encSide x) (HCX.out _ (HDc.out.trans (hW.mono HDc.out.size))) rfl Tryz.underlying59 rfl (by kernel_rfl)) ?_; simp only [pTs, pTn, pTz, pTc]
     refine wpB_act rfl rfl (fun K hK => ?_)
     go_simp
     refine (HT1.out _ HDc.out).mono ?_
     rintro e w11 ⟨rfl, hb11⟩
     refine hK _ _ hb11 ?_
     clear hK K
     try simp only [pTs, pTn, pTz, pTc]
     iterate 2 (refine wpB_fix rfl rfl (fun W hW => by go_simp; with_reducible rfl) ?_; simp only [pTs, pTn, pTz, pTc])
     simp only [wpB]
     go_wp2
     go_roundw
     case rel => exact ⟨k + 1, by omega, by go_num, Lib.hid (HDc.out.trans (hb11.mono HDc.out.size))⟩
     case measure => simp [intOf]; omega
   ·refine wpC_act rfl rfl rfl (fun K hK => ?_)
    go_simp
    refine hK _ _ ((Below.refl _ _).alloc (Nat.le_refl _) _) ?_
    clear hK K
    try simp only [pTs, pTn, pTz, pTc]
    refine wpC_act rfl rfl rfl (fun K hK => ?_)
    go_simp
    refine (HN1.out _ (HDa.out.alloc HDa.out.size _)).mono ?_
    rintro e a7 ⟨rfl, ha7⟩
    refine hK _ _ ha7 ?_
    clear hK K
    try simp only [pTs, pTn, pTz, pTc]
    iterate 3 (refine wpC_pure rfl rfl (fun W => by go_simp; with_reducible rfl) ?_; simp only [pTs, pTn, pTz, pTc])
    refine wpC_mark rfl rfl (fun K hK => ?_)
    refine wp_store_box ((BoxAt.new _ _ _).belowAll ha7) _ _ _ rfl rfl (.agg (encSide y)) rfl (by kernel_rfl) rfl (one_agg (encSide_one _)) ?_
    intro c7 hq7 hT7
    refine hK _ _ ?_
    clear hK K
    try simp only [pTs, pTn, pTz, pTc]
    refine wpC_past rfl rfl (fun K hK => ?_)
    go_simp
    refine hK _ _ ?_
    clear hK K
    try simp only [pTs, pTn, pTz, pTc]
    simp only [wpC]
    have bG7 : BoxAt c7 _ 59 (encSide y) := hq7.eqv rfl
    have HD7 := Lib.hid (((HDa.out.alloc HDa.out.size _).trans (ha7.mono (HDa.out.alloc HDa.out.size _).size)).trans (hT7.below HDa.out.size))
    clear hq7 hT7 ha7
    go_wp2_with (first
     | ((with_reducible refine at_dst 79 ?_); refine wpList_loadB (HBX.out _ HD7.out) rfl 25 _ rfl rfl #[.slice sj.a n sj.cap, .slice sl.a m sl.cap] (whole_cells _) Tryz.underlying25 rfl (by kernel_rfl) ?_)
     | ((with_reducible refine at_dst 80 ?_); refine wpList_loadB bG7 rfl 59 _ rfl rfl (encSide y) (whole_cells _) Tryz.underlying59 rfl (by kernel_rfl) ?_)
     | ((with_reducible refine at_storeT 59 ?_); refine wpList_store_last (cs := encSide x) rfl 59 _ _ rfl rfl rfl rfl (by kernel_rfl) rfl (encSide_one _) ?_)
     | (go_at_call 33; refine (HP1.out _ HD7.out).mono ?_; rintro e w8 ⟨rfl, hb8⟩; have HDb := Lib.hid (((HD7.out.trans (hb8.mono HD7.out.size)).alloc (HD7.out.trans (hb8.mono HD7.out.size)).size (.cells (encSide x) 59)).drew); have b12 := (BoxAt.new w8 59 (encSide x)).drew; have hE8 : (w8.alloc (.cells (encSide x) 59)).drew.heap.size = w8.heap.size + 1 := World.size_alloc _ _; have HN9 := Lib.hid (BoxAt.new (w8.alloc (.cells (encSide x) 59)).drew 59 #[.int .i64 0, .bool false]); have HZ8 := Lib.hid HDb.out.size; rw [hE8] at HN9 HZ8; clear hb8 hE8))
    refine wp_region_fork 10 [(1, none), (2, none), (3, none), (0, some true), (4, some true)] 5 [(6, none), (7, none), (8, none), (9, some false), (10, some false), (11, some false)] 9 [(5, some false), (6, none), (7, none), (8, none), (10, some false), (11, some false)] rfl (by kernel_rfl) (by kernel_rfl) (fun d _ _ _ _ h => by cases d <;> exact h) ?_
    iterate 3 (refine wpF_pure (v := ?_) rfl rfl ?_ ?_; rotate_left; (focus (intro W; go_simp; with_reducible rfl)); simp only [pTs, pTn, pTz, pTc])
    refine wpF_fix (v := .agg #[.slice sj.a n sj.cap, .slice sl.a m sl.cap]) rfl rfl (fun W hW => run_load_box #[.slice sj.a n sj.cap, .slice sl.a m sl.cap] (HBX.out _ (HDb.out.trans (hW.mono HDb.out.size))) rfl (whole_cells _) Tryz.underlying25 rfl (by kernel_rfl)) ?_; simp only [pTs, pTn, pTz, pTc]
    refine wpF_fix (v := .agg (encSide x)) rfl rfl (fun W hW => run_load_cell (encSide x) (HCX.out _ (HDb.out.trans (hW.mono HDb.out.size))) rfl Tryz.underlying59 rfl (by kernel_rfl)) ?_; simp only [pTs, pTn, pTz, pTc]
    refine ⟨?_, ?_⟩
    ·refine wpC_act rfl rfl rfl (fun K hK => ?_)
     go_simp
     refine (HP2.out _ HDb.out).mono ?_
     rintro e a9 ⟨rfl, ha9⟩
     refine hK _ _ ha9 ?_
     clear hK K
     try simp only [pTs, pTn, pTz, pTc]
     iterate 3 (refine wpC_pure rfl rfl (fun W => by go_simp; with_reducible rfl) ?_; simp only [pTs, pTn, pTz, pTc])
     refine wpC_act rfl rfl rfl (fun K hK => ?_)
     go_simp
     refine hK _ _ ((Below.refl _ _).alloc (Nat.le_refl _) _) ?_
     clear hK K
     try simp only [pTs, pTn, pTz, pTc]
     refine wpC_mark rfl rfl (fun K hK => ?_)
     refine wp_store_box (BoxAt.new _ _ _) _ _ _ rfl rfl (.agg (encSide z)) rfl (by kernel_rfl) rfl (one_agg (encSide_one _)) ?_
     intro c9 hq9 hT9
     refine hK _ _ ?_
     clear hK K
     try simp only [pTs, pTn, pTz, pTc]
     refine wpC_past rfl rfl (fun K hK => ?_)
     go_simp
     refine hK _ _ ?_
     clear hK K
     try simp only [pTs, pTn, pTz, pTc]
     simp only [wpC]
     have bG9 : BoxAt c9 _ 59 (encSide z) := hq9.eqv rfl
     have HD9 := Lib.hid (((HDb.out.trans (ha9.mono HDb.out.size)).alloc (HDb.out.trans (ha9.mono HDb.out.size)).size _).trans (hT9.below (HDb.out.trans (ha9.mono HDb.out.size)).size))
     have b12b := (((b12).belowAll ha9).alloc _).turn hT9 (Nat.ne_of_lt ((b12).belowAll ha9).lt)
     clear hq9 hT9 ha9
     go_wp2_with (first
      | ((with_reducible refine at_dst 94 ?_); refine wpList_loadB (HBX.out _ HD9.out) rfl 25 _ rfl rfl #[.slice sj.a n sj.cap, .slice sl.a m sl.cap] (whole_cells _) Tryz.underlying25 rfl (by kernel_rfl) ?_)
      | ((with_reducible refine at_dst 95 ?_); refine wpList_loadB bG9 rfl 59 _ rfl rfl (encSide z) (whole_cells _) Tryz.underlying59 rfl (by kernel_rfl) ?_)
      | ((with_reducible refine at_storeT 59 ?_); refine wpList_store_last (cs := encSide x) rfl 59 _ _ rfl rfl rfl rfl (by kernel_rfl) rfl (encSide_one _) ?_)
      | (go_at_call 31; refine (HN2.out _ HD9.out).mono ?_; rintro e w10 ⟨rfl, hb10⟩; have HDc := Lib.hid (((HD9.out.trans (hb10.mono HD9.out.size)).alloc (HD9.out.trans (hb10.mono HD9.out.size)).size (.cells (encSide x) 59)).drew); have b16 := (BoxAt.new w10 59 (encSide x)).drew; have b12c := ((b12b.belowAll hb10).alloc (.cells (encSide x) 59)).drew; clear hb10))
     refine wp_region_ord [(0, true), (1, true), (2, true), (3, true), (4, true), (5, true), (6, true), (7, true), (8, true), (9, true), (10, true), (11, true), (12, true), (13, true), (14, true), (15, true), (16, true), (17, true), (18, true), (19, true), (20, true), (21, true), (22, true), (23, true), (24, true), (25, true), (26, true), (27, true), (28, true), (29, true), (30, true), (31, true), (32, true), (33, true), (34, true), (35, true), (36, false), (37, true), (38, true)] rfl (by kernel_rfl) (by kernel_rfl) (fun d _ _ _ _ h => by cases d <;> exact h) ?_
     iterate 15 (refine wpB_fix rfl rfl (fun W hW => by go_simp; with_reducible rfl) ?_; simp only [pTs, pTn, pTz, pTc])
     refine wpB_fix (v := .agg (encSide x)) rfl rfl (fun W hW => run_load_box (encSide x) (b12c.belowAll hW) rfl (whole_cells _) Tryz.underlying59 rfl (by kernel_rfl)) ?_; simp only [pTs, pTn, pTz, pTc]
     iterate 3 (refine wpB_fix rfl rfl (fun W hW => by go_simp; with_reducible rfl) ?_; simp only [pTs, pTn, pTz, pTc])
     refine wpB_fix (v := .agg (encSide x)) rfl rfl (fun W hW => run_load_cell (encSide x) (HCX.out _ (HDc.out.trans (hW.mono HDc.out.size))) rfl Tryz.underlying59 rfl (by kernel_rfl)) ?_; simp only [pTs, pTn, pTz, pTc]
     refine wpB_fix (v := .bool false) rfl rfl (fun W hW => by go_simp; simp [eqSide]) ?_; simp only [pTs, pTn, pTz, pTc]
     iterate 2 (refine wpB_fix rfl rfl (fun W hW => by go_simp; with_reducible rfl) ?_; simp only [pTs, pTn, pTz, pTc])
     refine wpB_fix (v := .agg (encSide x)) rfl rfl (fun W hW => run_load_box (encSide x) (b16.belowAll hW) rfl (whole_cells _) Tryz.underlying59 rfl (by kernel_rfl)) ?_; simp only [pTs, pTn, pTz, pTc]
     iterate 3 (refine wpB_fix rfl rfl (fun W hW => by go_simp; with_reducible rfl) ?_; simp only [pTs, pTn, pTz, pTc])
     refine wpB_fix (v := .agg (encSide x)) rfl rfl (fun W hW => run_load_cell (encSide x) (HCX.out _ (HDc.out.trans (hW.mono HDc.out.size))) rfl Tryz.underlying59 rfl (by kernel_rfl)) ?_; simp only [pTs, pTn, pTz, pTc]
     refine wpB_fix (v := .bool false) rfl rfl (fun W hW => by go_simp; simp [eqSide]) ?_; simp only [pTs, pTn, pTz, pTc]
     iterate 6 (refine wpB_fix rfl rfl (fun W hW => by go_simp; with_reducible rfl) ?_; simp only [pTs, pTn, pTz, pTc])
     refine wpB_fix (v := .agg (encSide x)) rfl rfl (fun W hW => run_load_cell (encSide x) (HCX.out _ (HDc.out.trans (hW.mono HDc.out.size))) rfl Tryz.underlying59 rfl (by kernel_rfl)) ?_; simp only [pTs, pTn, pTz, pTc]
     refine wpB_act rfl rfl (fun K hK => ?_)
     go_simp
     refine (HT1.out _ HDc.out).mono ?_
     rintro e w11 ⟨rfl, hb11⟩
     refine hK _ _ hb11 ?_
     clear hK K
     try simp only [pTs, pTn, pTz, pTc]
     iterate 2 (refine wpB_fix rfl rfl (fun W hW => by go_simp; with_reducible rfl) ?_; simp only [pTs, pTn, pTz, pTc])
     simp only [wpB]
     go_wp2
     go_roundw
     case rel => exact ⟨k + 1, by omega, by go_num, Lib.hid (HDc.out.trans (hb11.mono HDc.out.size))⟩
     case measure => simp [intOf]; omega
    ·refine wpC_act rfl rfl rfl (fun K hK => ?_)
     go_simp
     refine hK _ _ ((Below.refl _ _).alloc (Nat.le_refl _) _) ?_
     clear hK K
     try simp only [pTs, pTn, pTz, pTc]
     refine wpC_act rfl rfl rfl (fun K hK => ?_)
     go_simp
     refine (HP2.out _ (HDb.out.alloc HDb.out.size _)).mono ?_
     rintro e a9 ⟨rfl, ha9⟩
     refine hK _ _ ha9 ?_
     clear hK K
     try simp only [pTs, pTn, pTz, pTc]
     iterate 3 (refine wpC_pure rfl rfl (fun W => by go_simp; with_reducible rfl) ?_; simp only [pTs, pTn, pTz, pTc])
     refine wpC_mark rfl rfl (fun K hK => ?_)
     refine wp_store_box (HN9.out.belowAll ha9) _ _ _ rfl rfl (.agg (encSide z)) rfl (by kernel_rfl) rfl (one_agg (encSide_one _)) ?_
     intro c9 hq9 hT9
     refine hK _ _ ?_
     clear hK K
     try simp only [pTs, pTn, pTz, pTc]
     refine wpC_past rfl rfl (fun K hK => ?_)
     go_simp
     refine hK _ _ ?_
     clear hK K
     try simp only [pTs, pTn, pTz, pTc]
     simp only [wpC]
     have bG9 : BoxAt c9 _ 59 (encSide z) := hq9.eqv rfl
     have HD9 := Lib.hid (((HDb.out.alloc HDb.out.size _).trans (ha9.mono (HDb.out.alloc HDb.out.size _).size)).trans (hT9.below HZ8.out))
     have b12b := (((b12).alloc _).belowAll ha9).turn hT9 (Nat.ne_of_lt (Nat.lt_succ_self _))
     clear hq9 hT9 ha9
     go_wp2_with (first
      | ((with_reducible refine at_dst 94 ?_); refine wpList_loadB (HBX.out _ HD9.out) rfl 25 _ rfl rfl #[.slice sj.a n sj.cap, .slice sl.a m sl.cap] (whole_cells _) Tryz.underlying25 rfl (by kernel_rfl) ?_)
      | ((with_reducible refine at_dst 95 ?_); refine wpList_loadB bG9 rfl 59 _ rfl rfl (encSide z) (whole_cells _) Tryz.underlying59 rfl (by kernel_rfl) ?_)
      | ((with_reducible refine at_storeT 59 ?_); refine wpList_store_last (cs := encSide x) rfl 59 _ _ rfl rfl rfl rfl (by kernel_rfl) rfl (encSide_one _) ?_)
      | (go_at_call 31; refine (HN2.out _ HD9.out).mono ?_; rintro e w10 ⟨rfl, hb10⟩; have HDc := Lib.hid (((HD9.out.trans (hb10.mono HD9.out.size)).alloc (HD9.out.trans (hb10.mono HD9.out.size)).size (.cells (encSide x) 59)).drew); have b16 := (BoxAt.new w10 59 (encSide x)).drew; have b12c := ((b12b.belowAll hb10).alloc (.cells (encSide x) 59)).drew; clear hb10))
     refine wp_region_ord [(0, true), (1, true), (2, true), (3, true), (4, true), (5, true), (6, true), (7, true), (8, true), (9, true), (10, true), (11, true), (12, true), (13, true), (14, true), (15, true), (16, true), (17, true), (18, true), (19, true), (20, true), (21, true), (22, true), (23, true), (24, true), (25, true), (26, true), (27, true), (28, true), (29, true), (30, true), (31, true), (32, true), (33, true), (34, true), (35, true), (36, false), (37, true), (38, true)] rfl (by kernel_rfl) (by kernel_rfl) (fun d _ _ _ _ h => by cases d <;> exact h) ?_
     iterate 15 (refine wpB_fix rfl rfl (fun W hW => by go_simp; with_reducible rfl) ?_; simp only [pTs, pTn, pTz, pTc])
     refine wpB_fix (v := .agg (encSide x)) rfl rfl (fun W hW => run_load_box (encSide x) (b12c.belowAll hW) rfl (whole_cells _) Tryz.underlying59 rfl (by kernel_rfl)) ?_; simp only [pTs, pTn, pTz, pTc]
     iterate 3 (refine wpB_fix rfl rfl (fun W hW => by go_simp; with_reducible rfl) ?_; simp only [pTs, pTn, pTz, pTc])
     refine wpB_fix (v := .agg (encSide x)) rfl rfl (fun W hW => run_load_cell (encSide x) (HCX.out _ (HDc.out.trans (hW.mono HDc.out.size))) rfl Tryz.underlying59 rfl (by kernel_rfl)) ?_; simp only [pTs, pTn, pTz, pTc]
     refine wpB_fix (v := .bool false) rfl rfl (fun W hW => by go_simp; simp [eqSide]) ?_; simp only [pTs, pTn, pTz, pTc]
     iterate 2 (refine wpB_fix rfl rfl (fun W hW => by go_simp; with_reducible rfl) ?_; simp only [pTs, pTn, pTz, pTc])
     refine wpB_fix (v := .agg (encSide x)) rfl rfl (fun W hW => run_load_box (encSide x) (b16.belowAll hW) rfl (whole_cells _) Tryz.underlying59 rfl (by kernel_rfl)) ?_; simp only [pTs, pTn, pTz, pTc]
     iterate 3 (refine wpB_fix rfl rfl (fun W hW => by go_simp; with_reducible rfl) ?_; simp only [pTs, pTn, pTz, pTc])
     refine wpB_fix (v := .agg (encSide x)) rfl rfl (fun W hW => run_load_cell (encSide x) (HCX.out _ (HDc.out.trans (hW.mono HDc.out.size))) rfl Tryz.underlying59 rfl (by kernel_rfl)) ?_; simp only [pTs, pTn, pTz, pTc]
     refine wpB_fix (v := .bool false) rfl rfl (fun W hW => by go_simp; simp [eqSide]) ?_; simp only [pTs, pTn, pTz, pTc]
     iterate 6 (refine wpB_fix rfl rfl (fun W hW => by go_simp; with_reducible rfl) ?_; simp only [pTs, pTn, pTz, pTc])
     refine wpB_fix (v := .agg (encSide x)) rfl rfl (fun W hW => run_load_cell (encSide x) (HCX.out _ (HDc.out.trans (hW.mono HDc.out.size))) rfl Tryz.underlying59 rfl (by kernel_rfl)) ?_; simp only [pTs, pTn, pTz, pTc]
     refine wpB_act rfl rfl (fun K hK => ?_)
     go_simp
     refine (HT1.out _ HDc.out).mono ?_
     rintro e w11 ⟨rfl, hb11⟩
     refine hK _ _ hb11 ?_
     clear hK K
     try simp only [pTs, pTn, pTz, pTc]
     iterate 2 (refine wpB_fix rfl rfl (fun W hW => by go_simp; with_reducible rfl) ?_; simp only [pTs, pTn, pTz, pTc])
     simp only [wpB]
     go_wp2
     go_roundw
     case rel => exact ⟨k + 1, by omega, by go_num, Lib.hid (HDc.out.trans (hb11.mono HDc.out.size))⟩
     case measure => simp [intOf]; omega
  ·go_wp2
   go_loopw [18] (fun i wr => ∃ k : Nat, k ≤ nL ∧ i = .int .i64 k ∧ Hid (Below w4.heap.size w4 wr)) (fun i _ => nL - (intOf i).toNat)
   case atStart => exact ⟨0, Nat.zero_le _, rfl, HD⟩
   case round =>
    obtain ⟨k, hk, rfl, HD1⟩ := hrel
    by_cases hlt : k < nL
    ·obtain ⟨l, hl⟩ : ∃ l, L[k]? = some l := ⟨_, List.getElem?_eq_getElem (by rw [HNL.out]; exact hlt)⟩
     have HPL := HAL.out w4 (Below.refl _ _)
     rw [← HNL.out] at HPL
     obtain ⟨g, cap, ⟨ea, ec, ev⟩, e, _, hg, hq, hsv, hol⟩ := HPL.place hl
     simp only [Value.slice.injEq, true_and] at e
     obtain ⟨rfl, rfl⟩ := e
     simp only at hq hol
     have hml := HLL.out l (List.mem_of_getElem? hl)
     have HVL := Lib.hid (HVW.out l (List.mem_of_getElem? hl))
     obtain ⟨ml, hm⟩ : ∃ ml, l.length = ml := ⟨_, rfl⟩
     have HM := Lib.hid hm
     rw [hm] at hq hml HVL
     have HOL := Lib.hid hol
     have HQ : Hid (∀ W, Below w4.heap.size w4 W → W.cell? ⟨g, k, none⟩ = some (.slice ea ml ec)) := Lib.hid fun W hW => (hW.cell (p := ⟨g, k, none⟩) hg).trans hq
     have HLT := Lib.hid hlt
     clear hl hm hol hsv hq hg HPL
     go_wp2
     go_loopw [19] (fun j wr => ∃ q : Nat, q ≤ ml ∧ j = .int .i64 q ∧ Hid (Below w4.heap.size w4 wr)) (fun j _ => ml - (intOf j).toNat)
     case atStart => exact ⟨0, Nat.zero_le _, rfl, HD1⟩
     case round =>
      obtain ⟨q, hq, rfl, HD⟩ := hrel
      have q1 := HQ.out _ HD.out
      by_cases hqlt : q < ml
      ·obtain ⟨x, hx⟩ : ∃ x, l[q]? = some x := ⟨_, List.getElem?_eq_getElem (by rw [HM.out]; exact hqlt)⟩
       obtain ⟨hsx, hxy⟩ := HVL.out q x hx
       obtain ⟨y, hy⟩ : ∃ y, nextA sj.val sl.val x = y := ⟨_, rfl⟩
       rw [hy] at hxy
       obtain ⟨q2, hq2⟩ : ∃ q2, (q + 1) % ml = q2 := ⟨_, rfl⟩
       rw [hq2] at hxy
       have hq2l : q2 < ml := by rw [← hq2]; exact Nat.mod_lt _ (by omega)
       obtain ⟨g2, c, e, _, hg2, hcx⟩ := OwnL.cellOf (enc := encSide) (sz := 2) (fun _ => rfl) HOL.out hx
       obtain ⟨g3, c3, e3, _, _, hcy⟩ := OwnL.cellOf (enc := encSide) (sz := 2) (fun _ => rfl) HOL.out hxy
       rw [HM.out] at e e3
       simp only [Value.slice.injEq, true_and] at e
       obtain ⟨rfl, rfl⟩ := e
       simp only [Value.slice.injEq, Option.some.injEq, Addr.mk.injEq, and_true, true_and] at e3
       obtain ⟨rfl, rfl⟩ := e3
       have HCX : Hid (∀ W, Below w4.heap.size w4 W → ∀ j, j < (encSide x).size → W.cell? ⟨g2, q * 2 + j, none⟩ = (encSide x)[j]?) := Lib.hid fun W hW j hj => by
        rw [hW.cell (p := ⟨g2, q * 2 + j, none⟩) hg2]; exact hcx j hj
       have HCY : Hid (∀ W, Below w4.heap.size w4 W → ∀ j, j < (encSide y).size → W.cell? ⟨g2, q2 * 2 + j, none⟩ = (encSide y)[j]?) := Lib.hid fun W hW j hj => by
        rw [hW.cell (p := ⟨g2, q2 * 2 + j, none⟩) hg2]; exact hcy j hj
       have HDa : Hid (Below w4.heap.size w4 wr.drew) := Lib.hid (HD.out.trans ((Lays.refl wr).drew.below HD.out.size))
       have HN1 := Lib.hid fun W (hW : Below w4.heap.size w4 W) => HNX.out W x y (HUP.out W hW) hsx hy
       have w3 : IntKind.i64.wrap ((q : Int) + 1) = (q : Int) + 1 := IntWalk.i64_in _ (by omega)
       have M2 : Hid (((q : Int) + 1).tmod (ml : Int) = (q2 : Int)) := Lib.hid (by rw [Int.tmod_eq_emod_of_nonneg (by omega), ← hq2, Int.natCast_emod]; rfl)
       have HVE : Hid (¬ ml = 0) := Lib.hid (by omega)
       have v0 : (ml : Int) ≠ 0 := by omega
       have i2 : (q2 : Int) < (ml : Int) := by omega
       clear hx hcx hcy hg2 hsx hxy hy hq2
       go_wp2
       refine wp_region_fork 13 [(1, none), (2, none), (3, none), (5, none), (0, some true), (4, some true), (6, none), (7, some true)] 8 [(9, none), (10, none), (11, none), (12, some false), (13, some false), (14, some false)] 12 [(8, some false), (9, none), (10, none), (11, none), (13, some false), (14, some false)] rfl (by kernel_rfl) (by kernel_rfl) (fun d _ _ _ _ h => by cases d <;> exact h) ?_
       iterate 4 (refine wpF_pure (v := ?_) rfl rfl ?_ ?_; rotate_left; (focus (intro W; go_simp; with_reducible rfl)); simp only [pTs, pTn, pTz, pTc])
       refine wpF_fix (v := .agg #[.slice sj.a n sj.cap, .slice sl.a m sl.cap]) rfl rfl (fun W hW => run_load_box #[.slice sj.a n sj.cap, .slice sl.a m sl.cap] (HBX.out _ (HDa.out.trans (hW.mono HDa.out.size))) rfl (whole_cells _) Tryz.underlying25 rfl (by kernel_rfl)) ?_; simp only [pTs, pTn, pTz, pTc]
       refine wpF_fix (v := .slice (some ⟨g2, 0, none⟩) ml ec) rfl rfl (fun W hW => by have e : W.cell? ⟨g, k, none⟩ = some (.slice (some ⟨g2, 0, none⟩) ml ec) := HQ.out W (HDa.out.trans (hW.mono HDa.out.size)); go_simp) ?_; simp only [pTs, pTn, pTz, pTc]
       refine wpF_pure (v := ?_) rfl rfl ?_ ?_; rotate_left; (focus (intro W; go_simp; with_reducible rfl)); simp only [pTs, pTn, pTz, pTc]
       refine wpF_fix (v := .agg (encSide x)) rfl rfl (fun W hW => run_load_cell (encSide x) (HCX.out _ (HDa.out.trans (hW.mono HDa.out.size))) rfl Tryz.underlying59 rfl (by kernel_rfl)) ?_; simp only [pTs, pTn, pTz, pTc]
       refine ⟨?_, ?_⟩
       ·refine wpC_act rfl rfl rfl (fun K hK => ?_)
        go_simp
        refine (HN1.out _ HDa.out).mono ?_
        rintro e a7 ⟨rfl, ha7⟩
        refine hK _ _ ha7 ?_
        clear hK K
        try simp only [pTs, pTn, pTz, pTc]
        iterate 3 (refine wpC_pure rfl rfl (fun W => by go_simp; with_reducible rfl) ?_; simp only [pTs, pTn, pTz, pTc])
        refine wpC_act rfl rfl rfl (fun K hK => ?_)
        go_simp
        refine hK _ _ ((Below.refl _ _).alloc (Nat.le_refl _) _) ?_
        clear hK K
        try simp only [pTs, pTn, pTz, pTc]
        refine wpC_mark rfl rfl (fun K hK => ?_)
        refine wp_store_box (BoxAt.new _ _ _) _ _ _ rfl rfl (.agg (encSide y)) rfl (by kernel_rfl) rfl (one_agg (encSide_one _)) ?_
        intro c7 hq7 hT7
        refine hK _ _ ?_
        clear hK K
        try simp only [pTs, pTn, pTz, pTc]
        refine wpC_past rfl rfl (fun K hK => ?_)
        go_simp
        refine hK _ _ ?_
        clear hK K
        try simp only [pTs, pTn, pTz, pTc]
        simp only [wpC]
        have bG7 : BoxAt c7 _ 59 (encSide y) := hq7.eqv rfl
        have HD7 := Lib.hid (((HDa.out.trans (ha7.mono HDa.out.size)).alloc (HDa.out.trans (ha7.mono HDa.out.size)).size _).trans (hT7.below (HDa.out.trans (ha7.mono HDa.out.size)).size))
        clear hq7 hT7 ha7
        have HDe := Lib.hid (HD7.out.drew)
        go_wp2
        refine wp_region_ord [(0, true), (1, true), (2, true), (3, true), (4, true), (5, true), (6, true), (7, true), (8, true), (9, true), (10, true), (11, true), (12, true), (13, true), (14, true), (15, true), (16, true), (17, true), (18, true), (19, true)] rfl (by kernel_rfl) (by kernel_rfl) (fun d _ _ _ _ h => by cases d <;> exact h) ?_
        iterate 3 (refine wpB_fix rfl rfl (fun W hW => by go_simp; with_reducible rfl) ?_; simp only [pTs, pTn, pTz, pTc])
        refine wpB_fix (v := .agg (encSide y)) rfl rfl (fun W hW => run_load_box (encSide y) (bG7.drew.belowAll hW) rfl (whole_cells _) Tryz.underlying59 rfl (by kernel_rfl)) ?_; simp only [pTs, pTn, pTz, pTc]
        iterate 3 (refine wpB_fix rfl rfl (fun W hW => by go_simp; with_reducible rfl) ?_; simp only [pTs, pTn, pTz, pTc])
        refine wpB_fix (v := .slice (some ⟨g2, 0, none⟩) ml ec) rfl rfl (fun W hW => by have e : W.cell? ⟨g, k, none⟩ = some (.slice (some ⟨g2, 0, none⟩) ml ec) := HQ.out W (HDe.out.trans (hW.mono HDe.out.size)); go_simp) ?_; simp only [pTs, pTn, pTz, pTc]
        iterate 5 (refine wpB_fix rfl rfl (fun W hW => by go_simp; with_reducible rfl) ?_; simp only [pTs, pTn, pTz, pTc])
        refine wpB_fix (v := .slice (some ⟨g2, 0, none⟩) ml ec) rfl rfl (fun W hW => by have e : W.cell? ⟨g, k, none⟩ = some (.slice (some ⟨g2, 0, none⟩) ml ec) := HQ.out W (HDe.out.trans (hW.mono HDe.out.size)); go_simp) ?_; simp only [pTs, pTn, pTz, pTc]
        refine wpB_fix rfl rfl (fun W hW => by go_simp; with_reducible rfl) ?_; simp only [pTs, pTn, pTz, pTc]
        refine wpB_fix (v := .int .i64 (q2 : Int)) rfl rfl (fun W hW => by go_simp; rw [if_neg HVE.out, M2.out]) ?_; simp only [pTs, pTn, pTz, pTc]
        refine wpB_fix (v := .pointer (some ⟨g2, q2 * 2, none⟩)) rfl rfl (fun W hW => by go_simp) ?_; simp only [pTs, pTn, pTz, pTc]
        refine wpB_fix (v := .agg (encSide y)) rfl rfl (fun W hW => run_load_cell (encSide y) (HCY.out _ (HDe.out.trans (hW.mono HDe.out.size))) rfl Tryz.underlying59 rfl (by kernel_rfl)) ?_; simp only [pTs, pTn, pTz, pTc]
        refine wpB_fix (v := .bool false) rfl rfl (fun W hW => by go_simp; simp [eqSide]) ?_; simp only [pTs, pTn, pTz, pTc]
        refine wpB_fix rfl rfl (fun W hW => by go_simp; with_reducible rfl) ?_; simp only [pTs, pTn, pTz, pTc]
        simp only [wpB]
        go_wp2
        go_roundw
        case rel => exact ⟨q + 1, by omega, by go_num, HDe⟩
        case measure => simp [intOf]; omega
       ·refine wpC_act rfl rfl rfl (fun K hK => ?_)
        go_simp
        refine hK _ _ ((Below.refl _ _).alloc (Nat.le_refl _) _) ?_
        clear hK K
        try simp only [pTs, pTn, pTz, pTc]
        refine wpC_act rfl rfl rfl (fun K hK => ?_)
        go_simp
        refine (HN1.out _ (HDa.out.alloc HDa.out.size _)).mono ?_
        rintro e a7 ⟨rfl, ha7⟩
        refine hK _ _ ha7 ?_
        clear hK K
        try simp only [pTs, pTn, pTz, pTc]
        iterate 3 (refine wpC_pure rfl rfl (fun W => by go_simp; with_reducible rfl) ?_; simp only [pTs, pTn, pTz, pTc])
        refine wpC_mark rfl rfl (fun K hK => ?_)
        refine wp_store_box ((BoxAt.new _ _ _).belowAll ha7) _ _ _ rfl rfl (.agg (encSide y)) rfl (by kernel_rfl) rfl (one_agg (encSide_one _)) ?_
        intro c7 hq7 hT7
        refine hK _ _ ?_
        clear hK K
        try simp only [pTs, pTn, pTz, pTc]
        refine wpC_past rfl rfl (fun K hK => ?_)
        go_simp
        refine hK _ _ ?_
        clear hK K
        try simp only [pTs, pTn, pTz, pTc]
        simp only [wpC]
        have bG7 : BoxAt c7 _ 59 (encSide y) := hq7.eqv rfl
        have HD7 := Lib.hid (((HDa.out.alloc HDa.out.size _).trans (ha7.mono (HDa.out.alloc HDa.out.size _).size)).trans (hT7.below HDa.out.size))
        clear hq7 hT7 ha7
        have HDe := Lib.hid (HD7.out.drew)
        go_wp2
        refine wp_region_ord [(0, true), (1, true), (2, true), (3, true), (4, true), (5, true), (6, true), (7, true), (8, true), (9, true), (10, true), (11, true), (12, true), (13, true), (14, true), (15, true), (16, true), (17, true), (18, true), (19, true)] rfl (by kernel_rfl) (by kernel_rfl) (fun d _ _ _ _ h => by cases d <;> exact h) ?_
        iterate 3 (refine wpB_fix rfl rfl (fun W hW => by go_simp; with_reducible rfl) ?_; simp only [pTs, pTn, pTz, pTc])
        refine wpB_fix (v := .agg (encSide y)) rfl rfl (fun W hW => run_load_box (encSide y) (bG7.drew.belowAll hW) rfl (whole_cells _) Tryz.underlying59 rfl (by kernel_rfl)) ?_; simp only [pTs, pTn, pTz, pTc]
        iterate 3 (refine wpB_fix rfl rfl (fun W hW => by go_simp; with_reducible rfl) ?_; simp only [pTs, pTn, pTz, pTc])
        refine wpB_fix (v := .slice (some ⟨g2, 0, none⟩) ml ec) rfl rfl (fun W hW => by have e : W.cell? ⟨g, k, none⟩ = some (.slice (some ⟨g2, 0, none⟩) ml ec) := HQ.out W (HDe.out.trans (hW.mono HDe.out.size)); go_simp) ?_; simp only [pTs, pTn, pTz, pTc]
        iterate 5 (refine wpB_fix rfl rfl (fun W hW => by go_simp; with_reducible rfl) ?_; simp only [pTs, pTn, pTz, pTc])
        refine wpB_fix (v := .slice (some ⟨g2, 0, none⟩) ml ec) rfl rfl (fun W hW => by have e : W.cell? ⟨g, k, none⟩ = some (.slice (some ⟨g2, 0, none⟩) ml ec) := HQ.out W (HDe.out.trans (hW.mono HDe.out.size)); go_simp) ?_; simp only [pTs, pTn, pTz, pTc]
        refine wpB_fix rfl rfl (fun W hW => by go_simp; with_reducible rfl) ?_; simp only [pTs, pTn, pTz, pTc]
        refine wpB_fix (v := .int .i64 (q2 : Int)) rfl rfl (fun W hW => by go_simp; rw [if_neg HVE.out, M2.out]) ?_; simp only [pTs, pTn, pTz, pTc]
        refine wpB_fix (v := .pointer (some ⟨g2, q2 * 2, none⟩)) rfl rfl (fun W hW => by go_simp) ?_; simp only [pTs, pTn, pTz, pTc]
        refine wpB_fix (v := .agg (encSide y)) rfl rfl (fun W hW => run_load_cell (encSide y) (HCY.out _ (HDe.out.trans (hW.mono HDe.out.size))) rfl Tryz.underlying59 rfl (by kernel_rfl)) ?_; simp only [pTs, pTn, pTz, pTc]
        refine wpB_fix (v := .bool false) rfl rfl (fun W hW => by go_simp; simp [eqSide]) ?_; simp only [pTs, pTn, pTz, pTc]
        refine wpB_fix rfl rfl (fun W hW => by go_simp; with_reducible rfl) ?_; simp only [pTs, pTn, pTz, pTc]
        simp only [wpB]
        go_wp2
        go_roundw
        case rel => exact ⟨q + 1, by omega, by go_num, HDe⟩
        case measure => simp [intOf]; omega
      ·go_wp2
       go_roundw
       case rel => exact ⟨k + 1, by have := HLT.out; omega, by go_num, HD⟩
       case measure => have := HLT.out; simp [intOf]; omega
    ·go_wp2
     go_ret
     exact ⟨rfl, HUP.out _ HD1.out⟩
end Go.Proofs.YtbbblemfodpmaaaGreat
