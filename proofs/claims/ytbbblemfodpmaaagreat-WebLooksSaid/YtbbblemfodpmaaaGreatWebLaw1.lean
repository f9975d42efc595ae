/-
  WebLooks answers true.
-/
import Derived.Test.YtbbblemfodpmaaaGreatWebGz
set_option linter.unusedVariables false
set_option linter.unusedSimpArgs false
set_option maxHeartbeats 16000000
set_option maxRecDepth 100000
namespace Go.Proofs.YtbbblemfodpmaaaGreat
open Go.RowKit
theorem sides_det (a b : Sl Side) {D D' : Nat → Prop} {ok ok' : (Nat → Prop) → World → Side → Prop} (w : World) (ha : a.OK 2 zAa ok D w) (hb : b.OK 2 zAa ok' D' w) (h1 : ∀ x w w',ok D w x → ok D w' x) (h2 : ∀ x w w',ok' D' w x → ok' D' w' x) :
  Det 41 #[.slice a.a a.val.length a.cap, .slice b.a b.val.length b.cap] (.bool (decide (a.val = b.val))) w := fun W hW => zFG a b W (ha.ext (fun x => h1 x _ _) (.of_below hW)) (hb.ext (fun x => h2 x _ _) (.of_below hW))
theorem look_len (js : List Joint) (ls : List Lead) (j : Int) : (if zCP js ls j = 0 then outA js ls j else []).length ≤ 1000 := by
 split
 ·rename_i h
  have hz : (zAE js ls).1 = 0 := by
   unfold zCP at h
   split at h
   ·rename_i h2;exact absurd h h2
   ·rename_i h2;simpa using h2
  have V := zB9 hz
  have h1 := (zCc (ltAt js ls j) (zAx j ls)).length_eq
  have h2 := zD8 j ls
  have h3 := V.nl
  unfold outA;omega
 ·simp
theorem looks_any (sj : Sl Joint) (sl : Sl Lead) (id : Int) (s : Side) (w : World) (hj : sj.OK 3 zAh zAu (fun _ => False) w) (hl : sl.OK 8 zAf zAB (fun _ => False) w) (hi : I64 id) (hs : I64 s.lead) (hf : fewB sj.val.length sl.val.length = true) :
  Calls Tryz.prog 11 #[.agg #[.slice sj.a sj.val.length sj.cap, .slice sl.a sl.val.length sl.cap], .int .i64 id, .agg (zAa s)] w fun e w' => e = .returned (.bool true) ∧ Below w.heap.size w w' := by
 have HF := zz (few_det sj.a sl.a sj.val.length sj.cap sl.val.length sl.cap w)
 rw [hf] at HF
 have DJ1 : Hid (Det 52 #[.agg #[.slice sj.a sj.val.length sj.cap, .slice sl.a sl.val.length sl.cap], .int .i64 id] _ w) := zz fun W hW => JointOf_any sj sl id W (hj.jmoved hW) (hl.lmoved hW) hi
 have DJ2 : Hid (Det 53 #[.agg #[.slice sj.a sj.val.length sj.cap, .slice sl.a sl.val.length sl.cap], .int .i64 id] _ w) := zz fun W hW => rjoint_any sj sl id W (hj.jmoved hW) (hl.lmoved hW)
 have DL1 : Hid (Det 54 #[.agg #[.slice sj.a sj.val.length sj.cap, .slice sl.a sl.val.length sl.cap], .int .i64 id] _ w) := zz fun W hW => LeadOf_any sj sl id W (hj.jmoved hW) (hl.lmoved hW) hi
 have DL2 : Hid (Det 55 #[.agg #[.slice sj.a sj.val.length sj.cap, .slice sl.a sl.val.length sl.cap], .int .i64 id] _ w) := zz fun W hW => zGp sj sl id W (hj.jmoved hW) (hl.lmoved hW)
 have DE1 : Hid (Det 47 #[.agg #[.slice sj.a sj.val.length sj.cap, .slice sl.a sl.val.length sl.cap], .agg (zAa s)] _ w) := zz fun W hW => Ends_any sj sl s W (hj.jmoved hW) (hl.lmoved hW) hs
 have DE2 : Hid (Det 56 #[.agg #[.slice sj.a sj.val.length sj.cap, .slice sl.a sl.val.length sl.cap], .agg (zAa s)] _ w) := zz fun W hW => rEnds_any sj sl s W (hj.jmoved hW) (hl.lmoved hW)
 have DF1 : Hid (Det 57 #[.agg #[.slice sj.a sj.val.length sj.cap, .slice sl.a sl.val.length sl.cap], .agg (zAa s)] _ w) := zz fun W hW => Flange_any sj sl s W (hj.jmoved hW) (hl.lmoved hW) hs
 have DF2 : Hid (Det 58 #[.agg #[.slice sj.a sj.val.length sj.cap, .slice sl.a sl.val.length sl.cap], .agg (zAa s)] _ w) := zz fun W hW => rFlange_any sj sl s W (hj.jmoved hW) (hl.lmoved hW)
 have DA1 : Hid (∀ W,Below w.heap.size w W → Calls Tryz.prog 59 #[.agg #[.slice sj.a sj.val.length sj.cap, .slice sl.a sl.val.length sl.cap], .int .i64 id] W (zCJ sj sl id W)) := zz fun W hW => Around_any sj sl id W (hj.jmoved hW) (hl.lmoved hW) hi
 have DA2 : Hid (∀ W,Below w.heap.size w W → Calls Tryz.prog 60 #[.agg #[.slice sj.a sj.val.length sj.cap, .slice sl.a sl.val.length sl.cap], .int .i64 id] W (zCJ sj sl id W)) := zz fun W hW => rAround_any sj sl id W (hj.jmoved hW) (hl.lmoved hW)
 have HB0 : Hid (Below w.heap.size w ((w.alloc (.cells #[.slice sj.a sj.val.length sj.cap, .slice sl.a sl.val.length sl.cap] 25)).alloc (.cells (zAa s) 59))) := zz ((((Lays.refl w).alloc _).alloc _).below (Nat.le_refl _))
 have HWB : Hid (zAc ((w.alloc (.cells #[.slice sj.a sj.val.length sj.cap, .slice sl.a sl.val.length sl.cap] 25)).alloc (.cells (zAa s) 59)) (w.heap.size) 25 #[.slice sj.a sj.val.length sj.cap, .slice sl.a sl.val.length sl.cap]) := zz ((zAc.new w 25 #[.slice sj.a sj.val.length sj.cap, .slice sl.a sl.val.length sl.cap]).alloc _)
 have HSB : Hid (zAc ((w.alloc (.cells #[.slice sj.a sj.val.length sj.cap, .slice sl.a sl.val.length sl.cap] 25)).alloc (.cells (zAa s) 59)) (w.heap.size + 1) 59 (zAa s)) := zz (by have := zAc.new (w.alloc (.cells #[.slice sj.a sj.val.length sj.cap, .slice sl.a sl.val.length sl.cap] 25)) 59 (zAa s);simpa only [World.size_alloc] using this : zAc _ _ _ _)
 obtain ⟨rj,h1⟩ : ∃ r,zEI sj.val sl.val id = r := ⟨_,rfl⟩
 obtain ⟨ej,h2⟩ : ∃ r,zCP sj.val sl.val id = r := ⟨_,rfl⟩
 obtain ⟨rl,h3⟩ : ∃ r,zCQ sj.val sl.val id = r := ⟨_,rfl⟩
 obtain ⟨el,h4⟩ : ∃ r,zDL sj.val sl.val id = r := ⟨_,rfl⟩
 obtain ⟨ra,h5⟩ : ∃ r,zFk sj.val sl.val s = r := ⟨_,rfl⟩
 obtain ⟨rb,h6⟩ : ∃ r,endTo sj.val sl.val s = r := ⟨_,rfl⟩
 obtain ⟨es,h7⟩ : ∃ r,zBI sj.val sl.val s = r := ⟨_,rfl⟩
 obtain ⟨rf,h8⟩ : ∃ r,zEp sj.val sl.val s = r := ⟨_,rfl⟩
 obtain ⟨ef,h9⟩ : ∃ r,zDL sj.val sl.val s.lead = r := ⟨_,rfl⟩
 obtain ⟨lo,h0⟩ : ∃ r,(if zCP sj.val sl.val id = 0 then outA sj.val sl.val id else []) = r := ⟨_,rfl⟩
 have HLO : Hid (lo.length ≤ 1000) := zz (by rw [← h0];exact look_len _ _ _)
 unfold zCJ at DA1 DA2
 simp only [h0] at DA1 DA2
 simp only [h1,h2,h3,h4,h5,h6,h7,h8,h9] at DJ1 DJ2 DL1 DL2 DE1 DE2 DF1 DF2 DA1 DA2
 clear h0 h1 h2 h3 h4 h5 h6 h7 h8 h9 hj hl hi hs hf
 go_enter Tryz.func11,Tryz.ntmps11
 go_upto_region 4 with (first
  | (go_at_call 13;refine (zDC _).mono ?_;rintro e w1 ⟨rfl,hb1⟩;replace HWB := zz (HWB.out.belowAll hb1);replace HSB := zz (HSB.out.belowAll hb1);replace HB0 := zz (HB0.out.trans (hb1.mono HB0.out.size));clear hb1)
  | ((with_reducible refine zAk 31 ?_);refine zAj HWB.out rfl 25 _ rfl rfl #[.slice sj.a sj.val.length sj.cap, .slice sl.a sl.val.length sl.cap] (zAe _) Tryz.underlying25 ?_)
  | (go_at_call 17;refine (HF.out _ HB0.out).mono ?_;rintro e w1 ⟨rfl,hb1⟩;replace HWB := zz (HWB.out.belowAll hb1);replace HSB := zz (HSB.out.belowAll hb1);replace HB0 := zz (HB0.out.trans (hb1.mono HB0.out.size));clear hb1))
 go_upto_region 4 with (fail)
 refine rgQ [0,1,2,3,4,5] [6,7,8] ?_
 refine zAm (v := _) rfl rfl (fun W hW => zAd _ (HWB.out.belowAll hW) rfl (zAe _) Tryz.underlying25) ?_;simp only [pT]
 (refine wD rfl rfl ?_;simp only [pT])
 refine zAL _ _ _ rfl rfl (fun W => by go_simp;try with_reducible rfl) (DJ1.out.moved HB0.out) ?_;simp only [pT]
 iterate 3 (refine wD rfl rfl ?_;simp only [pT])
 intro W1 HW1
 refine zBk [36,37,38,35] fun u => ?_;simp only [zAD,pT]
 refine zCD (T := 29) (cs := #[.int .i64 0, .int .i64 0, .int .i64 0]) rfl (by kernel_rfl) ?_;simp only [zBm,World.size_alloc,pT]
 have hfb0 := zAc.new W1 29 #[.int .i64 0, .int .i64 0, .int .i64 0]
 have HW3 := HW1.trans (((Below.refl W1.heap.size W1).alloc (Nat.le_refl _) (.cells #[.int .i64 0, .int .i64 0, .int .i64 0] 29)).mono HW1.size)
 have hfl := HW1.size
 refine zA3 hfb0 rfl rfl (.agg (zAh rj)) rfl (by kernel_rfl) (by rfl) (zAG _) fun W2 hbs0 hts0 => ?_
 have HV0 := HW3.trans (hts0.below (by omega))
 have HJ1 := zz (hbs0.eqv (cs' := zAh rj) (by simp [zAv,zAh,Value.cells]))
 refine zBx rfl rfl (by go_simp;with_reducible rfl) ?_;simp only [pT]
 refine zBc ?_
 have HW2 := HV0
 obtain ⟨j1,hj0⟩ : ∃ j,W1.heap.size = j := ⟨_,rfl⟩
 simp only [hj0] at HJ1 ⊢
 clear hfb0 hbs0 hts0 HV0 hfl HW1 HW3 hj0
 replace HB0 := zz (HB0.out.trans (HW2.mono HB0.out.size))
 replace HWB := zz (HWB.out.belowAll HW2)
 replace HSB := zz (HSB.out.belowAll HW2)
 clear HW2
 go_upto_region 5 with (fail)
 refine rgQ [0,1,2,3,4,5] [6,7,8] ?_
 refine zAm (v := _) rfl rfl (fun W hW => zAd _ (HWB.out.belowAll hW) rfl (zAe _) Tryz.underlying25) ?_;simp only [pT]
 (refine wD rfl rfl ?_;simp only [pT])
 refine zAL _ _ _ rfl rfl (fun W => by go_simp;try with_reducible rfl) (DJ2.out.moved HB0.out) ?_;simp only [pT]
 iterate 3 (refine wD rfl rfl ?_;simp only [pT])
 intro W1 HW1
 refine zBk [42,43,44,41] fun u => ?_;simp only [zAD,pT]
 refine zCD (T := 29) (cs := #[.int .i64 0, .int .i64 0, .int .i64 0]) rfl (by kernel_rfl) ?_;simp only [zBm,World.size_alloc,pT]
 have hfb0 := zAc.new W1 29 #[.int .i64 0, .int .i64 0, .int .i64 0]
 have HW3 := HW1.trans (((Below.refl W1.heap.size W1).alloc (Nat.le_refl _) (.cells #[.int .i64 0, .int .i64 0, .int .i64 0] 29)).mono HW1.size)
 have hfl := HW1.size
 refine zA3 hfb0 rfl rfl (.agg (zAh rj)) rfl (by kernel_rfl) (by rfl) (zAG _) fun W2 hbs0 hts0 => ?_
 have HV0 := HW3.trans (hts0.below (by omega))
 have HJ2 := zz (hbs0.eqv (cs' := zAh rj) (by simp [zAv,zAh,Value.cells]))
 refine zBx rfl rfl (by go_simp;with_reducible rfl) ?_;simp only [pT]
 refine zBc ?_
 have HW2 := HV0
 obtain ⟨j2,hj0⟩ : ∃ j,W1.heap.size = j := ⟨_,rfl⟩
 simp only [hj0] at HJ2 ⊢
 clear hfb0 hbs0 hts0 HV0 hfl HW1 HW3 hj0
 replace HB0 := zz (HB0.out.trans (HW2.mono HB0.out.size))
 replace HWB := zz (HWB.out.belowAll HW2)
 replace HSB := zz (HSB.out.belowAll HW2)
 replace HJ1 := zz (HJ1.out.belowAll HW2)
 clear HW2
 go_upto_region 6 with (fail)
 refine rgQ [0,1,2,3,4,5] [6,7,8] ?_
 refine zAm (v := _) rfl rfl (fun W hW => zAd _ (HWB.out.belowAll hW) rfl (zAe _) Tryz.underlying25) ?_;simp only [pT]
 (refine wD rfl rfl ?_;simp only [pT])
 refine zAL _ _ _ rfl rfl (fun W => by go_simp;try with_reducible rfl) (DL1.out.moved HB0.out) ?_;simp only [pT]
 iterate 3 (refine wD rfl rfl ?_;simp only [pT])
 intro W1 HW1
 refine zBk [48,49,50,47] fun u => ?_;simp only [zAD,pT]
 refine zCD (T := 31) (cs := #[.int .i64 0, .int .i64 0, .int .i64 0, .int .i64 0, .int .i64 0, .int .i64 0, .int .i64 0, .int .i64 0]) rfl (by kernel_rfl) ?_;simp only [zBm,World.size_alloc,pT]
 have hfb0 := zAc.new W1 31 #[.int .i64 0, .int .i64 0, .int .i64 0, .int .i64 0, .int .i64 0, .int .i64 0, .int .i64 0, .int .i64 0]
 have HW3 := HW1.trans (((Below.refl W1.heap.size W1).alloc (Nat.le_refl _) (.cells #[.int .i64 0, .int .i64 0, .int .i64 0, .int .i64 0, .int .i64 0, .int .i64 0, .int .i64 0, .int .i64 0] 31)).mono HW1.size)
 have hfl := HW1.size
 refine zA3 hfb0 rfl rfl (.agg (zAf rl)) rfl (by kernel_rfl) (by rfl) (zAU _) fun W2 hbs0 hts0 => ?_
 have HV0 := HW3.trans (hts0.below (by omega))
 have HL1 := zz (hbs0.eqv (cs' := zAf rl) (by simp [zAv,zAf,Value.cells]))
 refine zBx rfl rfl (by go_simp;with_reducible rfl) ?_;simp only [pT]
 refine zBc ?_
 have HW2 := HV0
 obtain ⟨l1,hj0⟩ : ∃ j,W1.heap.size = j := ⟨_,rfl⟩
 simp only [hj0] at HL1 ⊢
 clear hfb0 hbs0 hts0 HV0 hfl HW1 HW3 hj0
 replace HB0 := zz (HB0.out.trans (HW2.mono HB0.out.size))
 replace HWB := zz (HWB.out.belowAll HW2)
 replace HSB := zz (HSB.out.belowAll HW2)
 replace HJ1 := zz (HJ1.out.belowAll HW2)
 replace HJ2 := zz (HJ2.out.belowAll HW2)
 clear HW2
 go_upto_region 7 with (fail)
 refine rgQ [0,1,2,3,4,5] [6,7,8] ?_
 refine zAm (v := _) rfl rfl (fun W hW => zAd _ (HWB.out.belowAll hW) rfl (zAe _) Tryz.underlying25) ?_;simp only [pT]
 (refine wD rfl rfl ?_;simp only [pT])
 refine zAL _ _ _ rfl rfl (fun W => by go_simp;try with_reducible rfl) (DL2.out.moved HB0.out) ?_;simp only [pT]
 iterate 3 (refine wD rfl rfl ?_;simp only [pT])
 intro W1 HW1
 refine zBk [54,55,56,53] fun u => ?_;simp only [zAD,pT]
 refine zCD (T := 31) (cs := #[.int .i64 0, .int .i64 0, .int .i64 0, .int .i64 0, .int .i64 0, .int .i64 0, .int .i64 0, .int .i64 0]) rfl (by kernel_rfl) ?_;simp only [zBm,World.size_alloc,pT]
 have hfb0 := zAc.new W1 31 #[.int .i64 0, .int .i64 0, .int .i64 0, .int .i64 0, .int .i64 0, .int .i64 0, .int .i64 0, .int .i64 0]
 have HW3 := HW1.trans (((Below.refl W1.heap.size W1).alloc (Nat.le_refl _) (.cells #[.int .i64 0, .int .i64 0, .int .i64 0, .int .i64 0, .int .i64 0, .int .i64 0, .int .i64 0, .int .i64 0] 31)).mono HW1.size)
 have hfl := HW1.size
 refine zA3 hfb0 rfl rfl (.agg (zAf rl)) rfl (by kernel_rfl) (by rfl) (zAU _) fun W2 hbs0 hts0 => ?_
 have HV0 := HW3.trans (hts0.below (by omega))
 have HL2 := zz (hbs0.eqv (cs' := zAf rl) (by simp [zAv,zAf,Value.cells]))
 refine zBx rfl rfl (by go_simp;with_reducible rfl) ?_;simp only [pT]
 refine zBc ?_
 have HW2 := HV0
 obtain ⟨l2,hj0⟩ : ∃ j,W1.heap.size = j := ⟨_,rfl⟩
 simp only [hj0] at HL2 ⊢
 clear hfb0 hbs0 hts0 HV0 hfl HW1 HW3 hj0
 replace HB0 := zz (HB0.out.trans (HW2.mono HB0.out.size))
 replace HWB := zz (HWB.out.belowAll HW2)
 replace HSB := zz (HSB.out.belowAll HW2)
 replace HJ1 := zz (HJ1.out.belowAll HW2)
 replace HJ2 := zz (HJ2.out.belowAll HW2)
 replace HL1 := zz (HL1.out.belowAll HW2)
 clear HW2
 go_upto_region 8 with (fail)
 refine rgQ [0,1,2,3,4,5,6] [7,8,9,10,11] ?_
 refine zAm (v := _) rfl rfl (fun W hW => zAd _ (HWB.out.belowAll hW) rfl (zAe _) Tryz.underlying25) ?_;simp only [pT]
 refine zAm (v := _) rfl rfl (fun W hW => zAd _ (HSB.out.belowAll hW) rfl (zAe _) Tryz.underlying59) ?_;simp only [pT]
 refine zAL _ _ _ rfl rfl (fun W => by go_simp;try with_reducible rfl) (DE1.out.moved HB0.out) ?_;simp only [pT]
 iterate 4 (refine wD rfl rfl ?_;simp only [pT])
 intro W1 HW1
 refine zBk [60,61,62,59] fun u => ?_;simp only [zAD,pT]
 refine zCD (T := 29) (cs := #[.int .i64 0, .int .i64 0, .int .i64 0]) rfl (by kernel_rfl) ?_;simp only [zBm,World.size_alloc,pT]
 have hfb0 := zAc.new W1 29 #[.int .i64 0, .int .i64 0, .int .i64 0]
 refine zCD (T := 29) (cs := #[.int .i64 0, .int .i64 0, .int .i64 0]) rfl (by kernel_rfl) ?_;simp only [zBm,World.size_alloc,pT]
 have hfb1 := zAc.new (W1.alloc (.cells #[.int .i64 0, .int .i64 0, .int .i64 0] 29)) 29 #[.int .i64 0, .int .i64 0, .int .i64 0]
 replace hfb0 := hfb0.alloc (.cells #[.int .i64 0, .int .i64 0, .int .i64 0] 29)
 simp only [World.size_alloc] at hfb1
 have HW3 := HW1.trans ((((Below.refl W1.heap.size W1).alloc (Nat.le_refl _) (.cells #[.int .i64 0, .int .i64 0, .int .i64 0] 29)).alloc (by simp only [World.size_alloc];omega) (.cells #[.int .i64 0, .int .i64 0, .int .i64 0] 29)).mono HW1.size)
 have hfl := HW1.size
 refine zA3 hfb0 rfl rfl (.agg (zAh ra)) rfl (by kernel_rfl) (by rfl) (zAG _) fun WS0 hbs0 hts0 => ?_
 replace hfb1 := hfb1.turn hts0 (by omega)
 have HV0 := HW3.trans (hts0.below (by omega))
 refine zA3 hfb1 rfl rfl (.agg (zAh rb)) rfl (by kernel_rfl) (by rfl) (zAG _) fun W2 hbs1 hts1 => ?_
 replace hbs0 := hbs0.turn hts1 (by omega)
 have HV1 := HV0.trans (hts1.below (by omega))
 have Ha1 := zz (hbs0.eqv (cs' := zAh ra) (by simp [zAv,zAh,Value.cells]))
 have Hb1 := zz (hbs1.eqv (cs' := zAh rb) (by simp [zAv,zAh,Value.cells]))
 refine zBx rfl rfl (by go_simp;with_reducible rfl) ?_;simp only [pT]
 refine zBc ?_
 have HW2 := HV1
 obtain ⟨a1,hj0⟩ : ∃ j,W1.heap.size = j := ⟨_,rfl⟩
 simp only [hj0] at Ha1 ⊢
 simp only [hj0] at Hb1
 clear hfb0 hbs0 hts0 HV0 hfb1 hbs1 hts1 HV1 hfl HW1 HW3 hj0
 replace HB0 := zz (HB0.out.trans (HW2.mono HB0.out.size))
 replace HWB := zz (HWB.out.belowAll HW2)
 replace HSB := zz (HSB.out.belowAll HW2)
 replace HJ1 := zz (HJ1.out.belowAll HW2)
 replace HJ2 := zz (HJ2.out.belowAll HW2)
 replace HL1 := zz (HL1.out.belowAll HW2)
 replace HL2 := zz (HL2.out.belowAll HW2)
 clear HW2
 go_upto_region 9 with (fail)
 refine rgQ [0,1,2,3,4,5,6] [7,8,9,10,11] ?_
 refine zAm (v := _) rfl rfl (fun W hW => zAd _ (HWB.out.belowAll hW) rfl (zAe _) Tryz.underlying25) ?_;simp only [pT]
 refine zAm (v := _) rfl rfl (fun W hW => zAd _ (HSB.out.belowAll hW) rfl (zAe _) Tryz.underlying59) ?_;simp only [pT]
 refine zAL _ _ _ rfl rfl (fun W => by go_simp;try with_reducible rfl) (DE2.out.moved HB0.out) ?_;simp only [pT]
 iterate 4 (refine wD rfl rfl ?_;simp only [pT])
 intro W1 HW1
 refine zBk [67,68,69,66] fun u => ?_;simp only [zAD,pT]
 refine zCD (T := 29) (cs := #[.int .i64 0, .int .i64 0, .int .i64 0]) rfl (by kernel_rfl) ?_;simp only [zBm,World.size_alloc,pT]
 have hfb0 := zAc.new W1 29 #[.int .i64 0, .int .i64 0, .int .i64 0]
 refine zCD (T := 29) (cs := #[.int .i64 0, .int .i64 0, .int .i64 0]) rfl (by kernel_rfl) ?_;simp only [zBm,World.size_alloc,pT]
 have hfb1 := zAc.new (W1.alloc (.cells #[.int .i64 0, .int .i64 0, .int .i64 0] 29)) 29 #[.int .i64 0, .int .i64 0, .int .i64 0]
 replace hfb0 := hfb0.alloc (.cells #[.int .i64 0, .int .i64 0, .int .i64 0] 29)
 simp only [World.size_alloc] at hfb1
 have HW3 := HW1.trans ((((Below.refl W1.heap.size W1).alloc (Nat.le_refl _) (.cells #[.int .i64 0, .int .i64 0, .int .i64 0] 29)).alloc (by simp only [World.size_alloc];omega) (.cells #[.int .i64 0, .int .i64 0, .int .i64 0] 29)).mono HW1.size)
 have hfl := HW1.size
 refine zA3 hfb0 rfl rfl (.agg (zAh ra)) rfl (by kernel_rfl) (by rfl) (zAG _) fun WS0 hbs0 hts0 => ?_
 replace hfb1 := hfb1.turn hts0 (by omega)
 have HV0 := HW3.trans (hts0.below (by omega))
 refine zA3 hfb1 rfl rfl (.agg (zAh rb)) rfl (by kernel_rfl) (by rfl) (zAG _) fun W2 hbs1 hts1 => ?_
 replace hbs0 := hbs0.turn hts1 (by omega)
 have HV1 := HV0.trans (hts1.below (by omega))
 have Ha2 := zz (hbs0.eqv (cs' := zAh ra) (by simp [zAv,zAh,Value.cells]))
 have Hb2 := zz (hbs1.eqv (cs' := zAh rb) (by simp [zAv,zAh,Value.cells]))
 refine zBx rfl rfl (by go_simp;with_reducible rfl) ?_;simp only [pT]
 refine zBc ?_
 have HW2 := HV1
 obtain ⟨a2,hj0⟩ : ∃ j,W1.heap.size = j := ⟨_,rfl⟩
 simp only [hj0] at Ha2 ⊢
 simp only [hj0] at Hb2
 clear hfb0 hbs0 hts0 HV0 hfb1 hbs1 hts1 HV1 hfl HW1 HW3 hj0
 replace HB0 := zz (HB0.out.trans (HW2.mono HB0.out.size))
 replace HWB := zz (HWB.out.belowAll HW2)
 replace HSB := zz (HSB.out.belowAll HW2)
 replace HJ1 := zz (HJ1.out.belowAll HW2)
 replace HJ2 := zz (HJ2.out.belowAll HW2)
 replace HL1 := zz (HL1.out.belowAll HW2)
 replace HL2 := zz (HL2.out.belowAll HW2)
 replace Ha1 := zz (Ha1.out.belowAll HW2)
 replace Hb1 := zz (Hb1.out.belowAll HW2)
 clear HW2
 go_upto_region 10 with (fail)
 refine rgQ [0,1,2,3,4,5,6,7] [] ?_
 refine zAm (v := _) rfl rfl (fun W hW => zAd _ (HWB.out.belowAll hW) rfl (zAe _) Tryz.underlying25) ?_;simp only [pT]
 refine zAm (v := _) rfl rfl (fun W hW => zAd _ (HSB.out.belowAll hW) rfl (zAe _) Tryz.underlying59) ?_;simp only [pT]
 refine zAL _ _ _ rfl rfl (fun W => by go_simp;try with_reducible rfl) (DF1.out.moved HB0.out) ?_;simp only [pT]
 iterate 5 (refine wD rfl rfl ?_;simp only [pT])
 intro W1 HW1
 refine zBk [74,75,76,73,77,78] fun u => ?_;simp only [zAD,pT]
 refine zBc ?_
 replace HB0 := zz (HB0.out.trans (HW1.mono HB0.out.size))
 replace HWB := zz (HWB.out.belowAll HW1)
 replace HSB := zz (HSB.out.belowAll HW1)
 replace HJ1 := zz (HJ1.out.belowAll HW1)
 replace HJ2 := zz (HJ2.out.belowAll HW1)
 replace HL1 := zz (HL1.out.belowAll HW1)
 replace HL2 := zz (HL2.out.belowAll HW1)
 replace Ha1 := zz (Ha1.out.belowAll HW1)
 replace Hb1 := zz (Hb1.out.belowAll HW1)
 replace Ha2 := zz (Ha2.out.belowAll HW1)
 replace Hb2 := zz (Hb2.out.belowAll HW1)
 clear HW1
 go_upto_region 11 with (fail)
 refine rgQ [0,1,2,3,4,5,6,7] [] ?_
 refine zAm (v := _) rfl rfl (fun W hW => zAd _ (HWB.out.belowAll hW) rfl (zAe _) Tryz.underlying25) ?_;simp only [pT]
 refine zAm (v := _) rfl rfl (fun W hW => zAd _ (HSB.out.belowAll hW) rfl (zAe _) Tryz.underlying59) ?_;simp only [pT]
 refine zAL _ _ _ rfl rfl (fun W => by go_simp;try with_reducible rfl) (DF2.out.moved HB0.out) ?_;simp only [pT]
 iterate 5 (refine wD rfl rfl ?_;simp only [pT])
 intro W1 HW1
 refine zBk [80,81,82,79,83,84] fun u => ?_;simp only [zAD,pT]
 refine zBc ?_
 replace HB0 := zz (HB0.out.trans (HW1.mono HB0.out.size))
 replace HWB := zz (HWB.out.belowAll HW1)
 replace HSB := zz (HSB.out.belowAll HW1)
 replace HJ1 := zz (HJ1.out.belowAll HW1)
 replace HJ2 := zz (HJ2.out.belowAll HW1)
 replace HL1 := zz (HL1.out.belowAll HW1)
 replace HL2 := zz (HL2.out.belowAll HW1)
 replace Ha1 := zz (Ha1.out.belowAll HW1)
 replace Hb1 := zz (Hb1.out.belowAll HW1)
 replace Ha2 := zz (Ha2.out.belowAll HW1)
 replace Hb2 := zz (Hb2.out.belowAll HW1)
 clear HW1
 clear DJ1 DJ2 DL1 DL2 DE1 DE2 DF1 DF2
 go_upto_region 14 with (first
  | ((with_reducible refine zAk 86 ?_);refine zAj HWB.out rfl 25 _ rfl rfl #[.slice sj.a sj.val.length sj.cap, .slice sl.a sl.val.length sl.cap] (zAe _) Tryz.underlying25 ?_)
  | ((with_reducible refine zAk 92 ?_);refine zAj HWB2.out rfl 25 _ rfl rfl #[.slice sj.a sj.val.length sj.cap, .slice sl.a sl.val.length sl.cap] (zAe _) Tryz.underlying25 ?_)
  | (go_at_call 59;refine (DA1.out _ HB0.out).mono ?_;rintro e w1 ⟨v1,rfl,ho1,hb1⟩;have HO1 := zz ho1;have HE1 := zz hb1;have HWB2 := zz (HWB.out.belowAll hb1);have HB2 := zz (HB0.out.trans (hb1.mono HB0.out.size));clear ho1 hb1)
  | (go_at_call 60;refine (DA2.out _ HB2.out).mono ?_;rintro e w2 ⟨v2,rfl,ho2,hb2⟩;have HO2 := zz ho2;have HE2 := zz (HE1.out.trans (hb2.mono HE1.out.size));replace HO1 := zz (HO1.out.belowAll hb2);clear ho2 hb2))
 replace HJ1 := zz (HJ1.out.belowAll HE2.out)
 replace HJ2 := zz (HJ2.out.belowAll HE2.out)
 replace HL1 := zz (HL1.out.belowAll HE2.out)
 replace HL2 := zz (HL2.out.belowAll HE2.out)
 replace Ha1 := zz (Ha1.out.belowAll HE2.out)
 replace Hb1 := zz (Hb1.out.belowAll HE2.out)
 replace Ha2 := zz (Ha2.out.belowAll HE2.out)
 replace Hb2 := zz (Hb2.out.belowAll HE2.out)
 replace HB0 := zz (HB0.out.trans (HE2.out.mono HB0.out.size))
 have hlo := HLO.out
 obtain ⟨s1,rfl,e1,k1,_⟩ := HO1.out.sl (fun _ => rfl) (fun _ _ _ => True) (fun _ => False) (fun _ _ => trivial) (fun _ _ h => h) (by omega)
 obtain ⟨s2,rfl,e2,k2,_⟩ := HO2.out.sl (fun _ => rfl) (fun _ _ _ => True) (fun _ => False) (fun _ _ => trivial) (fun _ _ h => h) (by omega)
 have hss := sides_det s1 s2 w2 k1 k2 (fun _ _ _ h => h) (fun _ _ _ h => h)
 rw [e1,e2,decide_eq_true rfl] at hss
 have HLN : Hid (s1.val.length = s2.val.length) := zz (by rw [e1,e2])
 have HSS := zz hss
 simp only [Sl.v,e1,e2]
 clear hlo hss e1 e2 k1 k2 HO1 HO2 HLO
 refine rgQ [0,1,2,3,4,5,6,7,8,9,10,11,12,13,14,15,16,17,18,19,20,21,22,23,24,25,26,27,28,29,30,31,32] [] ?_
 refine zAm (v := _) rfl rfl (fun W hW => zAd _ (HJ1.out.belowAll hW) rfl (zAe _) Tryz.underlying29) ?_;simp only [pT]
 refine zAm (v := _) rfl rfl (fun W hW => zAd _ (HJ2.out.belowAll hW) rfl (zAe _) Tryz.underlying29) ?_;simp only [pT]
 refine zAm (v := .bool false) rfl rfl (fun W hW => by go_simp;try simp [zDe]) ?_;simp only [pT]
 (refine wD rfl rfl ?_;simp only [pT])
 iterate 2 (refine wI rfl rfl ?_;simp only [pT])
 refine zAH (v := .bool false) rfl rfl (fun hg W hW => by (try simp only [Bool.and_eq_true] at hg);(try simp only [hg,Bool.and_self,zAJ]);go_simp;try simp [zDe]) ?_;simp only [pT]
 refine zB7 rfl rfl rfl ?_;simp only [pT]
 (refine wD rfl rfl ?_;simp only [pT])
 refine zAH (v := _) rfl rfl (fun hg W hW => zAd _ (HL1.out.belowAll hW) rfl (zAe _) Tryz.underlying31) ?_;simp only [pT]
 refine zAH (v := _) rfl rfl (fun hg W hW => zAd _ (HL2.out.belowAll hW) rfl (zAe _) Tryz.underlying31) ?_;simp only [pT]
 refine zAH (v := .bool false) rfl rfl (fun hg W hW => by (try simp only [Bool.and_eq_true] at hg);(try simp only [hg,Bool.and_self,zAJ]);go_simp;try simp [zFc]) ?_;simp only [pT]
 refine zB7 rfl rfl rfl ?_;simp only [pT]
 (refine wD rfl rfl ?_;simp only [pT])
 iterate 2 (refine wI rfl rfl ?_;simp only [pT])
 refine zAH (v := .bool false) rfl rfl (fun hg W hW => by (try simp only [Bool.and_eq_true] at hg);(try simp only [hg,Bool.and_self,zAJ]);go_simp;try simp [zFc]) ?_;simp only [pT]
 refine zB7 rfl rfl rfl ?_;simp only [pT]
 (refine wD rfl rfl ?_;simp only [pT])
 refine zAH (v := _) rfl rfl (fun hg W hW => zAd _ (Ha1.out.belowAll hW) rfl (zAe _) Tryz.underlying29) ?_;simp only [pT]
 refine zAH (v := _) rfl rfl (fun hg W hW => zAd _ (Ha2.out.belowAll hW) rfl (zAe _) Tryz.underlying29) ?_;simp only [pT]
 refine zAH (v := .bool false) rfl rfl (fun hg W hW => by (try simp only [Bool.and_eq_true] at hg);(try simp only [hg,Bool.and_self,zAJ]);go_simp;try simp [zDe]) ?_;simp only [pT]
 refine zB7 rfl rfl rfl ?_;simp only [pT]
 (refine wD rfl rfl ?_;simp only [pT])
 refine zAH (v := _) rfl rfl (fun hg W hW => zAd _ (Hb1.out.belowAll hW) rfl (zAe _) Tryz.underlying29) ?_;simp only [pT]
 refine zAH (v := _) rfl rfl (fun hg W hW => zAd _ (Hb2.out.belowAll hW) rfl (zAe _) Tryz.underlying29) ?_;simp only [pT]
 refine zAH (v := .bool false) rfl rfl (fun hg W hW => by (try simp only [Bool.and_eq_true] at hg);(try simp only [hg,Bool.and_self,zAJ]);go_simp;try simp [zDe]) ?_;simp only [pT]
 refine zB7 rfl rfl rfl ?_;simp only [pT]
 (refine wD rfl rfl ?_;simp only [pT])
 iterate 2 (refine wI rfl rfl ?_;simp only [pT])
 refine zAH (v := .bool false) rfl rfl (fun hg W hW => by (try simp only [Bool.and_eq_true] at hg);(try simp only [hg,Bool.and_self,zAJ]);go_simp;try simp [zDe]) ?_;simp only [pT]
 refine zB7 rfl rfl rfl ?_;simp only [pT]
 intro W1 HW1
 refine zBk [97,98,99,100,101,102,103,104,105,106,107,108,109,110,111,112,113,114,115,116,117,118,119,120,121,122,123,124,125,126,127,128] fun u => ?_;simp only [zAD,pT]
 refine zBc ?_
 replace HB0 := zz (HB0.out.trans (HW1.mono HB0.out.size))
 have HSS := zz (HSS.out.moved HW1)
 clear HW1
 go_upto_region 16 with (fail)
 refine rgQ [0,1,2,3,4,5,6,7,8,9,10,11,12,13,14,15,16,17,18,19,20,21] [] ?_
 iterate 2 (refine wD rfl rfl ?_;simp only [pT])
 iterate 3 (refine wI rfl rfl ?_;simp only [pT])
 refine zCb rfl rfl rfl ?_;simp only [pT]
 (refine wD rfl rfl ?_;simp only [pT])
 iterate 3 (refine wI rfl rfl ?_;simp only [pT])
 refine zCb rfl rfl rfl ?_;simp only [pT]
 (refine wD rfl rfl ?_;simp only [pT])
 iterate 2 (refine wI rfl rfl ?_;simp only [pT])
 refine zBy _ _ _ rfl rfl (fun hg W => by go_simp;try with_reducible rfl) (fun hg => HSS.out.moved (Below.refl _ _)) ?_;simp only [pT]
 refine zCb rfl rfl rfl ?_;simp only [pT]
 (refine wD rfl rfl ?_;simp only [pT])
 iterate 3 (refine wI rfl rfl ?_;simp only [pT])
 refine zCb rfl rfl rfl ?_;simp only [pT]
 (refine wD rfl rfl ?_;simp only [pT])
 intro W1 HW1
 refine zBk [130,131,132,133,134,135,136,137,138,139,140,141,142,143,144,145,146,147,148,149,150] fun u => ?_;simp only [zAD,pT]
 refine zBc ?_
 replace HB0 := zz (HB0.out.trans (HW1.mono HB0.out.size))
 clear HW1
 go_wp2
 go_ret
 exact ⟨by simp,HB0.out⟩
theorem looks_big (a1 a2 : Option Addr) (n c1 m c2 : Nat) (id : Int) (s : Side) (w : World) (hf : fewB n m = false) :
  Calls Tryz.prog 11 #[.agg #[.slice a1 n c1, .slice a2 m c2], .int .i64 id, .agg (zAa s)] w fun e w' => e = .returned (.bool true) ∧ Below w.heap.size w w' := by
 have HF := zz (few_det a1 a2 n c1 m c2 w)
 rw [hf] at HF
 have HB0 : Hid (Below w.heap.size w ((w.alloc (.cells #[.slice a1 n c1, .slice a2 m c2] 25)).alloc (.cells (zAa s) 59))) := zz ((((Lays.refl w).alloc _).alloc _).below (Nat.le_refl _))
 have HWB : Hid (zAc ((w.alloc (.cells #[.slice a1 n c1, .slice a2 m c2] 25)).alloc (.cells (zAa s) 59)) (w.heap.size) 25 #[.slice a1 n c1, .slice a2 m c2]) := zz ((zAc.new w 25 #[.slice a1 n c1, .slice a2 m c2]).alloc _)
 have HSB : Hid (zAc ((w.alloc (.cells #[.slice a1 n c1, .slice a2 m c2] 25)).alloc (.cells (zAa s) 59)) (w.heap.size + 1) 59 (zAa s)) := zz (by have := zAc.new (w.alloc (.cells #[.slice a1 n c1, .slice a2 m c2] 25)) 59 (zAa s);simpa only [World.size_alloc] using this : zAc _ _ _ _)
 clear hf
 go_enter Tryz.func11,Tryz.ntmps11
 go_wp2_with (first
  | (go_at_call 13;refine (zDC _).mono ?_;rintro e w1 ⟨rfl,hb1⟩;replace HWB := zz (HWB.out.belowAll hb1);replace HSB := zz (HSB.out.belowAll hb1);replace HB0 := zz (HB0.out.trans (hb1.mono HB0.out.size));clear hb1)
  | ((with_reducible refine zAk 31 ?_);refine zAj HWB.out rfl 25 _ rfl rfl #[.slice a1 n c1, .slice a2 m c2] (zAe _) Tryz.underlying25 ?_)
  | (go_at_call 17;refine (HF.out _ HB0.out).mono ?_;rintro e w1 ⟨rfl,hb1⟩;replace HB0 := zz (HB0.out.trans (hb1.mono HB0.out.size));clear hb1))
 go_ret
 exact ⟨rfl,HB0.out⟩
end Go.Proofs.YtbbblemfodpmaaaGreat
