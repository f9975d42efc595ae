/-
  WebWalks answers true.
  WebWalks answers true: the law.
-/
import Derived.Test.YtbbblemfodpmaaaGreatWebHb
import Derived.Test.YtbbblemfodpmaaaGreatWebLaw1
set_option linter.unusedVariables false
set_option linter.unusedSimpArgs false
set_option maxHeartbeats 16000000
set_option maxRecDepth 100000
section
namespace Go.Proofs.YtbbblemfodpmaaaGreat
open Go.RowKit
theorem pro2 (w : World) (c d : Array Value) (s t : TypeId) : Hid (Below w.heap.size w ((w.alloc (.cells c s)).alloc (.cells d t))) ∧ Hid (zAc ((w.alloc (.cells c s)).alloc (.cells d t)) w.heap.size s c) ∧ Hid (zAc ((w.alloc (.cells c s)).alloc (.cells d t)) (w.heap.size + 1) t d) :=
 ⟨zz ((((Lays.refl w).alloc _).alloc _).below (Nat.le_refl _)),zz ((zAc.new w s c).alloc _),zz (by have := zAc.new (w.alloc (.cells c s)) t d;simpa only [World.size_alloc] using this)⟩
theorem Next_det (sj : Sl Joint) (sl : Sl Lead) (s : Side) (w : World) (hj : sj.OK 3 zAi zAs (fun _ => False) w) (hl : sl.OK 8 zAf zAw (fun _ => False) w) (hi : I64 s.lead) :
  Det 31 #[.agg #[.slice sj.a sj.val.length sj.cap, .slice sl.a sl.val.length sl.cap], .agg (zAa s)] (.tuple #[.agg (zAa (nextO sj.val sl.val s)), .int .i64 (zAT sj.val sl.val s)]) w := fun W hW => by
 by_cases h0 : zAT sj.val sl.val s = 0
 ·rw [h0];unfold nextO;rw [if_pos h0];exact Next_ok sj sl s W (hj.jmoved hW) (hl.lmoved hW) hi h0
 ·unfold nextO;rw [if_neg h0];exact Next_bad sj sl s W (hj.jmoved hW) (hl.lmoved hW) hi h0
theorem Prior_det (sj : Sl Joint) (sl : Sl Lead) (s : Side) (w : World) (hj : sj.OK 3 zAi zAs (fun _ => False) w) (hl : sl.OK 8 zAf zAw (fun _ => False) w) (hi : I64 s.lead) :
  Det 33 #[.agg #[.slice sj.a sj.val.length sj.cap, .slice sl.a sl.val.length sl.cap], .agg (zAa s)] (.tuple #[.agg (zAa (zEZ sj.val sl.val s)), .int .i64 (zAT sj.val sl.val s)]) w := fun W hW => by
 by_cases h0 : zAT sj.val sl.val s = 0
 ·rw [h0];unfold zEZ;rw [if_pos h0];exact Prior_ok sj sl s W (hj.jmoved hW) (hl.lmoved hW) hi h0
 ·unfold zEZ;rw [if_neg h0];exact Prior_bad sj sl s W (hj.jmoved hW) (hl.lmoved hW) hi h0
theorem Area_det (sj : Sl Joint) (sl : Sl Lead) (s : Side) (w : World) (hj : sj.OK 3 zAi zAs (fun _ => False) w) (hl : sl.OK 8 zAf zAw (fun _ => False) w) (hi : I64 s.lead) :
  Det 37 #[.agg #[.slice sj.a sj.val.length sj.cap, .slice sl.a sl.val.length sl.cap], .agg (zAa s)] (.tuple #[.int .i64 (areaO sj.val sl.val s), .int .i64 (zAT sj.val sl.val s)]) w := fun W hW => by
 by_cases h0 : zAT sj.val sl.val s = 0
 ·rw [h0];unfold areaO;rw [if_pos h0];exact Area_ok sj sl s W (hj.jmoved hW) (hl.lmoved hW) hi h0
 ·unfold areaO;rw [if_neg h0];exact Area_bad sj sl s W (hj.jmoved hW) (hl.lmoved hW) hi h0
theorem Walk_all (sj : Sl Joint) (sl : Sl Lead) (s : Side) (W : World) (hj : sj.OK 3 zAi zAs (fun _ => False) W) (hl : sl.OK 8 zAf zAw (fun _ => False) W) (hi : I64 s.lead) :
  Calls Tryz.prog 35 #[.agg #[.slice sj.a sj.val.length sj.cap, .slice sl.a sl.val.length sl.cap], .agg (zAa s)] W fun e w' => ∃ v,e = .returned (.tuple #[v, .int .i64 (zAT sj.val sl.val s)]) ∧ OwnL zAa 2 w' W.heap.size 59 v (walkO sj.val sl.val s) ∧ Below W.heap.size W w' := by
 by_cases h0 : zAT sj.val sl.val s = 0
 ·rw [h0];unfold walkO;rw [if_pos h0];exact Walk_ok sj sl s W hj hl hi h0
 ·unfold walkO;rw [if_neg h0];exact (Walk_bad sj sl s W hj hl hi h0).mono fun e w' ⟨h1,h2⟩ => ⟨_,h1,OwnL.nil _ _ _ _ _,h2⟩
theorem Walks_all (sj : Sl Joint) (sl : Sl Lead) (W : World) (hj : sj.OK 3 zAi zAs (fun _ => False) W) (hl : sl.OK 8 zAf zAw (fun _ => False) W) :
  Calls Tryz.prog 39 #[.agg #[.slice sj.a sj.val.length sj.cap, .slice sl.a sl.val.length sl.cap]] W fun e w' => ∃ v,e = .returned (.tuple #[v, .int .i64 (zAJ sj.val sl.val).1]) ∧ zA1 w' W.heap.size v (zDx sj.val sl.val) ∧ Below W.heap.size W w' := by
 by_cases h0 : (zAJ sj.val sl.val).1 = 0
 ·rw [h0];unfold zDx;rw [if_pos h0];exact Walks_ok sj sl W hj hl h0
 ·unfold zDx;rw [if_neg h0];exact (Walks_bad sj sl W hj hl h0).mono fun e w' ⟨h1,h2⟩ => ⟨_,h1,zA1.nil _ _,h2⟩
theorem walkO_len (js : List Joint) (ls : List Lead) (s : Side) : (walkO js ls s).length ≤ 800 := by
 unfold walkO
 split
 ·rename_i h;exact zCC (zBK (zA2 h).1) (zCx (zA2 h).2)
 ·simp
theorem walksO_len (js : List Joint) (ls : List Lead) : (zDx js ls).length ≤ 800 ∧ ∀ l ∈ zDx js ls,l.length ≤ 800 := by
 unfold zDx
 split
 ·rename_i h
  have V := zBK h
  have h1 := zDl V (zBz ls) []
  rw [zBT] at h1
  have := V.nl
  refine ⟨by simp only [List.length_nil] at h1;unfold zB5;omega,fun l hl => ?_⟩
  obtain ⟨s,hs,rfl⟩ := V.walks_inv.1 l hl
  exact zCC V hs
 ·simp
theorem zGN (v1 v2 : Value) (N1 N2 : Nat) (L : List (List Side)) (w : World) (h1 : zA1 w N1 v1 L) (h2 : zA1 w N2 v2 L) (hlen : L.length ≤ 800) (hl : ∀ l ∈ L,l.length ≤ 800) :
  Det 42 #[v1,v2] (.bool true) w := fun w0 hw0 => by
 have H1 := zz (h1.belowAll hw0)
 have H2 := zz (h2.belowAll hw0)
 have HB0 : Hid (Below w0.heap.size w0 w0) := zz (Below.refl _ _)
 clear h1 h2 hw0 w
 obtain ⟨w,rfl⟩ : ∃ w,w = w0 := ⟨_,rfl⟩
 obtain ⟨b1,d1,rfl⟩ := H1.out.shape
 obtain ⟨b2,d2,rfl⟩ := H2.out.shape
 have HLL := zz hl
 obtain ⟨n,hn⟩ : ∃ n,L.length = n := ⟨_,rfl⟩
 have HN := zz hn
 simp only [hn] at hlen H1 H2 ⊢
 clear hn hl
 go_enter Tryz.func42,Tryz.ntmps42
 go_wp2
 go_loopw [5] (fun i wr => ∃ k : Nat,k ≤ n ∧ i = .int .i64 k ∧ Hid (Below w.heap.size w wr)) (fun i _ => n - (intOf i).toNat)
 case atStart => exact ⟨0,Nat.zero_le _,rfl,HB0⟩
 case round =>
  obtain ⟨k,hk,rfl,HW⟩ := hrel
  by_cases hlt : k < n
  ·obtain ⟨l,hy⟩ : ∃ y,L[k]? = some y := ⟨_,List.getElem?_eq_getElem (by rw [HN.out];exact hlt)⟩
   obtain ⟨g1,cap1,s1,e1,_,hg1,hc1,hv1,ho1⟩ := H1.out.place hy
   obtain ⟨g2,cap2,s2,e2,_,hg2,hc2,hv2,ho2⟩ := H2.out.place hy
   simp only [HN.out,Value.slice.injEq] at e1 e2
   obtain ⟨rfl,_,rfl⟩ := e1
   obtain ⟨rfl,_,rfl⟩ := e2
   obtain ⟨t1,q1,r1,k1,_⟩ := ho1.sl (fun _ => rfl) (fun _ _ _ => True) (fun _ => False) (fun _ _ => trivial) (fun _ _ h => h) (by have := HLL.out l (List.mem_of_getElem? hy);omega)
   obtain ⟨t2,q2,r2,k2,_⟩ := ho2.sl (fun _ => rfl) (fun _ _ _ => True) (fun _ => False) (fun _ _ => trivial) (fun _ _ h => h) (by have := HLL.out l (List.mem_of_getElem? hy);omega)
   have hss := sides_det t1 t2 w k1 k2 (fun _ _ _ h => h) (fun _ _ _ h => h)
   rw [r1,r2,decide_eq_true rfl] at hss
   obtain ⟨a1,c1,l1⟩ := t1
   obtain ⟨a2,c2,l2⟩ := t2
   simp only at r1 r2 hss
   simp only [Sl.v,r1,r2] at q1 q2
   rw [q1] at hc1
   rw [q2] at hc2
   replace HB0 := HW
   have HSS : Hid (Det 41 #[.slice a1 l.length c1, .slice a2 l.length c2] (.bool true) wr.drew) := zz (hss.moved (HW.out.drew))
   have HC1 : Hid (∀ W,Below wr.drew.heap.size wr.drew W → W.cell? ⟨g1,k,none⟩ = some (.slice a1 l.length c1)) := zz fun W hW => by
    rw [(HW.out.drew.trans (hW.mono HW.out.drew.size)).cell (p := ⟨g1,k,none⟩) hg1];exact hc1
   have HC2 : Hid (∀ W,Below wr.drew.heap.size wr.drew W → W.cell? ⟨g2,k,none⟩ = some (.slice a2 l.length c2)) := zz fun W hW => by
    rw [(HW.out.drew.trans (hW.mono HW.out.drew.size)).cell (p := ⟨g2,k,none⟩) hg2];exact hc2
   clear hy hc1 hc2 hv1 hv2 ho1 ho2 k1 k2 r1 r2 q1 q2 hss HW
   go_upto_region 6 with (fail)
   refine rgD [0,1,2,3,4,5,6,7,8,9] [] (fun _ => (0,#[])) [] ?_
   iterate 3 (refine wD rfl rfl ?_;simp only [pT])
   refine zAm (v := .slice a1 l.length c1) rfl rfl (fun W hW => by have e := HC1.out W hW;go_simp;try with_reducible rfl) ?_;simp only [pT]
   iterate 3 (refine wD rfl rfl ?_;simp only [pT])
   refine zAm (v := .slice a2 l.length c2) rfl rfl (fun W hW => by have e := HC2.out W hW;go_simp;try with_reducible rfl) ?_;simp only [pT]
   refine zAI _ _ _ rfl rfl (fun W => by go_simp;try with_reducible rfl) (HSS.out) ?_;simp only [pT]
   (refine wD rfl rfl ?_;simp only [pT])
   intro f W1 HW1 h1 h2;simp only [zAR];clear h1 h2 f
   refine zAy [17,18,19,20,21,22,23,24,25] fun u => ?_;simp only [zAB,pT]
   simp only [wpS]
   replace HB0 := zz (HB0.out.drew.trans (HW1.mono HB0.out.drew.size))
   clear HW1
   go_wp2
   go_roundw
   case rel => exact ⟨k + 1,by omega,by go_num,HB0⟩
   case measure => simp [intOf];omega
  ·have hkn : k = n := by omega
   subst hkn
   go_wp2
   go_ret
   exact ⟨rfl,HW.out⟩
theorem wwalks_any (sj : Sl Joint) (sl : Sl Lead) (s : Side) (w : World) (hj : sj.OK 3 zAi zAs (fun _ => False) w) (hl : sl.OK 8 zAf zAw (fun _ => False) w) (hs : I64 s.lead) (hf : fewB sj.val.length sl.val.length = true) :
  Calls Tryz.prog 6 #[.agg #[.slice sj.a sj.val.length sj.cap, .slice sl.a sl.val.length sl.cap], .agg (zAa s)] w fun e w' => e = .returned (.bool true) ∧ Below w.heap.size w w' := by
 have HF := zz (few_det sj.a sl.a sj.val.length sj.cap sl.val.length sl.cap w)
 rw [hf] at HF
 have DN1 := zz (Next_det sj sl s w hj hl hs)
 have DN2 : Hid (Det 32 #[.agg #[.slice sj.a sj.val.length sj.cap, .slice sl.a sl.val.length sl.cap], .agg (zAa s)] _ w) := zz fun W hW => rNext_any sj sl s W (hj.jmoved hW) (hl.lmoved hW)
 have DP1 := zz (Prior_det sj sl s w hj hl hs)
 have DP2 : Hid (Det 34 #[.agg #[.slice sj.a sj.val.length sj.cap, .slice sl.a sl.val.length sl.cap], .agg (zAa s)] _ w) := zz fun W hW => rPrior_any sj sl s W (hj.jmoved hW) (hl.lmoved hW)
 have DA1 := zz (Area_det sj sl s w hj hl hs)
 have DA2 : Hid (Det 38 #[.agg #[.slice sj.a sj.val.length sj.cap, .slice sl.a sl.val.length sl.cap], .agg (zAa s)] _ w) := zz fun W hW => rArea_any sj sl s W (hj.jmoved hW) (hl.lmoved hW)
 have DW1 := zz fun (W : World) (hW : Below w.heap.size w W) => Walk_all sj sl s W (hj.jmoved hW) (hl.lmoved hW) hs
 have DW2 := zz fun (W : World) (hW : Below w.heap.size w W) => rWalk_any sj sl s W (hj.jmoved hW) (hl.lmoved hW)
 have DS1 := zz fun (W : World) (hW : Below w.heap.size w W) => Walks_all sj sl W (hj.jmoved hW) (hl.lmoved hW)
 have DS2 := zz fun (W : World) (hW : Below w.heap.size w W) => rWalks_any sj sl W (hj.jmoved hW) (hl.lmoved hW)
 obtain ⟨HB0,HWB,HSB⟩ := pro2 w #[.slice sj.a sj.val.length sj.cap, .slice sl.a sl.val.length sl.cap] (zAa s) 25 59
 have hwl := walkO_len sj.val sl.val s
 have hws := walksO_len sj.val sl.val
 obtain ⟨rn,h1⟩ : ∃ r,nextO sj.val sl.val s = r := ⟨_,rfl⟩
 obtain ⟨rp,h2⟩ : ∃ r,zEZ sj.val sl.val s = r := ⟨_,rfl⟩
 obtain ⟨ra,h3⟩ : ∃ r,areaO sj.val sl.val s = r := ⟨_,rfl⟩
 obtain ⟨wo,h4⟩ : ∃ r,walkO sj.val sl.val s = r := ⟨_,rfl⟩
 obtain ⟨so,h5⟩ : ∃ r,zDx sj.val sl.val = r := ⟨_,rfl⟩
 obtain ⟨es,h6⟩ : ∃ r,zAT sj.val sl.val s = r := ⟨_,rfl⟩
 obtain ⟨ec,h7⟩ : ∃ r,(zAJ sj.val sl.val).1 = r := ⟨_,rfl⟩
 simp only [h1,h2,h3,h4,h5,h6,h7] at DN1 DN2 DP1 DP2 DA1 DA2 DW1 DW2 DS1 DS2 hwl hws
 have HWL := zz hwl
 have HWS := zz hws
 clear h1 h2 h3 h4 h5 h6 h7 hj hl hs hf hwl hws
 go_enter Tryz.func6,Tryz.ntmps6
 go_upto_region 4 with (first
  | (go_at_call 13;refine (awake_any _).mono ?_;rintro e w1 ⟨rfl,hb1⟩;replace HWB := zz (HWB.out.belowAll hb1);replace HSB := zz (HSB.out.belowAll hb1);replace HB0 := hTr HB0 hb1;clear hb1)
  | ((with_reducible refine zAl 27 ?_);refine zAj HWB.out rfl 25 _ rfl rfl #[.slice sj.a sj.val.length sj.cap, .slice sl.a sl.val.length sl.cap] (zAe _) zuC ?_)
  | (go_at_call 17;refine (HF.out _ HB0.out).mono ?_;rintro e w1 ⟨rfl,hb1⟩;replace HWB := zz (HWB.out.belowAll hb1);replace HSB := zz (HSB.out.belowAll hb1);replace HB0 := hTr HB0 hb1;clear hb1))
 go_upto_region 4 with (fail)
 refine rgQ [0,1,2,3,4,5] [6,7,8] ?_
 refine zAm (v := _) rfl rfl (fun W hW => zAd _ (HWB.out.belowAll hW) rfl (zAe _) zuC) ?_;simp only [pT]
 refine zAm (v := _) rfl rfl (fun W hW => zAd _ (HSB.out.belowAll hW) rfl (zAe _) zuA) ?_;simp only [pT]
 refine zAI _ _ _ rfl rfl (fun W => by go_simp;try with_reducible rfl) (DN1.out.moved HB0.out) ?_;simp only [pT]
 iterate 3 (refine wD rfl rfl ?_;simp only [pT])
 intro W1 HW1
 refine zA3 [32,33,34,31] fun u => ?_;simp only [zAB,pT]
 refine zCW (T := 59) (cs := #[.int .i64 0, .bool false]) rfl (by kernel_rfl) ?_;simp only [zBk,World.size_alloc,pT]
 have hfb0 := zAc.new W1 59 #[.int .i64 0, .bool false]
 have HW3 := HW1.trans (((Below.refl W1.heap.size W1).alloc (Nat.le_refl _) (.cells #[.int .i64 0, .bool false] 59)).mono HW1.size)
 have hfl := HW1.size
 refine zBA hfb0 rfl rfl (.agg (zAa rn)) rfl (by kernel_rfl) (by rfl) (zAo _) fun W2 hbs0 hts0 => ?_
 have HV0 := HW3.trans (hts0.below (by omega))
 have HN1 := zz (hbs0.eqv (cs' := zAa rn) (by simp [zAz,zAa,Value.cells]))
 refine zDn rfl rfl (by go_simp;with_reducible rfl) ?_;simp only [pT]
 refine zBh ?_
 have HW2 := HV0
 obtain ⟨j1,hj0⟩ : ∃ j,W1.heap.size = j := ⟨_,rfl⟩
 simp only [hj0] at HN1 ⊢
 clear hfb0 hbs0 hts0 HV0 hfl HW1 HW3 hj0
 replace HB0 := hTr HB0 HW2
 replace HWB := zz (HWB.out.belowAll HW2)
 replace HSB := zz (HSB.out.belowAll HW2)
 clear HW2
 go_upto_region 5 with (fail)
 refine rgQ [0,1,2,3,4,5] [6,7,8] ?_
 refine zAm (v := _) rfl rfl (fun W hW => zAd _ (HWB.out.belowAll hW) rfl (zAe _) zuC) ?_;simp only [pT]
 refine zAm (v := _) rfl rfl (fun W hW => zAd _ (HSB.out.belowAll hW) rfl (zAe _) zuA) ?_;simp only [pT]
 refine zAI _ _ _ rfl rfl (fun W => by go_simp;try with_reducible rfl) (DN2.out.moved HB0.out) ?_;simp only [pT]
 iterate 3 (refine wD rfl rfl ?_;simp only [pT])
 intro W1 HW1
 refine zA3 [38,39,40,37] fun u => ?_;simp only [zAB,pT]
 refine zCW (T := 59) (cs := #[.int .i64 0, .bool false]) rfl (by kernel_rfl) ?_;simp only [zBk,World.size_alloc,pT]
 have hfb0 := zAc.new W1 59 #[.int .i64 0, .bool false]
 have HW3 := HW1.trans (((Below.refl W1.heap.size W1).alloc (Nat.le_refl _) (.cells #[.int .i64 0, .bool false] 59)).mono HW1.size)
 have hfl := HW1.size
 refine zBA hfb0 rfl rfl (.agg (zAa rn)) rfl (by kernel_rfl) (by rfl) (zAo _) fun W2 hbs0 hts0 => ?_
 have HV0 := HW3.trans (hts0.below (by omega))
 have HN2 := zz (hbs0.eqv (cs' := zAa rn) (by simp [zAz,zAa,Value.cells]))
 refine zDn rfl rfl (by go_simp;with_reducible rfl) ?_;simp only [pT]
 refine zBh ?_
 have HW2 := HV0
 obtain ⟨j2,hj0⟩ : ∃ j,W1.heap.size = j := ⟨_,rfl⟩
 simp only [hj0] at HN2 ⊢
 clear hfb0 hbs0 hts0 HV0 hfl HW1 HW3 hj0
 replace HB0 := hTr HB0 HW2
 replace HWB := zz (HWB.out.belowAll HW2)
 replace HSB := zz (HSB.out.belowAll HW2)
 replace HN1 := zz (HN1.out.belowAll HW2)
 clear HW2
 go_upto_region 6 with (fail)
 refine rgQ [0,1,2,3,4,5] [6,7,8] ?_
 refine zAm (v := _) rfl rfl (fun W hW => zAd _ (HWB.out.belowAll hW) rfl (zAe _) zuC) ?_;simp only [pT]
 refine zAm (v := _) rfl rfl (fun W hW => zAd _ (HSB.out.belowAll hW) rfl (zAe _) zuA) ?_;simp only [pT]
 refine zAI _ _ _ rfl rfl (fun W => by go_simp;try with_reducible rfl) (DP1.out.moved HB0.out) ?_;simp only [pT]
 iterate 3 (refine wD rfl rfl ?_;simp only [pT])
 intro W1 HW1
 refine zA3 [44,45,46,43] fun u => ?_;simp only [zAB,pT]
 refine zCW (T := 59) (cs := #[.int .i64 0, .bool false]) rfl (by kernel_rfl) ?_;simp only [zBk,World.size_alloc,pT]
 have hfb0 := zAc.new W1 59 #[.int .i64 0, .bool false]
 have HW3 := HW1.trans (((Below.refl W1.heap.size W1).alloc (Nat.le_refl _) (.cells #[.int .i64 0, .bool false] 59)).mono HW1.size)
 have hfl := HW1.size
 refine zBA hfb0 rfl rfl (.agg (zAa rp)) rfl (by kernel_rfl) (by rfl) (zAo _) fun W2 hbs0 hts0 => ?_
 have HV0 := HW3.trans (hts0.below (by omega))
 have HP1 := zz (hbs0.eqv (cs' := zAa rp) (by simp [zAz,zAa,Value.cells]))
 refine zDn rfl rfl (by go_simp;with_reducible rfl) ?_;simp only [pT]
 refine zBh ?_
 have HW2 := HV0
 obtain ⟨j3,hj0⟩ : ∃ j,W1.heap.size = j := ⟨_,rfl⟩
 simp only [hj0] at HP1 ⊢
 clear hfb0 hbs0 hts0 HV0 hfl HW1 HW3 hj0
 replace HB0 := hTr HB0 HW2
 replace HWB := zz (HWB.out.belowAll HW2)
 replace HSB := zz (HSB.out.belowAll HW2)
 replace HN1 := zz (HN1.out.belowAll HW2)
 replace HN2 := zz (HN2.out.belowAll HW2)
 clear HW2
 go_upto_region 7 with (fail)
 refine rgQ [0,1,2,3,4,5] [6,7,8] ?_
 refine zAm (v := _) rfl rfl (fun W hW => zAd _ (HWB.out.belowAll hW) rfl (zAe _) zuC) ?_;simp only [pT]
 refine zAm (v := _) rfl rfl (fun W hW => zAd _ (HSB.out.belowAll hW) rfl (zAe _) zuA) ?_;simp only [pT]
 refine zAI _ _ _ rfl rfl (fun W => by go_simp;try with_reducible rfl) (DP2.out.moved HB0.out) ?_;simp only [pT]
 iterate 3 (refine wD rfl rfl ?_;simp only [pT])
 intro W1 HW1
 refine zA3 [50,51,52,49] fun u => ?_;simp only [zAB,pT]
 refine zCW (T := 59) (cs := #[.int .i64 0, .bool false]) rfl (by kernel_rfl) ?_;simp only [zBk,World.size_alloc,pT]
 have hfb0 := zAc.new W1 59 #[.int .i64 0, .bool false]
 have HW3 := HW1.trans (((Below.refl W1.heap.size W1).alloc (Nat.le_refl _) (.cells #[.int .i64 0, .bool false] 59)).mono HW1.size)
 have hfl := HW1.size
 refine zBA hfb0 rfl rfl (.agg (zAa rp)) rfl (by kernel_rfl) (by rfl) (zAo _) fun W2 hbs0 hts0 => ?_
 have HV0 := HW3.trans (hts0.below (by omega))
 have HP2 := zz (hbs0.eqv (cs' := zAa rp) (by simp [zAz,zAa,Value.cells]))
 refine zDn rfl rfl (by go_simp;with_reducible rfl) ?_;simp only [pT]
 refine zBh ?_
 have HW2 := HV0
 obtain ⟨j4,hj0⟩ : ∃ j,W1.heap.size = j := ⟨_,rfl⟩
 simp only [hj0] at HP2 ⊢
 clear hfb0 hbs0 hts0 HV0 hfl HW1 HW3 hj0
 replace HB0 := hTr HB0 HW2
 replace HWB := zz (HWB.out.belowAll HW2)
 replace HSB := zz (HSB.out.belowAll HW2)
 replace HN1 := zz (HN1.out.belowAll HW2)
 replace HN2 := zz (HN2.out.belowAll HW2)
 replace HP1 := zz (HP1.out.belowAll HW2)
 clear HW2
 go_upto_region 9 with (first
  | ((with_reducible refine zAl 56 ?_);refine zAj HWB.out rfl 25 _ rfl rfl #[.slice sj.a sj.val.length sj.cap, .slice sl.a sl.val.length sl.cap] (zAe _) zuC ?_)
  | ((with_reducible refine zAl 57 ?_);refine zAj HSB.out rfl 59 _ rfl rfl (zAa s) (zAe _) zuA ?_)
  | (go_at_call 35;refine (DW1.out _ HB0.out).mono ?_;rintro e w1 ⟨v1,rfl,ho1,hb1⟩;have HO1 := zz ho1;replace HWB := zz (HWB.out.belowAll hb1);replace HSB := zz (HSB.out.belowAll hb1);replace HN1 := zz (HN1.out.belowAll hb1);replace HN2 := zz (HN2.out.belowAll hb1);replace HP1 := zz (HP1.out.belowAll hb1);replace HP2 := zz (HP2.out.belowAll hb1);replace HB0 := hTr HB0 hb1;clear ho1 hb1))
 go_upto_region 10 with (first
  | ((with_reducible refine zAl 62 ?_);refine zAj HWB.out rfl 25 _ rfl rfl #[.slice sj.a sj.val.length sj.cap, .slice sl.a sl.val.length sl.cap] (zAe _) zuC ?_)
  | ((with_reducible refine zAl 63 ?_);refine zAj HSB.out rfl 59 _ rfl rfl (zAa s) (zAe _) zuA ?_)
  | (go_at_call 36;refine (DW2.out _ HB0.out).mono ?_;rintro e w1 ⟨v2,rfl,ho1,hb1⟩;have HO2 := zz ho1;replace HWB := zz (HWB.out.belowAll hb1);replace HSB := zz (HSB.out.belowAll hb1);replace HN1 := zz (HN1.out.belowAll hb1);replace HN2 := zz (HN2.out.belowAll hb1);replace HP1 := zz (HP1.out.belowAll hb1);replace HP2 := zz (HP2.out.belowAll hb1);replace HO1 := zz (HO1.out.belowAll hb1);replace HB0 := hTr HB0 hb1;clear ho1 hb1))
 go_upto_region 10 with (fail)
 refine rgQ [0,1,2,3,4,5,6,7] [] ?_
 refine zAm (v := _) rfl rfl (fun W hW => zAd _ (HWB.out.belowAll hW) rfl (zAe _) zuC) ?_;simp only [pT]
 refine zAm (v := _) rfl rfl (fun W hW => zAd _ (HSB.out.belowAll hW) rfl (zAe _) zuA) ?_;simp only [pT]
 refine zAI _ _ _ rfl rfl (fun W => by go_simp;try with_reducible rfl) (DA1.out.moved HB0.out) ?_;simp only [pT]
 iterate 5 (refine wD rfl rfl ?_;simp only [pT])
 intro W1 HW1
 refine zA3 [68,69,70,67,71,72] fun u => ?_;simp only [zAB,pT]
 refine zBh ?_
 replace HB0 := hTr HB0 HW1
 replace HWB := zz (HWB.out.belowAll HW1)
 replace HSB := zz (HSB.out.belowAll HW1)
 replace HN1 := zz (HN1.out.belowAll HW1)
 replace HN2 := zz (HN2.out.belowAll HW1)
 replace HP1 := zz (HP1.out.belowAll HW1)
 replace HP2 := zz (HP2.out.belowAll HW1)
 replace HO1 := zz (HO1.out.belowAll HW1)
 replace HO2 := zz (HO2.out.belowAll HW1)
 clear HW1
 go_upto_region 11 with (fail)
 refine rgQ [0,1,2,3,4,5,6,7] [] ?_
 refine zAm (v := _) rfl rfl (fun W hW => zAd _ (HWB.out.belowAll hW) rfl (zAe _) zuC) ?_;simp only [pT]
 refine zAm (v := _) rfl rfl (fun W hW => zAd _ (HSB.out.belowAll hW) rfl (zAe _) zuA) ?_;simp only [pT]
 refine zAI _ _ _ rfl rfl (fun W => by go_simp;try with_reducible rfl) (DA2.out.moved HB0.out) ?_;simp only [pT]
 iterate 5 (refine wD rfl rfl ?_;simp only [pT])
 intro W1 HW1
 refine zA3 [74,75,76,73,77,78] fun u => ?_;simp only [zAB,pT]
 refine zBh ?_
 replace HB0 := hTr HB0 HW1
 replace HWB := zz (HWB.out.belowAll HW1)
 replace HSB := zz (HSB.out.belowAll HW1)
 replace HN1 := zz (HN1.out.belowAll HW1)
 replace HN2 := zz (HN2.out.belowAll HW1)
 replace HP1 := zz (HP1.out.belowAll HW1)
 replace HP2 := zz (HP2.out.belowAll HW1)
 replace HO1 := zz (HO1.out.belowAll HW1)
 replace HO2 := zz (HO2.out.belowAll HW1)
 clear HW1
 go_upto_region 13 with (first
  | ((with_reducible refine zAl 80 ?_);refine zAj HWB.out rfl 25 _ rfl rfl #[.slice sj.a sj.val.length sj.cap, .slice sl.a sl.val.length sl.cap] (zAe _) zuC ?_)
  | (go_at_call 39;refine (DS1.out _ HB0.out).mono ?_;rintro e w1 ⟨v3,rfl,ho1,hb1⟩;have HO3 := zz ho1;replace HWB := zz (HWB.out.belowAll hb1);replace HSB := zz (HSB.out.belowAll hb1);replace HN1 := zz (HN1.out.belowAll hb1);replace HN2 := zz (HN2.out.belowAll hb1);replace HP1 := zz (HP1.out.belowAll hb1);replace HP2 := zz (HP2.out.belowAll hb1);replace HO1 := zz (HO1.out.belowAll hb1);replace HO2 := zz (HO2.out.belowAll hb1);replace HB0 := hTr HB0 hb1;clear ho1 hb1))
 go_upto_region 14 with (first
  | ((with_reducible refine zAl 85 ?_);refine zAj HWB.out rfl 25 _ rfl rfl #[.slice sj.a sj.val.length sj.cap, .slice sl.a sl.val.length sl.cap] (zAe _) zuC ?_)
  | (go_at_call 40;refine (DS2.out _ HB0.out).mono ?_;rintro e w1 ⟨v4,rfl,ho1,hb1⟩;have HO4 := zz ho1;replace HWB := zz (HWB.out.belowAll hb1);replace HSB := zz (HSB.out.belowAll hb1);replace HN1 := zz (HN1.out.belowAll hb1);replace HN2 := zz (HN2.out.belowAll hb1);replace HP1 := zz (HP1.out.belowAll hb1);replace HP2 := zz (HP2.out.belowAll hb1);replace HO1 := zz (HO1.out.belowAll hb1);replace HO2 := zz (HO2.out.belowAll hb1);replace HO3 := zz (HO3.out.belowAll hb1);replace HB0 := hTr HB0 hb1;clear ho1 hb1))
 have hlo := HWL.out
 obtain ⟨s1,rfl,e1,k1,_⟩ := HO1.out.sl (fun _ => rfl) (fun _ _ _ => True) (fun _ => False) (fun _ _ => trivial) (fun _ _ h => h) (by omega)
 obtain ⟨s2,rfl,e2,k2,_⟩ := HO2.out.sl (fun _ => rfl) (fun _ _ _ => True) (fun _ => False) (fun _ _ => trivial) (fun _ _ h => h) (by omega)
 have hss := sides_det s1 s2 w1 k1 k2 (fun _ _ _ h => h) (fun _ _ _ h => h)
 rw [e1,e2,decide_eq_true rfl] at hss
 have HSS := zz hss
 have HSW := zz (zGN v3 v4 _ _ so w1 HO3.out HO4.out HWS.out.1 HWS.out.2)
 simp only [Sl.v,e1,e2]
 clear hlo hss e1 e2 k1 k2 HO1 HO2 HO3 HO4 HWL HWS DN1 DN2 DP1 DP2 DA1 DA2 DW1 DW2 DS1 DS2
 refine rgQ [0,1,2,3,4,5,6,7,8,9,10,11,12,13,14,15,16,17,18,19,20,21,22,23,24,25,26,27,28,29,30,31,32,33,34,35,36,37,38] [] ?_
 refine zAm (v := _) rfl rfl (fun W hW => zAd _ (HN1.out.belowAll hW) rfl (zAe _) zuA) ?_;simp only [pT]
 refine zAm (v := _) rfl rfl (fun W hW => zAd _ (HN2.out.belowAll hW) rfl (zAe _) zuA) ?_;simp only [pT]
 refine zAm (v := .bool false) rfl rfl (fun W hW => by go_simp;try simp [zA8]) ?_;simp only [pT]
 (refine wD rfl rfl ?_;simp only [pT])
 iterate 2 (refine wI rfl rfl ?_;simp only [pT])
 refine zAE (v := .bool false) rfl rfl (fun hg W hW => by (try simp only [Bool.and_eq_true] at hg);(try simp only [hg,Bool.and_self,zAG]);go_simp;try simp [zA8]) ?_;simp only [pT]
 refine zBW rfl rfl rfl ?_;simp only [pT]
 (refine wD rfl rfl ?_;simp only [pT])
 refine zAE (v := _) rfl rfl (fun hg W hW => zAd _ (HP1.out.belowAll hW) rfl (zAe _) zuA) ?_;simp only [pT]
 refine zAE (v := _) rfl rfl (fun hg W hW => zAd _ (HP2.out.belowAll hW) rfl (zAe _) zuA) ?_;simp only [pT]
 refine zAE (v := .bool false) rfl rfl (fun hg W hW => by (try simp only [Bool.and_eq_true] at hg);(try simp only [hg,Bool.and_self,zAG]);go_simp;try simp [zA8]) ?_;simp only [pT]
 refine zBW rfl rfl rfl ?_;simp only [pT]
 (refine wD rfl rfl ?_;simp only [pT])
 iterate 2 (refine wI rfl rfl ?_;simp only [pT])
 refine zAE (v := .bool false) rfl rfl (fun hg W hW => by (try simp only [Bool.and_eq_true] at hg);(try simp only [hg,Bool.and_self,zAG]);go_simp;try simp [zA8]) ?_;simp only [pT]
 refine zBW rfl rfl rfl ?_;simp only [pT]
 (refine wD rfl rfl ?_;simp only [pT])
 iterate 2 (refine wI rfl rfl ?_;simp only [pT])
 refine zBr _ _ _ rfl rfl (fun hg W => by go_simp;try with_reducible rfl) (fun hg => HSS.out.moved (Below.refl _ _)) ?_;simp only [pT]
 (refine wI rfl rfl ?_;simp only [pT])
 refine zBW rfl rfl rfl ?_;simp only [pT]
 (refine wD rfl rfl ?_;simp only [pT])
 iterate 2 (refine wI rfl rfl ?_;simp only [pT])
 refine zAE (v := .bool false) rfl rfl (fun hg W hW => by (try simp only [Bool.and_eq_true] at hg);(try simp only [hg,Bool.and_self,zAG]);go_simp;try simp [zA8]) ?_;simp only [pT]
 refine zBW rfl rfl rfl ?_;simp only [pT]
 (refine wD rfl rfl ?_;simp only [pT])
 iterate 2 (refine wI rfl rfl ?_;simp only [pT])
 refine zAE (v := .bool false) rfl rfl (fun hg W hW => by (try simp only [Bool.and_eq_true] at hg);(try simp only [hg,Bool.and_self,zAG]);go_simp;try simp [zA8]) ?_;simp only [pT]
 refine zBW rfl rfl rfl ?_;simp only [pT]
 (refine wD rfl rfl ?_;simp only [pT])
 iterate 2 (refine wI rfl rfl ?_;simp only [pT])
 refine zAE (v := .bool false) rfl rfl (fun hg W hW => by (try simp only [Bool.and_eq_true] at hg);(try simp only [hg,Bool.and_self,zAG]);go_simp;try simp [zA8]) ?_;simp only [pT]
 refine zBW rfl rfl rfl ?_;simp only [pT]
 intro W1 HW1
 refine zA3 [89,90,91,92,93,94,95,96,97,98,99,100,101,102,103,104,105,106,107,108,109,110,111,112,113,114,115,116,117,118,119,120,121,122,123,124,125,126] fun u => ?_;simp only [zAB,pT]
 refine zBh ?_
 replace HB0 := hTr HB0 HW1
 have HSX := zz (HSW.out.moved HW1)
 clear HW1
 go_upto_region 16 with (fail)
 refine rgQ [0,1,2,3,4,5,6,7,8,9,10,11] [] ?_
 iterate 2 (refine wD rfl rfl ?_;simp only [pT])
 iterate 2 (refine wI rfl rfl ?_;simp only [pT])
 refine zBr _ _ _ rfl rfl (fun hg W => by go_simp;try with_reducible rfl) (fun hg => HSX.out.moved (Below.refl _ _)) ?_;simp only [pT]
 refine zCb rfl rfl rfl ?_;simp only [pT]
 (refine wD rfl rfl ?_;simp only [pT])
 iterate 3 (refine wI rfl rfl ?_;simp only [pT])
 refine zCb rfl rfl rfl ?_;simp only [pT]
 (refine wD rfl rfl ?_;simp only [pT])
 intro W1 HW1
 refine zA3 [128,129,130,131,132,133,134,135,136,137,138] fun u => ?_;simp only [zAB,pT]
 refine zBh ?_
 replace HB0 := hTr HB0 HW1
 clear HW1
 go_wp2
 go_ret
 exact ⟨by simp,HB0.out⟩
theorem wwalks_big (a1 a2 : Option Addr) (n c1 m c2 : Nat) (s : Side) (w : World) (hf : fewB n m = false) :
  Calls Tryz.prog 6 #[.agg #[.slice a1 n c1, .slice a2 m c2], .agg (zAa s)] w fun e w' => e = .returned (.bool true) ∧ Below w.heap.size w w' := by
 have HF := zz (few_det a1 a2 n c1 m c2 w)
 rw [hf] at HF
 obtain ⟨HB0,HWB,HSB⟩ := pro2 w #[.slice a1 n c1, .slice a2 m c2] (zAa s) 25 59
 clear hf
 go_enter Tryz.func6,Tryz.ntmps6
 go_wp2_with (first
  | (go_at_call 13;refine (awake_any _).mono ?_;rintro e w1 ⟨rfl,hb1⟩;replace HWB := zz (HWB.out.belowAll hb1);replace HSB := zz (HSB.out.belowAll hb1);replace HB0 := hTr HB0 hb1;clear hb1)
  | ((with_reducible refine zAl 27 ?_);refine zAj HWB.out rfl 25 _ rfl rfl #[.slice a1 n c1, .slice a2 m c2] (zAe _) zuC ?_)
  | (go_at_call 17;refine (HF.out _ HB0.out).mono ?_;rintro e w1 ⟨rfl,hb1⟩;replace HB0 := hTr HB0 hb1;clear hb1))
 go_ret
 exact ⟨rfl,HB0.out⟩
end Go.Proofs.YtbbblemfodpmaaaGreat
end
