/-
  The program's JointOf and LeadOf.
  The program's Ends, Flange, Around.
  few: which webs a statement looks at.
-/
import Derived.Test.YtbbblemfodpmaaaGreatWebGy
import Derived.Test.YtbbblemfodpmaaaGreatWebGq
import Derived.Test.YtbbblemfodpmaaaGreatWebGr
set_option linter.unusedVariables false
set_option linter.unusedSimpArgs false
set_option maxHeartbeats 16000000
set_option maxRecDepth 100000
section
namespace Go.Proofs.YtbbblemfodpmaaaGreat
open Go.RowKit
theorem joint_has (js : List Joint) (id : Int) : ahas (zA7 js) id = (atA js id).isSome := by rw [← zBd,zA6]
theorem lead_has (ls : List Lead) (id : Int) : ahas (zB6 ls) id = (zBh ls id).isSome := by rw [← zBd,zDA]
theorem JointOf_any (sj : Sl Joint) (sl : Sl Lead) (id : Int) (w : World) (hj : sj.OK 3 zAh zAu (fun _ => False) w) (hl : sl.OK 8 zAf zAB (fun _ => False) w) (hi : I64 id) :
  Calls Tryz.prog 52 #[.agg #[.slice sj.a sj.val.length sj.cap, .slice sl.a sl.val.length sl.cap], .int .i64 id] w fun e w' => e = .returned (.tuple #[.agg (zAh (zEI sj.val sl.val id)), .int .i64 (zCP sj.val sl.val id)]) ∧ Below w.heap.size w w' := by
 have HJ := zz hj
 have HL := zz hl
 have HIG := zz hi
 have HB0 : Hid (Below w.heap.size w ((w.alloc (.cells #[.slice sj.a sj.val.length sj.cap, .slice sl.a sl.val.length sl.cap] 25)).alloc (.cells #[.int .i64 0, .int .i64 0, .int .i64 0] 29))) := zz ((((Lays.refl w).alloc _).alloc _).below (Nat.le_refl _))
 have HWB : Hid (zAc ((w.alloc (.cells #[.slice sj.a sj.val.length sj.cap, .slice sl.a sl.val.length sl.cap] 25)).alloc (.cells #[.int .i64 0, .int .i64 0, .int .i64 0] 29)) (w.heap.size) 25 #[.slice sj.a sj.val.length sj.cap, .slice sl.a sl.val.length sl.cap]) := zz ((zAc.new w 25 #[.slice sj.a sj.val.length sj.cap, .slice sl.a sl.val.length sl.cap]).alloc _)
 have HR0 : Hid (zAc ((w.alloc (.cells #[.slice sj.a sj.val.length sj.cap, .slice sl.a sl.val.length sl.cap] 25)).alloc (.cells #[.int .i64 0, .int .i64 0, .int .i64 0] 29)) (w.heap.size + 1) 29 #[.int .i64 0, .int .i64 0, .int .i64 0]) := zz (by have := zAc.new (w.alloc (.cells #[.slice sj.a sj.val.length sj.cap, .slice sl.a sl.val.length sl.cap] 25)) 29 #[.int .i64 0, .int .i64 0, .int .i64 0];simpa only [World.size_alloc] using this : zAc _ _ _ _)
 obtain ⟨E,hE⟩ : ∃ E,(zAE sj.val sl.val).1 = E := ⟨_,rfl⟩
 have HVO : Hid (E = 0 → ∀ W,Below w.heap.size w W → Calls Tryz.prog 86 #[.agg #[.slice sj.a sj.val.length sj.cap, .slice sl.a sl.val.length sl.cap]] W (zD9 sj sl W)) := zz fun h W hW => zCU sj sl W (hj.jmoved hW) (hl.lmoved hW) (by rw [hE];exact h)
 have HVB : Hid (E ≠ 0 → ∀ W,Below w.heap.size w W → Calls Tryz.prog 86 #[.agg #[.slice sj.a sj.val.length sj.cap, .slice sl.a sl.val.length sl.cap]] W fun e w' => e = .returned (.tuple #[.pointer none, .int .i64 E]) ∧ Below W.heap.size W w') := zz fun h W hW => by have := zEa sj sl W (hj.jmoved hW) (hl.lmoved hW) (by rw [hE];exact h);rwa [hE] at this
 obtain ⟨RJ,hRJ⟩ : ∃ r,zEI sj.val sl.val id = r := ⟨_,rfl⟩
 obtain ⟨RE,hRE⟩ : ∃ r,zCP sj.val sl.val id = r := ⟨_,rfl⟩
 have HR1 : Hid (RE = if E ≠ 0 then E else if (atA sj.val id).isSome = true then 0 else 3) := zz (by rw [← hRE,← hE];rfl)
 have HR2 : Hid (RJ = if RE = 0 then ⟨id,ptA sj.val id⟩ else ⟨0,zAA⟩) := zz (by rw [← hRJ,← hRE];rfl)
 simp only [hRJ,hRE]
 clear hE hRJ hRE hj hl hi
 go_enter Tryz.func52,Tryz.ntmps52
 by_cases h0 : E = 0
 case neg =>
  have HVB := zz (HVB.out h0)
  go_upto_region 3 with (first
   | ((with_reducible refine zAk 11 ?_);refine zAj HWB.out rfl 25 _ rfl rfl #[.slice sj.a sj.val.length sj.cap, .slice sl.a sl.val.length sl.cap] (zAe _) Tryz.underlying25 ?_)
   | (go_at_call 86;refine (HVB.out _ HB0.out).mono ?_;rintro e w1 ⟨rfl,hb1⟩;replace HR0 := zz (HR0.out.belowAll hb1);replace HB0 := zz (HB0.out.trans (hb1.mono HB0.out.size));clear hb1))
  refine rgQ [0,1] [2,3] ?_
  iterate 2 (refine wD rfl rfl ?_;simp only [pT])
  intro W1 HW1
  refine zA3 ((HR0.out).belowAll HW1) rfl rfl (.agg (zAh ⟨0,zAA⟩)) rfl (by kernel_rfl) (by rfl) (zAG _) fun W2 hb2 ht2 => ?_
  refine zBx rfl rfl (by go_simp;with_reducible rfl) ?_;simp only [pT]
  refine zBc ?_
  go_wp2
  have HBE : Below w.heap.size w W2 := (HB0.out.trans (HW1.mono HB0.out.size)).trans (ht2.below (by omega))
  refine bodyPost_ret (zAY (cs := zAh ⟨0,zAA⟩) (.int .i64 E) (hb2.eqv (by simp [zAv,zAh,Value.cells])) rfl rfl rfl Tryz.underlying29) rfl ⟨?_,HBE⟩
  have e1 : RE = E := by rw [HR1.out,if_pos h0]
  rw [HR2.out,e1,if_neg h0]
 have HVO := zz (HVO.out h0)
 go_upto_region 4 with (first
  | ((with_reducible refine zAk 11 ?_);refine zAj HWB.out rfl 25 _ rfl rfl #[.slice sj.a sj.val.length sj.cap, .slice sl.a sl.val.length sl.cap] (zAe _) Tryz.underlying25 ?_)
  | (go_at_call 86;refine (HVO.out _ HB0.out).mono ?_;rintro e w1 ⟨b,rfl,hbb,hn1,hb1⟩;have HN := zz hn1;replace HR0 := zz (HR0.out.belowAll hb1);replace HB0 := zz (HB0.out.trans (hb1.mono HB0.out.size));clear hb1 hbb hn1))
 obtain ⟨ba,bl,bo,N,mo,hbN,haN,hlN,hoN,hnb,hma,hml,hmo,hout⟩ := HN.out
 have HNB := zz hnb
 have HMA := zz hma
 clear hbN haN hlN hoN hnb hma hml hmo hout HN
 obtain ⟨p,hp⟩ : ∃ p,(atA sj.val id).getD zAA = p := ⟨_,rfl⟩
 obtain ⟨q,hq⟩ : ∃ q,(atA sj.val id).isSome = q := ⟨_,rfl⟩
 have HP := zz hp
 have HQ : Hid (ahas (zA7 sj.val) id = q) := zz (by rw [joint_has];exact hq)
 have HPT : Hid (ptA sj.val id = p) := zz hp
 simp only [hq] at HR1
 clear hp hq
 refine rgQ [0,1,2,3,4,5,6,7,8] [9,10,11] ?_
 iterate 3 (refine wD rfl rfl ?_;simp only [pT])
 refine zAm (v := .map (some ba)) rfl rfl (fun W hW => by have e := (HNB.out.belowAll hW).cell 2;go_simp) ?_;simp only [pT]
 (refine wD rfl rfl ?_;simp only [pT])
 refine zAm (v := .tuple #[zAK p, .bool q]) rfl rfl (fun W hW => Eq.trans (zA0 zAN Tryz.underlying120 zAA (zBe _) rfl (HMA.out.below hW HMA.out.lt) id HIG.out rfl) (by rw [zA6,HP.out,HQ.out];rfl)) ?_;simp only [pT]
 iterate 3 (refine wD rfl rfl ?_;simp only [pT])
 intro W1 HW1
 refine zBk [20,21,22,23,24,25,19] fun u => ?_;simp only [zAD,pT]
 refine zCD (T := 27) (cs := #[.int .i64 0, .int .i64 0]) rfl (by kernel_rfl) ?_;simp only [zBm,pT]
 have hfb := zAc.new W1 27 #[.int .i64 0, .int .i64 0]
 have HW3 := HW1.trans (((Below.refl W1.heap.size W1).alloc (Nat.le_refl _) (.cells #[.int .i64 0, .int .i64 0] 27)).mono HW1.size)
 have hfl := HW1.size
 obtain ⟨jp,hj⟩ : ∃ j,W1.heap.size = j := ⟨_,rfl⟩
 rw [hj] at hfb hfl
 simp only [hj]
 refine zA3 hfb rfl rfl (.agg (zAb p)) rfl (by kernel_rfl) (by rfl) (zAM _) fun W2 hb2 ht2 => ?_
 have HPB := zz (hb2.eqv (cs' := zAb p) (by simp [zAv,zAb,Value.cells]))
 have HW2 := HW3.trans (ht2.below hfl)
 refine zBx rfl rfl (by go_simp;with_reducible rfl) ?_;simp only [pT]
 refine zBc ?_
 clear hb2 ht2 hfl hfb HW1 HW3 hj W1
 replace HB0 := zz (HB0.out.trans (HW2.mono HB0.out.size))
 replace HR0 := zz (HR0.out.belowAll HW2)
 clear HW2
 clear HNB HMA
 cases q
 ·go_upto_region 6 with (fail)
  refine rgQ [0] [1,2] ?_
  (refine wD rfl rfl ?_;simp only [pT])
  intro W1 HW1
  refine zA3 ((HR0.out).belowAll HW1) rfl rfl (.agg (zAh ⟨0,zAA⟩)) rfl (by kernel_rfl) (by rfl) (zAG _) fun W2 hb2 ht2 => ?_
  refine zBx rfl rfl (by go_simp;with_reducible rfl) ?_;simp only [pT]
  refine zBc ?_
  go_wp2
  have HBE : Below w.heap.size w W2 := (HB0.out.trans (HW1.mono HB0.out.size)).trans (ht2.below (by omega))
  refine bodyPost_ret (zAY (cs := zAh ⟨0,zAA⟩) (.int .i64 3) (hb2.eqv (by simp [zAv,zAh,Value.cells])) rfl rfl rfl Tryz.underlying29) rfl ⟨?_,HBE⟩
  have e1 : RE = 3 := by rw [HR1.out,if_neg (by simpa using h0)];simp
  rw [HR2.out,e1,if_neg (by decide)]
 ·go_upto_region 7 with (fail)
  refine rgQ [0,1,2] [3,4] ?_
  (refine wD rfl rfl ?_;simp only [pT])
  refine zAm (v := _) rfl rfl (fun W hW => zAd _ (HPB.out.belowAll hW) rfl (zAe _) Tryz.underlying27) ?_;simp only [pT]
  refine zAm (v := .agg (zAh ⟨id,p⟩)) rfl rfl (fun W hW => by go_simp;rfl) ?_;simp only [pT]
  intro W1 HW1
  refine zBk [31,32] fun u => ?_;simp only [zAD,pT]
  refine zA3 ((HR0.out).belowAll HW1) rfl rfl (.agg (zAh ⟨id,p⟩)) rfl (by kernel_rfl) (by rfl) (zAG _) fun W2 hb2 ht2 => ?_
  refine zBx rfl rfl (by go_simp;with_reducible rfl) ?_;simp only [pT]
  refine zBc ?_
  go_wp2
  have HBE : Below w.heap.size w W2 := (HB0.out.trans (HW1.mono HB0.out.size)).trans (ht2.below (by omega))
  refine bodyPost_ret (zAY (cs := zAh ⟨id,p⟩) (.int .i64 0) (hb2.eqv (by simp [zAv,zAh,Value.cells])) rfl rfl rfl Tryz.underlying29) rfl ⟨?_,HBE⟩
  have e1 : RE = 0 := by rw [HR1.out,if_neg (by simpa using h0)];simp
  rw [HR2.out,e1,if_pos rfl,HPT.out]
theorem LeadOf_any (sj : Sl Joint) (sl : Sl Lead) (id : Int) (w : World) (hj : sj.OK 3 zAh zAu (fun _ => False) w) (hl : sl.OK 8 zAf zAB (fun _ => False) w) (hi : I64 id) :
  Calls Tryz.prog 54 #[.agg #[.slice sj.a sj.val.length sj.cap, .slice sl.a sl.val.length sl.cap], .int .i64 id] w fun e w' => e = .returned (.tuple #[.agg (zAf (zCQ sj.val sl.val id)), .int .i64 (zDL sj.val sl.val id)]) ∧ Below w.heap.size w w' := by
 have HJ := zz hj
 have HL := zz hl
 have HIG := zz hi
 have HB0 : Hid (Below w.heap.size w ((w.alloc (.cells #[.slice sj.a sj.val.length sj.cap, .slice sl.a sl.val.length sl.cap] 25)).alloc (.cells #[.int .i64 0, .int .i64 0, .int .i64 0, .int .i64 0, .int .i64 0, .int .i64 0, .int .i64 0, .int .i64 0] 31))) := zz ((((Lays.refl w).alloc _).alloc _).below (Nat.le_refl _))
 have HWB : Hid (zAc ((w.alloc (.cells #[.slice sj.a sj.val.length sj.cap, .slice sl.a sl.val.length sl.cap] 25)).alloc (.cells #[.int .i64 0, .int .i64 0, .int .i64 0, .int .i64 0, .int .i64 0, .int .i64 0, .int .i64 0, .int .i64 0] 31)) (w.heap.size) 25 #[.slice sj.a sj.val.length sj.cap, .slice sl.a sl.val.length sl.cap]) := zz ((zAc.new w 25 #[.slice sj.a sj.val.length sj.cap, .slice sl.a sl.val.length sl.cap]).alloc _)
 have HR0 : Hid (zAc ((w.alloc (.cells #[.slice sj.a sj.val.length sj.cap, .slice sl.a sl.val.length sl.cap] 25)).alloc (.cells #[.int .i64 0, .int .i64 0, .int .i64 0, .int .i64 0, .int .i64 0, .int .i64 0, .int .i64 0, .int .i64 0] 31)) (w.heap.size + 1) 31 #[.int .i64 0, .int .i64 0, .int .i64 0, .int .i64 0, .int .i64 0, .int .i64 0, .int .i64 0, .int .i64 0]) := zz (by have := zAc.new (w.alloc (.cells #[.slice sj.a sj.val.length sj.cap, .slice sl.a sl.val.length sl.cap] 25)) 31 #[.int .i64 0, .int .i64 0, .int .i64 0, .int .i64 0, .int .i64 0, .int .i64 0, .int .i64 0, .int .i64 0];simpa only [World.size_alloc] using this : zAc _ _ _ _)
 obtain ⟨E,hE⟩ : ∃ E,(zAE sj.val sl.val).1 = E := ⟨_,rfl⟩
 have HVO : Hid (E = 0 → ∀ W,Below w.heap.size w W → Calls Tryz.prog 86 #[.agg #[.slice sj.a sj.val.length sj.cap, .slice sl.a sl.val.length sl.cap]] W (zD9 sj sl W)) := zz fun h W hW => zCU sj sl W (hj.jmoved hW) (hl.lmoved hW) (by rw [hE];exact h)
 have HVB : Hid (E ≠ 0 → ∀ W,Below w.heap.size w W → Calls Tryz.prog 86 #[.agg #[.slice sj.a sj.val.length sj.cap, .slice sl.a sl.val.length sl.cap]] W fun e w' => e = .returned (.tuple #[.pointer none, .int .i64 E]) ∧ Below W.heap.size W w') := zz fun h W hW => by have := zEa sj sl W (hj.jmoved hW) (hl.lmoved hW) (by rw [hE];exact h);rwa [hE] at this
 obtain ⟨RJ,hRJ⟩ : ∃ r,zCQ sj.val sl.val id = r := ⟨_,rfl⟩
 obtain ⟨RE,hRE⟩ : ∃ r,zDL sj.val sl.val id = r := ⟨_,rfl⟩
 have HR1 : Hid (RE = if E ≠ 0 then E else if (zBh sl.val id).isSome = true then 0 else 3) := zz (by rw [← hRE,← hE];rfl)
 have HR2 : Hid (RJ = if RE = 0 then (zBh sl.val id).getD zBu else zBu) := zz (by rw [← hRJ,← hRE];rfl)
 simp only [hRJ,hRE]
 clear hE hRJ hRE hj hl hi
 go_enter Tryz.func54,Tryz.ntmps54
 by_cases h0 : E = 0
 case neg =>
  have HVB := zz (HVB.out h0)
  go_upto_region 3 with (first
   | ((with_reducible refine zAk 11 ?_);refine zAj HWB.out rfl 25 _ rfl rfl #[.slice sj.a sj.val.length sj.cap, .slice sl.a sl.val.length sl.cap] (zAe _) Tryz.underlying25 ?_)
   | (go_at_call 86;refine (HVB.out _ HB0.out).mono ?_;rintro e w1 ⟨rfl,hb1⟩;replace HR0 := zz (HR0.out.belowAll hb1);replace HB0 := zz (HB0.out.trans (hb1.mono HB0.out.size));clear hb1))
  refine rgQ [0,1] [2,3] ?_
  iterate 2 (refine wD rfl rfl ?_;simp only [pT])
  intro W1 HW1
  refine zA3 ((HR0.out).belowAll HW1) rfl rfl (.agg (zAf zBu)) rfl (by kernel_rfl) (by rfl) (zAU _) fun W2 hb2 ht2 => ?_
  refine zBx rfl rfl (by go_simp;with_reducible rfl) ?_;simp only [pT]
  refine zBc ?_
  go_wp2
  have HBE : Below w.heap.size w W2 := (HB0.out.trans (HW1.mono HB0.out.size)).trans (ht2.below (by omega))
  refine bodyPost_ret (zAY (cs := zAf zBu) (.int .i64 E) (hb2.eqv (by simp [zAv,zAf,Value.cells])) rfl rfl rfl Tryz.underlying31) rfl ⟨?_,HBE⟩
  have e1 : RE = E := by rw [HR1.out,if_pos h0]
  rw [HR2.out,e1,if_neg h0]
 have HVO := zz (HVO.out h0)
 go_upto_region 4 with (first
  | ((with_reducible refine zAk 11 ?_);refine zAj HWB.out rfl 25 _ rfl rfl #[.slice sj.a sj.val.length sj.cap, .slice sl.a sl.val.length sl.cap] (zAe _) Tryz.underlying25 ?_)
  | (go_at_call 86;refine (HVO.out _ HB0.out).mono ?_;rintro e w1 ⟨b,rfl,hbb,hn1,hb1⟩;have HN := zz hn1;replace HR0 := zz (HR0.out.belowAll hb1);replace HB0 := zz (HB0.out.trans (hb1.mono HB0.out.size));clear hb1 hbb hn1))
 obtain ⟨ba,bl,bo,N,mo,hbN,haN,hlN,hoN,hnb,hma,hml,hmo,hout⟩ := HN.out
 have HNB := zz hnb
 have HMA := zz hml
 clear hbN haN hlN hoN hnb hma hml hmo hout HN
 obtain ⟨p,hp⟩ : ∃ p,(zBh sl.val id).getD zBu = p := ⟨_,rfl⟩
 obtain ⟨q,hq⟩ : ∃ q,(zBh sl.val id).isSome = q := ⟨_,rfl⟩
 have HP := zz hp
 have HQ : Hid (ahas (zB6 sl.val) id = q) := zz (by rw [lead_has];exact hq)
 have HPT : Hid ((zBh sl.val id).getD zBu = p) := zz hp
 simp only [hq] at HR1
 clear hp hq
 refine rgQ [0,1,2,3,4,5,6,7,8] [9,10,11] ?_
 iterate 3 (refine wD rfl rfl ?_;simp only [pT])
 refine zAm (v := .map (some bl)) rfl rfl (fun W hW => by have e := (HNB.out.belowAll hW).cell 3;go_simp) ?_;simp only [pT]
 (refine wD rfl rfl ?_;simp only [pT])
 refine zAm (v := .tuple #[zCB p, .bool q]) rfl rfl (fun W hW => Eq.trans (zA0 zAN Tryz.underlying122 zBu (zEv _) rfl (HMA.out.below hW HMA.out.lt) id HIG.out rfl) (by rw [zDA,HP.out,HQ.out];rfl)) ?_;simp only [pT]
 iterate 3 (refine wD rfl rfl ?_;simp only [pT])
 intro W1 HW1
 refine zBk [20,21,22,23,24,25,19] fun u => ?_;simp only [zAD,pT]
 refine zCD (T := 31) (cs := #[.int .i64 0, .int .i64 0, .int .i64 0, .int .i64 0, .int .i64 0, .int .i64 0, .int .i64 0, .int .i64 0]) rfl (by kernel_rfl) ?_;simp only [zBm,pT]
 have hfb := zAc.new W1 31 #[.int .i64 0, .int .i64 0, .int .i64 0, .int .i64 0, .int .i64 0, .int .i64 0, .int .i64 0, .int .i64 0]
 have HW3 := HW1.trans (((Below.refl W1.heap.size W1).alloc (Nat.le_refl _) (.cells #[.int .i64 0, .int .i64 0, .int .i64 0, .int .i64 0, .int .i64 0, .int .i64 0, .int .i64 0, .int .i64 0] 31)).mono HW1.size)
 have hfl := HW1.size
 obtain ⟨jp,hj⟩ : ∃ j,W1.heap.size = j := ⟨_,rfl⟩
 rw [hj] at hfb hfl
 simp only [hj]
 refine zA3 hfb rfl rfl (.agg (zAf p)) rfl (by kernel_rfl) (by rfl) (zAU _) fun W2 hb2 ht2 => ?_
 have HPB := zz (hb2.eqv (cs' := zAf p) (by simp [zAv,zAf,Value.cells]))
 have HW2 := HW3.trans (ht2.below hfl)
 refine zBx rfl rfl (by go_simp;with_reducible rfl) ?_;simp only [pT]
 refine zBc ?_
 clear hb2 ht2 hfl hfb HW1 HW3 hj W1
 replace HB0 := zz (HB0.out.trans (HW2.mono HB0.out.size))
 replace HR0 := zz (HR0.out.belowAll HW2)
 clear HW2
 clear HNB HMA
 cases q
 ·go_upto_region 6 with (fail)
  refine rgQ [0] [1,2] ?_
  (refine wD rfl rfl ?_;simp only [pT])
  intro W1 HW1
  refine zA3 ((HR0.out).belowAll HW1) rfl rfl (.agg (zAf zBu)) rfl (by kernel_rfl) (by rfl) (zAU _) fun W2 hb2 ht2 => ?_
  refine zBx rfl rfl (by go_simp;with_reducible rfl) ?_;simp only [pT]
  refine zBc ?_
  go_wp2
  have HBE : Below w.heap.size w W2 := (HB0.out.trans (HW1.mono HB0.out.size)).trans (ht2.below (by omega))
  refine bodyPost_ret (zAY (cs := zAf zBu) (.int .i64 3) (hb2.eqv (by simp [zAv,zAf,Value.cells])) rfl rfl rfl Tryz.underlying31) rfl ⟨?_,HBE⟩
  have e1 : RE = 3 := by rw [HR1.out,if_neg (by simpa using h0)];simp
  rw [HR2.out,e1,if_neg (by decide)]
 ·go_upto_region 7 with (fail)
  refine rgQ [0] [1,2] ?_
  refine zAm (v := _) rfl rfl (fun W hW => zAd _ (HPB.out.belowAll hW) rfl (zAe _) Tryz.underlying31) ?_;simp only [pT]
  intro W1 HW1
  refine zA3 ((HR0.out).belowAll HW1) rfl rfl (.agg (zAf p)) rfl (by kernel_rfl) (by rfl) (zAU _) fun W2 hb2 ht2 => ?_
  refine zBx rfl rfl (by go_simp;with_reducible rfl) ?_;simp only [pT]
  refine zBc ?_
  go_wp2
  have HBE : Below w.heap.size w W2 := (HB0.out.trans (HW1.mono HB0.out.size)).trans (ht2.below (by omega))
  refine bodyPost_ret (zAY (cs := zAf p) (.int .i64 0) (hb2.eqv (by simp [zAv,zAf,Value.cells])) rfl rfl rfl Tryz.underlying31) rfl ⟨?_,HBE⟩
  have e1 : RE = 0 := by rw [HR1.out,if_neg (by simpa using h0)];simp
  rw [HR2.out,e1,if_pos rfl,HPT.out]
end Go.Proofs.YtbbblemfodpmaaaGreat
end
section
namespace Go.Proofs.YtbbblemfodpmaaaGreat
open Go.RowKit
theorem box_map {κ ν : Type} [DecidableEq κ] {K : κ → Value} {V : ν → Value} {good : κ → Prop} {w : World} {b : Nat} {m : List (κ × ν)} (h : MapAt K V good w b m) {c : Nat} {T : TypeId} {cs : Array Value} (hb : zAc w c T cs) : b ≠ c := by
 rintro rfl
 unfold zAc at hb
 obtain ⟨_,_,h1,_⟩ := h.raw
 rw [hb] at h1
 cases h1
theorem MapAt.drewM {κ ν : Type} [DecidableEq κ] {K : κ → Value} {V : ν → Value} {good : κ → Prop} {w : World} {b : Nat} {m : List (κ × ν)} (h : MapAt K V good w b m) : MapAt K V good w.drew b m := h.of_block rfl
theorem Ends_any (sj : Sl Joint) (sl : Sl Lead) (s : Side) (w : World) (hj : sj.OK 3 zAh zAu (fun _ => False) w) (hl : sl.OK 8 zAf zAB (fun _ => False) w) (hi : I64 s.lead) :
  Calls Tryz.prog 47 #[.agg #[.slice sj.a sj.val.length sj.cap, .slice sl.a sl.val.length sl.cap], .agg (zAa s)] w fun e w' => e = .returned (.tuple #[.agg (zAh (zFk sj.val sl.val s)), .agg (zAh (endTo sj.val sl.val s)), .int .i64 (zBI sj.val sl.val s)]) ∧ Below w.heap.size w w' := by
 have HI := zz hi
 have HB0 : Hid (Below w.heap.size w ((((w.alloc (.cells #[.slice sj.a sj.val.length sj.cap, .slice sl.a sl.val.length sl.cap] 25)).alloc (.cells (zAa s) 59)).alloc (.cells #[.int .i64 0, .int .i64 0, .int .i64 0] 29)).alloc (.cells #[.int .i64 0, .int .i64 0, .int .i64 0] 29))) := zz ((((((Lays.refl w).alloc _).alloc _).alloc _).alloc _).below (Nat.le_refl _))
 have HWB : Hid (zAc ((((w.alloc (.cells #[.slice sj.a sj.val.length sj.cap, .slice sl.a sl.val.length sl.cap] 25)).alloc (.cells (zAa s) 59)).alloc (.cells #[.int .i64 0, .int .i64 0, .int .i64 0] 29)).alloc (.cells #[.int .i64 0, .int .i64 0, .int .i64 0] 29)) (w.heap.size) 25 #[.slice sj.a sj.val.length sj.cap, .slice sl.a sl.val.length sl.cap]) := zz ((((zAc.new w 25 #[.slice sj.a sj.val.length sj.cap, .slice sl.a sl.val.length sl.cap]).alloc _).alloc _).alloc _)
 have HSB : Hid (zAc ((((w.alloc (.cells #[.slice sj.a sj.val.length sj.cap, .slice sl.a sl.val.length sl.cap] 25)).alloc (.cells (zAa s) 59)).alloc (.cells #[.int .i64 0, .int .i64 0, .int .i64 0] 29)).alloc (.cells #[.int .i64 0, .int .i64 0, .int .i64 0] 29)) (w.heap.size + 1) 59 (zAa s)) := zz (((by have := zAc.new (w.alloc (.cells #[.slice sj.a sj.val.length sj.cap, .slice sl.a sl.val.length sl.cap] 25)) 59 (zAa s);simpa only [World.size_alloc] using this : zAc _ _ _ _).alloc _).alloc _)
 have HR1 : Hid (zAc ((((w.alloc (.cells #[.slice sj.a sj.val.length sj.cap, .slice sl.a sl.val.length sl.cap] 25)).alloc (.cells (zAa s) 59)).alloc (.cells #[.int .i64 0, .int .i64 0, .int .i64 0] 29)).alloc (.cells #[.int .i64 0, .int .i64 0, .int .i64 0] 29)) (w.heap.size + 1 + 1) 29 #[.int .i64 0, .int .i64 0, .int .i64 0]) := zz ((by have := zAc.new ((w.alloc (.cells #[.slice sj.a sj.val.length sj.cap, .slice sl.a sl.val.length sl.cap] 25)).alloc (.cells (zAa s) 59)) 29 #[.int .i64 0, .int .i64 0, .int .i64 0];simpa only [World.size_alloc] using this : zAc _ _ _ _).alloc _)
 have HR2 : Hid (zAc ((((w.alloc (.cells #[.slice sj.a sj.val.length sj.cap, .slice sl.a sl.val.length sl.cap] 25)).alloc (.cells (zAa s) 59)).alloc (.cells #[.int .i64 0, .int .i64 0, .int .i64 0] 29)).alloc (.cells #[.int .i64 0, .int .i64 0, .int .i64 0] 29)) (w.heap.size + 1 + 1 + 1) 29 #[.int .i64 0, .int .i64 0, .int .i64 0]) := zz (by have := zAc.new (((w.alloc (.cells #[.slice sj.a sj.val.length sj.cap, .slice sl.a sl.val.length sl.cap] 25)).alloc (.cells (zAa s) 59)).alloc (.cells #[.int .i64 0, .int .i64 0, .int .i64 0] 29)) 29 #[.int .i64 0, .int .i64 0, .int .i64 0];simpa only [World.size_alloc] using this : zAc _ _ _ _)
 obtain ⟨R1,hR1⟩ : ∃ r,zFk sj.val sl.val s = r := ⟨_,rfl⟩
 obtain ⟨R2,hR2⟩ : ∃ r,endTo sj.val sl.val s = r := ⟨_,rfl⟩
 obtain ⟨RE,hRE⟩ : ∃ r,zBI sj.val sl.val s = r := ⟨_,rfl⟩
 have HVO : Hid (RE = 0 → ∀ W,Below w.heap.size w W → Calls Tryz.prog 100 #[.agg #[.slice sj.a sj.val.length sj.cap, .slice sl.a sl.val.length sl.cap], .agg (zAa s)] W (zD9 sj sl W)) := zz fun h W hW => zDg sj sl s W (hj.jmoved hW) (hl.lmoved hW) hi (by rw [hRE];exact h)
 have HVB : Hid (RE ≠ 0 → ∀ W,Below w.heap.size w W → Calls Tryz.prog 100 #[.agg #[.slice sj.a sj.val.length sj.cap, .slice sl.a sl.val.length sl.cap], .agg (zAa s)] W fun e w' => e = .returned (.tuple #[.pointer none, .int .i64 RE]) ∧ Below W.heap.size W w') := zz fun h W hW => by have := sided_err sj sl s W (hj.jmoved hW) (hl.lmoved hW) hi (by rw [hRE];exact h);rwa [hRE] at this
 have HVW : Hid (RE = 0 → ValidW sj.val sl.val ∧ (zBh sl.val s.lead).isSome = true) := zz fun h => by have := zB3 (by rw [hRE];exact h);exact ⟨zB9 this.1,this.2⟩
 have HRA : Hid (R1 = if RE = 0 then ⟨(zAs sl.val s).1,ptA sj.val (zAs sl.val s).1⟩ else ⟨0,zAA⟩) := zz (by rw [← hR1,← hRE];rfl)
 have HRB : Hid (R2 = if RE = 0 then ⟨(zAs sl.val s).2,ptA sj.val (zAs sl.val s).2⟩ else ⟨0,zAA⟩) := zz (by rw [← hR2,← hRE];rfl)
 simp only [hR1,hR2,hRE]
 clear hR1 hR2 hRE hj hl hi
 go_enter Tryz.func47,Tryz.ntmps47
 by_cases h0 : RE = 0
 case neg =>
  have HVB := zz (HVB.out h0)
  go_upto_region 3 with (first
   | ((with_reducible refine zAk 11 ?_);refine zAj HWB.out rfl 25 _ rfl rfl #[.slice sj.a sj.val.length sj.cap, .slice sl.a sl.val.length sl.cap] (zAe _) Tryz.underlying25 ?_)
   | ((with_reducible refine zAk 12 ?_);refine zAj HSB.out rfl 59 _ rfl rfl (zAa s) (zAe _) Tryz.underlying59 ?_)
   | (go_at_call 100;refine (HVB.out _ HB0.out).mono ?_;rintro e w1 ⟨rfl,hb1⟩;replace HR1 := zz (HR1.out.belowAll hb1);replace HR2 := zz (HR2.out.belowAll hb1);replace HB0 := zz (HB0.out.trans (hb1.mono HB0.out.size));clear hb1))
  refine zDl (fun W => zAc W (w.heap.size + 1 + 1) 29 #[.int .i64 0, .int .i64 0, .int .i64 0] ∧ zAc W (w.heap.size + 1 + 1 + 1) 29 #[.int .i64 0, .int .i64 0, .int .i64 0]) [(0,true),(1,true),(2,true),(3,false),(4,false),(5,true)] rfl (by kernel_rfl) (by kernel_rfl) (fun d _ _ _ _ h => by cases d <;> exact h) ⟨HR1.out.drew,HR2.out.drew⟩ ?_
  refine zBs rfl rfl (fun W hW => zAd _ (hW.1) rfl (zAe _) Tryz.underlying29) ?_;simp only [pT]
  refine zBs rfl rfl (fun W hW => zAd _ (hW.2) rfl (zAe _) Tryz.underlying29) ?_;simp only [pT]
  refine wS rfl rfl ?_;simp only [pT]
  refine zBT rfl rfl (fun K hK => zAr (HR1.out.drew) 29 _ _ rfl rfl (.agg (zAh ⟨0,zAA⟩)) rfl (by kernel_rfl) (by rfl) (zAG _) fun W2 hb2 ht2 => hK _ _ ⟨hb2.eqv (by simp [zAv,zAh,Value.cells,zAA]),HR2.out.drew.turn ht2 (by omega)⟩ ?_)
  simp only [pT]
  refine zBT rfl rfl (fun K hK => zAr (HR2.out.drew.turn ht2 (by omega)) 29 _ _ rfl rfl (.agg (zAh ⟨0,zAA⟩)) rfl (by kernel_rfl) (by rfl) (zAG _) fun W3 hb3 ht3 => hK _ _ ⟨(hb2.turn ht3 (by omega)).eqv (by simp [zAv,zAh,Value.cells,zAA]),hb3.eqv (by simp [zAv,zAh,Value.cells,zAA])⟩ ?_)
  simp only [pT]
  refine wS rfl rfl ?_;simp only [pT]
  simp only [wpS]
  go_wp2
  refine bodyPost_ret (zDt (c1 := zAh ⟨0,zAA⟩) (c2 := zAh ⟨0,zAA⟩) (.int .i64 RE) ((hb2.turn ht3 (by omega)).eqv (by simp [zAv,zAh,Value.cells])) (hb3.eqv (by simp [zAv,zAh,Value.cells])) rfl rfl rfl rfl Tryz.underlying29) rfl ⟨?_,(HB0.out.drew.trans (ht2.below (by omega))).trans (ht3.below (by omega))⟩
  rw [HRA.out,HRB.out,if_neg h0,if_neg h0]
 have HVO := zz (HVO.out h0)
 obtain ⟨V,hls⟩ := HVW.out h0
 obtain ⟨a1,ha1⟩ : ∃ a,(zAs sl.val s).1 = a := ⟨_,rfl⟩
 obtain ⟨a2,ha2⟩ : ∃ a,(zAs sl.val s).2 = a := ⟨_,rfl⟩
 obtain ⟨p1,hp1⟩ : ∃ p,ptA sj.val a1 = p := ⟨_,rfl⟩
 obtain ⟨p2,hp2⟩ : ∃ p,ptA sj.val a2 = p := ⟨_,rfl⟩
 have HI1 : Hid (I64 a1) := zz (by rw [← ha1];exact (V.endI s).1)
 have HI2 : Hid (I64 a2) := zz (by rw [← ha2];exact (V.endI s).2)
 have HEA : Hid ((zAs sl.val s).1 = a1 ∧ (zAs sl.val s).2 = a2) := zz ⟨ha1,ha2⟩
 have HP1 : Hid ((atA sj.val a1).getD zAA = p1) := zz hp1
 have HP2 : Hid ((atA sj.val a2).getD zAA = p2) := zz hp2
 simp only [h0,if_true,ha1,ha2,hp1,hp2] at HRA HRB
 clear hls V ha1 ha2 hp1 hp2 HVB HVW
 have hsz0 : w.heap.size + 1 + 1 + 1 < ((((w.alloc (.cells #[.slice sj.a sj.val.length sj.cap, .slice sl.a sl.val.length sl.cap] 25)).alloc (.cells (zAa s) 59)).alloc (.cells #[.int .i64 0, .int .i64 0, .int .i64 0] 29)).alloc (.cells #[.int .i64 0, .int .i64 0, .int .i64 0] 29)).heap.size := HR2.out.lt
 go_upto_region 4 with (first
  | ((with_reducible refine zAk 11 ?_);refine zAj HWB.out rfl 25 _ rfl rfl #[.slice sj.a sj.val.length sj.cap, .slice sl.a sl.val.length sl.cap] (zAe _) Tryz.underlying25 ?_)
  | ((with_reducible refine zAk 12 ?_);refine zAj HSB.out rfl 59 _ rfl rfl (zAa s) (zAe _) Tryz.underlying59 ?_)
  | (go_at_call 100;refine (HVO.out _ HB0.out).mono ?_;rintro e w1 ⟨b,rfl,hbb,hn1,hb1⟩;have HN := zz hn1;have HBB := zz (Nat.lt_of_lt_of_le hsz0 hbb);replace HR1 := zz (HR1.out.belowAll hb1);replace HR2 := zz (HR2.out.belowAll hb1);replace HSB := zz (HSB.out.belowAll hb1);replace HB0 := zz (HB0.out.trans (hb1.mono HB0.out.size));clear hb1 hbb hn1))
 have HE : Hid (Det 111 #[.pointer (some ⟨b,0,none⟩), .agg (zAa s)] (.tuple #[.int .i64 a1, .int .i64 a2]) w1) := zz fun W hW => by
  have := zEx s HI.out W (HN.out.below hW)
  rw [HEA.out.1,HEA.out.2] at this
  exact this.mono fun _ _ ⟨h1,h2⟩ => ⟨h1,h2.below (Nat.le_refl _)⟩
 refine rgR [0,1,2,3,4,5,6,7] [] (fun _ => (0,#[])) [] ?_
 (refine wD rfl rfl ?_;simp only [pT])
 refine zAm (v := _) rfl rfl (fun W hW => zAd _ (HSB.out.belowAll hW) rfl (zAe _) Tryz.underlying59) ?_;simp only [pT]
 refine zAL _ _ _ rfl rfl (fun W => by go_simp;try with_reducible rfl) (HE.out) ?_;simp only [pT]
 iterate 5 (refine wD rfl rfl ?_;simp only [pT])
 intro f W1 HW1 h1 h2;simp only [zAQ];clear h1 h2 f
 refine zAw [22,23,24,21,25,26] fun u => ?_;simp only [zAD,pT]
 simp only [wpS]
 have HW1K := HW1
 replace HB0 := zz (HB0.out.trans (HW1.mono HB0.out.size))
 replace HR1 := zz (HR1.out.belowAll HW1)
 replace HR2 := zz (HR2.out.belowAll HW1)
 clear HW1
 replace HN := zz (HN.out.below HW1K)
 obtain ⟨ba,bl,bo,N,mo,hbN,haN,hlN,hoN,hnb,hma,hml,hmo,hout⟩ := HN.out
 have HNB := zz hnb
 have HMA := zz hma
 have HNE : Hid (b ≠ w.heap.size + 1 + 1 ∧ ba ≠ w.heap.size + 1 + 1 ∧ b ≠ w.heap.size + 1 + 1 + 1 ∧ ba ≠ w.heap.size + 1 + 1 + 1) := zz ⟨by have := HBB.out;omega,box_map hma HR1.out,by have := HBB.out;omega,box_map hma HR2.out⟩
 clear hbN haN hlN hoN hnb hma hml hmo hout HN HE
 go_upto_region 5 with (fail)
 refine zDl (fun W => zAc W b 125 #[.slice sj.a sj.val.length sj.cap, .slice sl.a sl.val.length sl.cap, .map (some ba), .map (some bl), .map (some bo)] ∧ MapAt vi zAK I64 W ba (zA7 sj.val)) [(0,true),(1,true),(2,true),(3,true),(4,true),(5,true),(6,true),(7,true),(8,true),(9,true),(10,true),(11,true),(12,true),(13,true),(14,true),(15,true),(16,false),(17,false),(18,true)] rfl (by kernel_rfl) (by kernel_rfl) (fun d _ _ _ _ h => by cases d <;> exact h) ⟨HNB.out.drew,HMA.out.drewM⟩ ?_
 refine wS rfl rfl ?_;simp only [pT]
 refine wS rfl rfl ?_;simp only [pT]
 refine wS rfl rfl ?_;simp only [pT]
 refine wS rfl rfl ?_;simp only [pT]
 refine zBs (v := .map (some ba)) rfl rfl (fun W hW => by have e := hW.1.cell 2;go_simp) ?_;simp only [pT]
 refine wS rfl rfl ?_;simp only [pT]
 refine zBs (v := zAK p1) rfl rfl (fun W hW => Eq.trans (zA0 zAN Tryz.underlying120 zAA (zBe _) rfl hW.2 a1 HI1.out rfl) (by rw [zA6,HP1.out];rfl)) ?_;simp only [pT]
 refine zBs (v := .agg (zAh ⟨a1,p1⟩)) rfl rfl (fun W hW => by go_simp;rfl) ?_;simp only [pT]
 refine wS rfl rfl ?_;simp only [pT]
 refine wS rfl rfl ?_;simp only [pT]
 refine wS rfl rfl ?_;simp only [pT]
 refine wS rfl rfl ?_;simp only [pT]
 refine zBs (v := .map (some ba)) rfl rfl (fun W hW => by have e := hW.1.cell 2;go_simp) ?_;simp only [pT]
 refine wS rfl rfl ?_;simp only [pT]
 refine zBs (v := zAK p2) rfl rfl (fun W hW => Eq.trans (zA0 zAN Tryz.underlying120 zAA (zBe _) rfl hW.2 a2 HI2.out rfl) (by rw [zA6,HP2.out];rfl)) ?_;simp only [pT]
 refine zBs (v := .agg (zAh ⟨a2,p2⟩)) rfl rfl (fun W hW => by go_simp;rfl) ?_;simp only [pT]
 refine zAw [27,28,29,30,31,32,33,35,36,37,38,39,40,41] fun u => ?_;simp only [zAD,pT]
 refine zBT rfl rfl (fun K hK => zAr (HR1.out.drew) 29 _ _ rfl rfl (.agg (zAh ⟨a1,p1⟩)) rfl (by kernel_rfl) (by rfl) (zAG _) fun W2 hb2 ht2 => hK _ _ ⟨HNB.out.drew.turn ht2 HNE.out.1,HMA.out.drewM.turn ht2 HNE.out.2.1⟩ ?_)
 simp only [pT]
 refine zBT rfl rfl (fun K hK => zAr (HR2.out.drew.turn ht2 (by omega)) 29 _ _ rfl rfl (.agg (zAh ⟨a2,p2⟩)) rfl (by kernel_rfl) (by rfl) (zAG _) fun W3 hb3 ht3 => hK _ _ ⟨(HNB.out.drew.turn ht2 HNE.out.1).turn ht3 HNE.out.2.2.1,(HMA.out.drewM.turn ht2 HNE.out.2.1).turn ht3 HNE.out.2.2.2⟩ ?_)
 simp only [pT]
 refine wS rfl rfl ?_;simp only [pT]
 simp only [wpS]
 go_wp2
 refine bodyPost_ret (zDt (c1 := zAh ⟨a1,p1⟩) (c2 := zAh ⟨a2,p2⟩) (.int .i64 0) ((hb2.turn ht3 (by omega)).eqv (by simp [zAv,zAh,Value.cells])) (hb3.eqv (by simp [zAv,zAh,Value.cells])) rfl rfl rfl rfl Tryz.underlying29) rfl ⟨?_,(HB0.out.drew.trans (ht2.below (by omega))).trans (ht3.below (by omega))⟩
 rw [HRA.out,HRB.out,h0]
theorem Flange_any (sj : Sl Joint) (sl : Sl Lead) (s : Side) (w : World) (hj : sj.OK 3 zAh zAu (fun _ => False) w) (hl : sl.OK 8 zAf zAB (fun _ => False) w) (hi : I64 s.lead) :
  Calls Tryz.prog 57 #[.agg #[.slice sj.a sj.val.length sj.cap, .slice sl.a sl.val.length sl.cap], .agg (zAa s)] w fun e w' => e = .returned (.tuple #[.int .i64 (zEp sj.val sl.val s), .int .i64 (zDL sj.val sl.val s.lead)]) ∧ Below w.heap.size w w' := by
 have HI := zz hi
 have HB0 : Hid (Below w.heap.size w ((w.alloc (.cells #[.slice sj.a sj.val.length sj.cap, .slice sl.a sl.val.length sl.cap] 25)).alloc (.cells (zAa s) 59))) := zz ((((Lays.refl w).alloc _).alloc _).below (Nat.le_refl _))
 have HWB : Hid (zAc ((w.alloc (.cells #[.slice sj.a sj.val.length sj.cap, .slice sl.a sl.val.length sl.cap] 25)).alloc (.cells (zAa s) 59)) (w.heap.size) 25 #[.slice sj.a sj.val.length sj.cap, .slice sl.a sl.val.length sl.cap]) := zz ((zAc.new w 25 #[.slice sj.a sj.val.length sj.cap, .slice sl.a sl.val.length sl.cap]).alloc _)
 have HSB : Hid (zAc ((w.alloc (.cells #[.slice sj.a sj.val.length sj.cap, .slice sl.a sl.val.length sl.cap] 25)).alloc (.cells (zAa s) 59)) (w.heap.size + 1) 59 (zAa s)) := zz (by have := zAc.new (w.alloc (.cells #[.slice sj.a sj.val.length sj.cap, .slice sl.a sl.val.length sl.cap] 25)) 59 (zAa s);simpa only [World.size_alloc] using this : zAc _ _ _ _)
 obtain ⟨R,hR⟩ : ∃ r,zEp sj.val sl.val s = r := ⟨_,rfl⟩
 have hEE : zDL sj.val sl.val s.lead = zBI sj.val sl.val s := rfl
 obtain ⟨RE,hRE⟩ : ∃ r,zBI sj.val sl.val s = r := ⟨_,rfl⟩
 have HVO : Hid (RE = 0 → ∀ W,Below w.heap.size w W → Calls Tryz.prog 100 #[.agg #[.slice sj.a sj.val.length sj.cap, .slice sl.a sl.val.length sl.cap], .agg (zAa s)] W (zD9 sj sl W)) := zz fun h W hW => zDg sj sl s W (hj.jmoved hW) (hl.lmoved hW) hi (by rw [hRE];exact h)
 have HVB : Hid (RE ≠ 0 → ∀ W,Below w.heap.size w W → Calls Tryz.prog 100 #[.agg #[.slice sj.a sj.val.length sj.cap, .slice sl.a sl.val.length sl.cap], .agg (zAa s)] W fun e w' => e = .returned (.tuple #[.pointer none, .int .i64 RE]) ∧ Below W.heap.size W w') := zz fun h W hW => by have := sided_err sj sl s W (hj.jmoved hW) (hl.lmoved hW) hi (by rw [hRE];exact h);rwa [hRE] at this
 obtain ⟨x,hx⟩ : ∃ x,(zBh sl.val s.lead).getD zBu = x := ⟨_,rfl⟩
 have HX := zz hx
 have HR : Hid (R = if s.back = true then (if RE = 0 then x else zBu).right else (if RE = 0 then x else zBu).left) := zz (by rw [← hR];unfold zEp zCQ;rw [hEE,hRE,hx])
 obtain ⟨sb,hsb⟩ : ∃ b,s.back = b := ⟨_,rfl⟩
 have HS := zz hsb
 simp only [hR,hEE,hRE,hsb] at HR ⊢
 clear hj hl hR hRE hsb hx hi hEE
 go_enter Tryz.func57,Tryz.ntmps57
 by_cases h0 : RE = 0
 case neg =>
  have HVB := zz (HVB.out h0)
  go_wp2_with (first
   | ((with_reducible refine zAk 9 ?_);refine zAj HWB.out rfl 25 _ rfl rfl #[.slice sj.a sj.val.length sj.cap, .slice sl.a sl.val.length sl.cap] (zAe _) Tryz.underlying25 ?_)
   | ((with_reducible refine zAk 10 ?_);refine zAj HSB.out rfl 59 _ rfl rfl (zAa s) (zAe _) Tryz.underlying59 ?_)
   | (go_at_call 100;refine (HVB.out _ HB0.out).mono ?_;rintro e w1 ⟨rfl,hb1⟩;replace HB0 := zz (HB0.out.trans (hb1.mono HB0.out.size));clear hb1))
  go_ret2
  have e0 : R = 0 := by rw [HR.out,if_neg h0];split <;> rfl
  rw [e0]
  exact ⟨rfl,HB0.out⟩
 have HVG := zz (HVO.out h0)
 clear HVB HVO
 subst h0
 go_upto_region 4 with (first
  | ((with_reducible refine zAk 9 ?_);refine zAj HWB.out rfl 25 _ rfl rfl #[.slice sj.a sj.val.length sj.cap, .slice sl.a sl.val.length sl.cap] (zAe _) Tryz.underlying25 ?_)
  | ((with_reducible refine zAk 10 ?_);refine zAj HSB.out rfl 59 _ rfl rfl (zAa s) (zAe _) Tryz.underlying59 ?_)
  | (go_at_call 100;refine (HVG.out _ HB0.out).mono ?_;rintro e w1 ⟨b,rfl,hbb,hn1,hb1⟩;have HN := zz hn1;replace HSB := zz (HSB.out.belowAll hb1);replace HB0 := zz (HB0.out.trans (hb1.mono HB0.out.size));clear hb1 hbb hn1))
 refine rgR [0,1] [] (fun _ => (0,#[])) [] ?_
 (refine wD rfl rfl ?_;simp only [pT])
 refine zAm (v := _) rfl rfl (fun W hW => by have e := (HSB.out.belowAll hW).cell;go_simp;with_reducible rfl) ?_;simp only [pT]
 intro f W1 HW1 h1 h2;simp only [zAQ];clear h1 h2 f
 refine zAw [17] fun u => ?_;simp only [zAD,pT]
 simp only [wpS]
 have HW1K := HW1
 replace HB0 := zz (HB0.out.trans (HW1.mono HB0.out.size))
 replace HSB := zz (HSB.out.belowAll HW1)
 clear HW1
 replace HN := zz (HN.out.below HW1K)
 obtain ⟨ba,bl,bo,N,mo,hbN,haN,hlN,hoN,hnb,hma,hml,hmo,hout⟩ := HN.out
 have HNB := zz hnb
 have HMA := zz hml
 clear hbN haN hlN hoN hnb hma hml hmo hout HN
 simp only [HS.out]
 clear HS
 cases sb
 ·simp only [Bool.false_eq_true,if_false,if_true] at HR
  go_upto_region 6 with (fail)
  refine rgD [0,1,2,3,4,5,6,7,8,9] [] (fun _ => (0,#[])) [] ?_
  iterate 3 (refine wD rfl rfl ?_;simp only [pT])
  refine zAm (v := .map (some bl)) rfl rfl (fun W hW => by have e := (HNB.out.drew.belowAll hW).cell 3;go_simp) ?_;simp only [pT]
  (refine wD rfl rfl ?_;simp only [pT])
  refine zAm (v := _) rfl rfl (fun W hW => by have e := (HSB.out.drew.belowAll hW).cell;go_simp;with_reducible rfl) ?_;simp only [pT]
  refine zAm (v := zCB x) rfl rfl (fun W hW => Eq.trans (zA0 zAN Tryz.underlying122 zBu (zEv _) rfl (HMA.out.drewM.below hW HMA.out.drewM.lt) s.lead HI.out rfl) (by rw [zDA,HX.out];rfl)) ?_;simp only [pT]
  refine zAm (v := .int .i64 x.left) rfl rfl (fun W hW => by unfold zCB;go_simp;try rfl) ?_;simp only [pT]
  iterate 2 (refine wD rfl rfl ?_;simp only [pT])
  intro f W1 HW1 h1 h2;simp only [zAQ];clear h1 h2 f
  refine zAw [27,28,29,30,31,32,33,34] fun u => ?_;simp only [zAD,pT]
  simp only [wpS]
  replace HB0 := zz (HB0.out.drew.trans (HW1.mono HB0.out.drew.size))
  clear HW1
  go_wp2
  go_ret2
  rw [HR.out]
  exact ⟨rfl,HB0.out⟩
 ·simp only [if_true] at HR
  go_upto_region 5 with (fail)
  refine rgD [0,1,2,3,4,5,6,7,8,9] [] (fun _ => (0,#[])) [] ?_
  iterate 3 (refine wD rfl rfl ?_;simp only [pT])
  refine zAm (v := .map (some bl)) rfl rfl (fun W hW => by have e := (HNB.out.drew.belowAll hW).cell 3;go_simp) ?_;simp only [pT]
  (refine wD rfl rfl ?_;simp only [pT])
  refine zAm (v := _) rfl rfl (fun W hW => by have e := (HSB.out.drew.belowAll hW).cell;go_simp;with_reducible rfl) ?_;simp only [pT]
  refine zAm (v := zCB x) rfl rfl (fun W hW => Eq.trans (zA0 zAN Tryz.underlying122 zBu (zEv _) rfl (HMA.out.drewM.below hW HMA.out.drewM.lt) s.lead HI.out rfl) (by rw [zDA,HX.out];rfl)) ?_;simp only [pT]
  refine zAm (v := .int .i64 x.right) rfl rfl (fun W hW => by unfold zCB;go_simp;try rfl) ?_;simp only [pT]
  iterate 2 (refine wD rfl rfl ?_;simp only [pT])
  intro f W1 HW1 h1 h2;simp only [zAQ];clear h1 h2 f
  refine zAw [19,20,21,22,23,24,25,26] fun u => ?_;simp only [zAD,pT]
  simp only [wpS]
  replace HB0 := zz (HB0.out.drew.trans (HW1.mono HB0.out.drew.size))
  clear HW1
  go_wp2
  go_ret2
  rw [HR.out]
  exact ⟨rfl,HB0.out⟩
@[go_sem] theorem eqGuardS_Side : Tryz.prog.eqGuardType Tryz.prog.depth 62 = false := by kernel_rfl
@[go_sem high] theorem eqlS_Side (w : World) (a : Option Addr) (l c : Nat) : (binOp .eql 62 (.slice a l c) (.slice none 0 0)).run Tryz.prog w = .ok (.bool a.isNone) w := run_eql_slice_nil w _ _ a l c Tryz.underlying62
theorem clone_Side {ok : (Nat → Prop) → World → Side → Prop} (D : Nat → Prop) (s : Sl Side) (w : World) (hs : Sl.OK 2 zAa ok D w s) :
  Calls Tryz.prog 124 #[.slice s.a s.val.length s.cap] w fun e w' => ∃ v,e = .returned v ∧ OwnL zAa 2 w' w.heap.size 59 v s.val ∧ (v = .slice none 0 0 ↔ s.a = none) ∧ Below w.heap.size w w' := by
 have hroom := hs.room
 have HS := zz hs
 clear hs
 obtain ⟨a,cap,val⟩ := s
 simp only at hroom
 cases a with
 | none =>
  obtain ⟨h1,h2⟩ := HS.out.isNil rfl
  simp only at h1 h2
  subst h1;subst h2
  go_enter Tryz.func124,Tryz.ntmps124
  go_wp2
  go_ret
  exact ⟨_,rfl,OwnL.nil _ _ _ _ _,by simp,Below.refl _ _⟩
 | some p =>
  by_cases hz : val = []
  ·subst hz
   go_enter Tryz.func124,Tryz.ntmps124
   go_wp2_with (with_reducible refine zAk 7 ?_;refine zC8 rfl _ _ 62 rfl w.heap.size zB2 (by decide) (by decide) _ [] rfl (OwnL.empty zAa 2 w _) p cap rfl (by simp) (by simp) ?_;intro v w1 hown hg hnil;replace hnil : v ≠ .slice none 0 0 := fun e => absurd (hnil.1 e) (by simp [Act.eval,Act.put]))
   go_ret
   exact ⟨v,rfl,hown,⟨fun e => absurd e hnil,fun e => by simp at e⟩,Below.appended (OwnL.empty zAa 2 w _) hg (Nat.le_refl _) (by simp) |> ((Below.refl _ _).alloc (Nat.le_refl _) _).trans⟩
  have hpos := List.length_pos_iff.2 hz
  obtain ⟨b,o,sp⟩ := p
  obtain ⟨h1,h2,h3⟩ := HS.out.place _ rfl hpos
  clear hpos hz
  simp only at h1 h2 h3
  subst h1
  have hE := HS.out.cell b o rfl
  have HC : Hid (∀ i y,val[i]? = some y → ∀ j,j < 2 → (w.alloc (.cells #[] 59)).cell? ⟨b,o + i * 2 + j,none⟩ = (zAa y)[j]?) := zz fun i y hi j hj => by
   rw [World.cell?_of_block (w := w) ((MapKept.heap_alloc w _).2 b h3)]
   exact hE i y hi j hj
  clear hE
  go_enter Tryz.func124,Tryz.ntmps124
  go_wp2_with (with_reducible refine zAk 7 ?_;refine zC7 rfl _ _ 62 rfl w.heap.size zB2 (fun _ => rfl) (by decide) zAp (by decide) _ [] rfl (OwnL.empty _ _ w _) b o cap val rfl HC.out (by simp only [List.length_nil];omega) (by simp) ?_;intro v w1 hown hg hnil;replace hnil : v ≠ .slice none 0 0 := fun e => absurd (hnil.1 e).1 (by simp [Act.eval,Act.put]))
  go_ret
  exact ⟨v,rfl,hown,⟨fun e => absurd e hnil,fun e => by simp at e⟩,Below.appended (OwnL.empty zAa 2 w _) hg (Nat.le_refl _) (by simp) |> ((Below.refl _ _).alloc (Nat.le_refl _) _).trans⟩
theorem Around_any (sj : Sl Joint) (sl : Sl Lead) (j : Int) (w : World) (hj : sj.OK 3 zAh zAu (fun _ => False) w) (hl : sl.OK 8 zAf zAB (fun _ => False) w) (hi : I64 j) :
  Calls Tryz.prog 59 #[.agg #[.slice sj.a sj.val.length sj.cap, .slice sl.a sl.val.length sl.cap], .int .i64 j] w (zCJ sj sl j w) := by
 have HIG := zz hi
 have HB0 : Hid (Below w.heap.size w (w.alloc (.cells #[.slice sj.a sj.val.length sj.cap, .slice sl.a sl.val.length sl.cap] 25))) := zz (((Lays.refl w).alloc _).below (Nat.le_refl _))
 have HWB : Hid (zAc (w.alloc (.cells #[.slice sj.a sj.val.length sj.cap, .slice sl.a sl.val.length sl.cap] 25)) (w.heap.size) 25 #[.slice sj.a sj.val.length sj.cap, .slice sl.a sl.val.length sl.cap]) := zz (zAc.new w 25 #[.slice sj.a sj.val.length sj.cap, .slice sl.a sl.val.length sl.cap])
 obtain ⟨E,hE⟩ : ∃ E,(zAE sj.val sl.val).1 = E := ⟨_,rfl⟩
 obtain ⟨RE,hRE⟩ : ∃ r,zCP sj.val sl.val j = r := ⟨_,rfl⟩
 have HRE : Hid (RE = if E ≠ 0 then E else if (atA sj.val j).isSome = true then 0 else 3) := zz (by rw [← hRE,← hE];rfl)
 have HO : Hid (∀ e w',zCJ sj sl j w e w' ↔ ∃ v,e = .returned (.tuple #[v, .int .i64 RE]) ∧ OwnL zAa 2 w' w.heap.size 59 v (if RE = 0 then outA sj.val sl.val j else []) ∧ Below w.heap.size w w') := zz fun e w' => by unfold zCJ;rw [hRE]
 have HVO : Hid (E = 0 → ∀ W,Below w.heap.size w W → Calls Tryz.prog 86 #[.agg #[.slice sj.a sj.val.length sj.cap, .slice sl.a sl.val.length sl.cap]] W (zD9 sj sl W)) := zz fun h W hW => zCU sj sl W (hj.jmoved hW) (hl.lmoved hW) (by rw [hE];exact h)
 have HVB : Hid (E ≠ 0 → ∀ W,Below w.heap.size w W → Calls Tryz.prog 86 #[.agg #[.slice sj.a sj.val.length sj.cap, .slice sl.a sl.val.length sl.cap]] W fun e w' => e = .returned (.tuple #[.pointer none, .int .i64 E]) ∧ Below W.heap.size W w') := zz fun h W hW => by have := zEa sj sl W (hj.jmoved hW) (hl.lmoved hW) (by rw [hE];exact h);rwa [hE] at this
 have HLN : Hid (E = 0 → (outA sj.val sl.val j).length ≤ 800) := zz fun h => by
  have V := zB9 (by rw [hE];exact h)
  have h1 := (zCc (ltAt sj.val sl.val j) (zAx j sl.val)).length_eq
  have h2 := zD8 j sl.val
  have h3 := V.nl
  unfold outA;omega
 clear hj hl hi hE hRE
 go_enter Tryz.func59,Tryz.ntmps59
 by_cases h0 : E = 0
 case neg =>
  have HVB := zz (HVB.out h0)
  go_wp2_with (first
   | ((with_reducible refine zAk 11 ?_);refine zAj HWB.out rfl 25 _ rfl rfl #[.slice sj.a sj.val.length sj.cap, .slice sl.a sl.val.length sl.cap] (zAe _) Tryz.underlying25 ?_)
   | (go_at_call 86;refine (HVB.out _ HB0.out).mono ?_;rintro e w1 ⟨rfl,hb1⟩;replace HB0 := zz (HB0.out.trans (hb1.mono HB0.out.size));clear hb1))
  go_ret2
  have e1 : RE = E := by rw [HRE.out,if_pos h0]
  refine (HO.out _ _).2 ⟨_,by rw [e1];rfl, ?_,HB0.out⟩
  rw [e1,if_neg h0]
  exact OwnL.nil _ _ _ _ _
 have HVO := zz (HVO.out h0)
 have hln := HLN.out h0
 go_upto_region 4 with (first
  | ((with_reducible refine zAk 11 ?_);refine zAj HWB.out rfl 25 _ rfl rfl #[.slice sj.a sj.val.length sj.cap, .slice sl.a sl.val.length sl.cap] (zAe _) Tryz.underlying25 ?_)
  | (go_at_call 86;refine (HVO.out _ HB0.out).mono ?_;rintro e w1 ⟨b,rfl,hbb,hn1,hb1⟩;have HN := zz hn1;replace HB0 := zz (HB0.out.trans (hb1.mono HB0.out.size));clear hb1 hbb hn1))
 have HN0 := zz HN.out
 obtain ⟨ba,bl,bo,N,mo,hbN,haN,hlN,hoN,hnb,hma,hml,hmo,hout⟩ := HN.out
 have HNB := zz hnb
 have HMA := zz hma
 have HMO := zz hmo
 have HOU := zz hout
 clear hbN haN hlN hoN hnb hma hml hmo hout HN HN0
 obtain ⟨p,hp⟩ : ∃ p,(atA sj.val j).getD zAA = p := ⟨_,rfl⟩
 obtain ⟨q,hq⟩ : ∃ q,(atA sj.val j).isSome = q := ⟨_,rfl⟩
 have HP := zz hp
 have HQ : Hid (ahas (zA7 sj.val) j = q) := zz (by rw [joint_has];exact hq)
 simp only [hq] at HRE
 clear hp hq
 refine rgQ [0,1,2,3,4,5,6,7,8] [9,10,11] ?_
 iterate 3 (refine wD rfl rfl ?_;simp only [pT])
 refine zAm (v := .map (some ba)) rfl rfl (fun W hW => by have e := (HNB.out.belowAll hW).cell 2;go_simp) ?_;simp only [pT]
 (refine wD rfl rfl ?_;simp only [pT])
 refine zAm (v := .tuple #[zAK p, .bool q]) rfl rfl (fun W hW => Eq.trans (zA0 zAN Tryz.underlying120 zAA (zBe _) rfl (HMA.out.below hW HMA.out.lt) j HIG.out rfl) (by rw [zA6,HP.out,HQ.out];rfl)) ?_;simp only [pT]
 iterate 3 (refine wD rfl rfl ?_;simp only [pT])
 intro W1 HW1
 refine zBk [19,20,21,22,23,24,18] fun u => ?_;simp only [zAD,pT]
 refine zCD (T := 27) (cs := #[.int .i64 0, .int .i64 0]) rfl (by kernel_rfl) ?_;simp only [zBm,pT]
 have hfb := zAc.new W1 27 #[.int .i64 0, .int .i64 0]
 have HW3 := HW1.trans (((Below.refl W1.heap.size W1).alloc (Nat.le_refl _) (.cells #[.int .i64 0, .int .i64 0] 27)).mono HW1.size)
 have hfl := HW1.size
 obtain ⟨jp,hj⟩ : ∃ j,W1.heap.size = j := ⟨_,rfl⟩
 rw [hj] at hfb hfl
 simp only [hj]
 refine zA3 hfb rfl rfl (.agg (zAb p)) rfl (by kernel_rfl) (by rfl) (zAM _) fun W2 hb2 ht2 => ?_
 have HPB := zz (hb2.eqv (cs' := zAb p) (by simp [zAv,zAb,Value.cells]))
 have HW2 := HW3.trans (ht2.below hfl)
 refine zBx rfl rfl (by go_simp;with_reducible rfl) ?_;simp only [pT]
 refine zBc ?_
 clear hb2 ht2 hfl hfb HW1 HW3 hj W1
 have HW2K := HW2
 replace HB0 := zz (HB0.out.trans (HW2.mono HB0.out.size))
 clear HW2
 replace HMO := zz (HMO.out.below HW2K HMO.out.lt)
 replace HOU := zz (HOU.out.below HW2K)
 have qn := (HNB.out.belowAll HW2K).cell 4
 have qn := qn.trans (show _ = some (.map (some bo)) from rfl)
 clear HNB HMA
 cases q
 ·go_wp2
  go_ret2
  have e1 : RE = 3 := by rw [HRE.out,if_neg (by simpa using h0)];simp
  refine (HO.out _ _).2 ⟨_,by rw [e1];rfl, ?_,HB0.out⟩
  rw [e1,if_neg (by decide)]
  exact OwnL.nil _ _ _ _ _
 ·have e1 : Hid (RE = 0) := zz (by rw [HRE.out,if_neg (by simpa using h0)];simp)
  obtain ⟨s,hs1,hs2,hs3,_⟩ := (HOU.out.at j).sl (fun _ => rfl) (fun _ _ _ => True) (fun _ => False) (fun _ _ => trivial) (fun _ _ h => h) (by omega)
  have HSV : Hid (id ((aget mo j).getD nilS) = .slice s.a s.val.length s.cap) := zz hs1
  have HSO := zz hs3
  have HS2 := zz hs2
  clear hs1 hs2 hs3
  go_wp2_with (first
   | ((with_reducible refine zAk 34 ?_);refine zAW rfl _ _ 123 rfl zAN Tryz.underlying123 nilS (zDn _) rfl HMO.out j HIG.out rfl ?_;rw [HSV.out])
   | (go_at_call 124;refine (clone_Side _ s _ HSO.out).mono ?_;rintro e w3 ⟨v,rfl,ho3,_,hb3⟩;have HO3 := zz ho3;have HB3 := zz hb3;clear ho3 hb3))
  go_ret2
  refine (HO.out _ _).2 ⟨v,by rw [e1.out];rfl, ?_,HB0.out.trans (HB3.out.mono HB0.out.size)⟩
  rw [e1.out,if_pos rfl,← HS2.out]
  exact HO3.out.base_le HB0.out.size
end Go.Proofs.YtbbblemfodpmaaaGreat
end
section
namespace Go.Proofs.YtbbblemfodpmaaaGreat
open Go.RowKit
def fewB (n m : Nat) : Bool := (decide (200 < (n : Int)) && decide ((n : Int) ≤ 400) && decide ((m : Int) ≤ 800)) || (decide ((n : Int) ≤ 60) && (decide ((m : Int) ≤ 90) || (decide (400 < (m : Int)) && decide ((m : Int) ≤ 800))))
theorem few_lt {n m : Nat} (h : fewB n m = true) : n ≤ 400 ∧ m ≤ 800 := by
 unfold fewB at h
 simp only [Bool.or_eq_true,Bool.and_eq_true,decide_eq_true_eq] at h
 omega
theorem few_det (a1 a2 : Option Addr) (n c1 m c2 : Nat) (w : World) : Det 17 #[.agg #[.slice a1 n c1, .slice a2 m c2]] (.bool (fewB n m)) w := fun w0 hw0 => by
 clear hw0 w
 obtain ⟨w,rfl⟩ : ∃ w,w = w0 := ⟨_,rfl⟩
 have HB0 : Hid (Below w.heap.size w (w.alloc (.cells #[.slice a1 n c1, .slice a2 m c2] 25))) := zz (((Lays.refl w).alloc _).below (Nat.le_refl _))
 have HWB : Hid (zAc (w.alloc (.cells #[.slice a1 n c1, .slice a2 m c2] 25)) (w.heap.size) 25 #[.slice a1 n c1, .slice a2 m c2]) := zz (zAc.new w 25 #[.slice a1 n c1, .slice a2 m c2])
 have HR : Hid (fewB n m = if (decide (200 < (n : Int)) && decide ((n : Int) ≤ 400) && decide ((m : Int) ≤ 800)) = true then true else (decide ((n : Int) ≤ 60) && (decide ((m : Int) ≤ 90) || (decide (400 < (m : Int)) && decide ((m : Int) ≤ 800))))) := zz (by unfold fewB;split <;> simp [*])
 obtain ⟨R,hR⟩ : ∃ R,fewB n m = R := ⟨_,rfl⟩
 simp only [hR] at HR ⊢
 clear hR
 go_enter Tryz.func17,Tryz.ntmps17
 go_upto_region 1 with (fail)
 refine rgR [0,1,2,3,4,5,6,7,8,9,10,11,12,13,14,15] [] (fun _ => (0,#[])) [] ?_
 (refine wD rfl rfl ?_;simp only [pT])
 refine zAm (v := _) rfl rfl (fun W hW => by have e := (HWB.out.belowAll hW).cell;go_simp;with_reducible rfl) ?_;simp only [pT]
 iterate 3 (refine wD rfl rfl ?_;simp only [pT])
 (refine wI rfl rfl ?_;simp only [pT])
 refine zAH (v := _) rfl rfl (fun hg W hW => by (try simp only [Bool.and_eq_true] at hg);(try simp only [hg,Bool.and_self,zAJ]);have e := (HWB.out.belowAll hW).cell;go_simp;with_reducible rfl) ?_;simp only [pT]
 iterate 2 (refine wI rfl rfl ?_;simp only [pT])
 refine zCb rfl rfl rfl ?_;simp only [pT]
 (refine wD rfl rfl ?_;simp only [pT])
 (refine wI rfl rfl ?_;simp only [pT])
 refine zAH (v := _) rfl rfl (fun hg W hW => by (try simp only [Bool.and_eq_true] at hg);(try simp only [hg,Bool.and_self,zAJ]);have e := (HWB.out.belowAll hW).cell;go_simp;with_reducible rfl) ?_;simp only [pT]
 iterate 2 (refine wI rfl rfl ?_;simp only [pT])
 refine zCb rfl rfl rfl ?_;simp only [pT]
 intro f W1 HW1 h1 h2;simp only [zAQ];clear h1 h2 f
 refine zAw [3,4,5,6,7,8,9,10,11,12,13,14,15,16,17] fun u => ?_;simp only [zAD,pT]
 simp only [wpS]
 replace HB0 := zz (HB0.out.trans (HW1.mono HB0.out.size))
 replace HWB := zz (HWB.out.belowAll HW1)
 clear HW1
 obtain ⟨q,hq⟩ : ∃ q,(decide (200 < (n : Int)) && decide ((n : Int) ≤ 400) && decide ((m : Int) ≤ 800)) = q := ⟨_,rfl⟩
 simp only [hq] at HR ⊢
 clear hq
 cases q
 ·rw [if_neg (by decide)] at HR
  go_upto_region 3 with (fail)
  refine rgQ [0,1,2,3,4,5,6,7,8,9,10,11,12,13,14,15,16,17,18,19,20,21,22] [] ?_
  (refine wD rfl rfl ?_;simp only [pT])
  refine zAm (v := _) rfl rfl (fun W hW => by have e := (HWB.out.belowAll hW).cell;go_simp;with_reducible rfl) ?_;simp only [pT]
  iterate 3 (refine wD rfl rfl ?_;simp only [pT])
  (refine wI rfl rfl ?_;simp only [pT])
  refine zAH (v := _) rfl rfl (fun hg W hW => by (try simp only [Bool.and_eq_true] at hg);(try simp only [hg,Bool.and_self,zAJ]);have e := (HWB.out.belowAll hW).cell;go_simp;with_reducible rfl) ?_;simp only [pT]
  iterate 3 (refine wI rfl rfl ?_;simp only [pT])
  (refine wJ rfl rfl ?_;simp only [pT])
  refine zCi (v := _) rfl rfl (fun hg W hW => by (try simp only [Bool.and_eq_true] at hg);(try simp only [hg,Bool.and_self,zAJ]);have e := (HWB.out.belowAll hW).cell;go_simp;with_reducible rfl) ?_;simp only [pT]
  iterate 4 (refine wJ rfl rfl ?_;simp only [pT])
  refine zCi (v := _) rfl rfl (fun hg W hW => by (try simp only [Bool.and_eq_true] at hg);(try simp only [hg,Bool.and_self,zAJ]);have e := (HWB.out.belowAll hW).cell;go_simp;with_reducible rfl) ?_;simp only [pT]
  iterate 2 (refine wJ rfl rfl ?_;simp only [pT])
  refine zEH rfl (wanted_2 rfl) rfl rfl ?_;simp only [pT]
  refine wpD_orG rfl (zDb rfl) rfl rfl ?_;simp only [pT]
  refine zCb rfl rfl rfl ?_;simp only [pT]
  (refine wD rfl rfl ?_;simp only [pT])
  intro W1 HW1
  refine zBk [19,20,21,22,23,24,25,26,27,28,29,30,31,32,33,34,35,36,37,38,39,40] fun u => ?_;simp only [zAD,pT]
  refine zBc ?_
  replace HB0 := zz (HB0.out.trans (HW1.mono HB0.out.size))
  clear HW1
  go_wp2
  go_ret
  rw [HR.out]
  exact ⟨rfl,HB0.out⟩
 ·rw [if_pos rfl] at HR
  go_wp2
  go_ret
  rw [HR.out]
  exact ⟨rfl,HB0.out⟩
end Go.Proofs.YtbbblemfodpmaaaGreat
end
