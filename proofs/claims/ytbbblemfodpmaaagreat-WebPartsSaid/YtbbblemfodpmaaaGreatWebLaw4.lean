/-WebParts answers true: the law.-/
import Derived.Test.YtbbblemfodpmaaaGreatWebWy
import Derived.Test.YtbbblemfodpmaaaGreatWebGz
set_option linter.unusedVariables false
set_option linter.unusedSimpArgs false
set_option maxHeartbeats 16000000
set_option maxRecDepth 100000
namespace Go.Proofs.YtbbblemfodpmaaaGreat
open Go.RowKit
theorem ints_det (a1 a2 : Option Addr) (c1 c2 : Nat) (L : List Int) (w : World) (h1 : Sl.OK 1 zAu (fun _ _ _ => True) (fun _ => False) w ⟨a1,c1,L⟩) (h2 : Sl.OK 1 zAu (fun _ _ _ => True) (fun _ => False) w ⟨a2,c2,L⟩) (hlen : L.length ≤ 800) :
  Det 30 #[.slice a1 L.length c1, .slice a2 L.length c2] (.bool true) w := fun w0 hw0 => by
 obtain ⟨b1,o1,k1⟩ := (h1.up hw0).intAt;obtain ⟨b2,o2,k2⟩ := (h2.up hw0).intAt;have HK1 := zz k1;have HK2 := zz k2;have HB0 : Hid (Below w0.heap.size w0 w0) := zz (Below.refl _ _);clear h1 h2 hw0 w k1 k2;obtain ⟨w,rfl⟩ : ∃ w,w = w0 := ⟨_,rfl⟩
 obtain ⟨n,hn⟩ : ∃ n,L.length = n := ⟨_,rfl⟩
 have HN := zz hn;simp only [hn] at hlen ⊢;clear hn;go_enter Tryz.func30,Tryz.ntmps30;go_wp2
 go_loopw [5] (fun i wr => ∃ k : Nat,k ≤ n ∧ i = .int .i64 k ∧ Hid (Below w.heap.size w wr)) (fun i _ => n - (intOf i).toNat)
 case atStart => exact ⟨0,Nat.zero_le _,rfl,HB0⟩
 case round =>
  obtain ⟨k,hk,rfl,HW⟩ := hrel
  by_cases hlt : k < n
  ·obtain ⟨x,hx⟩ : ∃ y,L[k]? = some y := ⟨_,List.getElem?_eq_getElem (by rw [HN.out];exact hlt)⟩
   obtain ⟨e1,d1⟩ := HK1.out k x hx;obtain ⟨e2,d2⟩ := HK2.out k x hx;subst e1 e2;replace HB0 := HW;have HC1 : Hid (∀ W,Below wr.drew.heap.size wr.drew W → W.cell? ⟨b1,o1 + k,none⟩ = some (.int .i64 x)) := zz fun W hW => d1 W (HW.out.drew.trans (hW.mono HW.out.drew.size));have HC2 : Hid (∀ W,Below wr.drew.heap.size wr.drew W → W.cell? ⟨b2,o2 + k,none⟩ = some (.int .i64 x)) := zz fun W hW => d2 W (HW.out.drew.trans (hW.mono HW.out.drew.size));clear hx d1 d2 HW
   go_upto_region 6 with (fail)
   refine rgD [0,1,2,3,4,5,6,7,8] [] (fun _ => (0,#[])) [] ?_;iterate 3 (refine wD rfl ?_;simp only [pT])
   refine zAi (v := .int .i64 x) rfl rfl (fun W hW => by have e := HC1.out W hW;go_simp) ?_;simp only [pT];iterate 3 (refine wD rfl ?_;simp only [pT])
   refine zAi (v := .int .i64 x) rfl rfl (fun W hW => by have e := HC2.out W hW;go_simp) ?_;simp only [pT];refine zAi (v := .bool false) rfl rfl (fun W hW => by go_simp;try simp) ?_;simp only [pT];intro f W1 HW1 h1 h2;simp only [zAJ];clear h1 h2 f;refine zAr [17,18,19,20,21,22,23,24] fun u => ?_;simp only [zAw,pT];simp only [wpS];replace HB0 := zz (HB0.out.drew.trans (HW1.mono HB0.out.drew.size));clear HW1;go_wp2;go_roundw
   case rel => exact ⟨k + 1,by omega,by go_num,HB0⟩
   case measure => simp [intOf];omega
  ·have hkn : k = n := by omega
   subst hkn;go_wp2;go_ret;exact ⟨rfl,HW.out⟩
def CoS (W : World) (N : Nat) (v : Value) (ss : List (Sl Int)) (L : List (List Int)) : Prop := OwnLL zAu 1 3 50 W N v ss ∧ ss.map Sl.val = L
theorem CoS.belowAll {W W' : World} {N : Nat} {v : Value} {ss : List (Sl Int)} {L : List (List Int)} (h : CoS W N v ss L) (hb : Below W.heap.size W W') : CoS W' N v ss L := ⟨h.1.belowAll hb,h.2⟩
theorem compsO_len (js : List Joint) (ls : List Lead) : (zCH js ls).length ≤ 200 ∧ ∀ c ∈ zCH js ls,c.length ≤ 200 := by
 unfold zCH
 split
 ·rename_i h;have V := zBU h;refine ⟨zFR V,fun c hc => ?_⟩;unfold zBL at hc;have := zFy (P := togA js ls 0 0) (B := 0) (js.map (·.id)) ([],[]) (by simp) c hc;have := V.nj;simp at *;omega
 ·simp
theorem bridgesO_len (js : List Joint) (ls : List Lead) : (zDk js ls).length ≤ 400 := by
 unfold zDk zCd
 split
 ·rename_i h;have := (zBU h).nl;rw [List.length_map];exact Nat.le_trans (List.length_filter_le _ _) this
 ·simp
theorem pinchesO_len (js : List Joint) (ls : List Lead) : (zDl js ls).length ≤ 200 := by
 unfold zDl zCe
 split
 ·rename_i h;have := (zBU h).nj;rw [List.length_map];exact Nat.le_trans (List.length_filter_le _ _) this
 ·simp
theorem wparts_any (sj : Sl Joint) (sl : Sl Lead) (w : World) (hj : sj.OK 3 zAg zAt (fun _ => False) w) (hl : sl.OK 8 zAe zAx (fun _ => False) w) (hf : fewB sj.val.length sl.val.length = true) :
  Calls Tryz.prog 5 #[.agg #[.slice sj.a sj.val.length sj.cap, .slice sl.a sl.val.length sl.cap]] w fun e w' => e = .returned (.bool true) ∧ Below w.heap.size w w' := by
 have HF := zz (few_det sj.a sl.a sj.val.length sj.cap sl.val.length sl.cap w);rw [hf] at HF;have DE1 : Hid (Det 28 #[.agg #[.slice sj.a sj.val.length sj.cap, .slice sl.a sl.val.length sl.cap]] (.tuple #[.agg (zAL (zEZ sj.val sl.val)), .int .i64 (zAA sj.val sl.val).1]) w) := zz fun W hW => by
  unfold zEZ
  by_cases h0 : (zAA sj.val sl.val).1 = 0
  ·rw [if_pos h0,h0];exact Euler_ok sj sl W (hj.jmoved hW) (hl.lmoved hW) h0
  ·rw [if_neg h0];exact Euler_bad sj sl W (hj.jmoved hW) (hl.lmoved hW) h0
 have DE2 : Hid (Det 29 #[.agg #[.slice sj.a sj.val.length sj.cap, .slice sl.a sl.val.length sl.cap]] (.tuple #[.agg (zAL (zEZ sj.val sl.val)), .int .i64 (zAA sj.val sl.val).1]) w) := zz fun W hW => rEuler_any sj sl W (hj.jmoved hW) (hl.lmoved hW);have comp : ∀ (f : Nat) (W : World),(Calls Tryz.prog f #[.agg #[.slice sj.a sj.val.length sj.cap, .slice sl.a sl.val.length sl.cap]] W fun e w' => ∃ v ss,e = .returned (.tuple #[v, .int .i64 (zAA sj.val sl.val).1]) ∧ OwnLL zAu 1 3 50 w' W.heap.size v ss ∧ ss.map Sl.val = zCH sj.val sl.val ∧ Below W.heap.size W w') →
   Calls Tryz.prog f #[.agg #[.slice sj.a sj.val.length sj.cap, .slice sl.a sl.val.length sl.cap]] W fun e w' => ∃ a ss c,e = .returned (.tuple #[.slice a (zCH sj.val sl.val).length c, .int .i64 (zAA sj.val sl.val).1]) ∧ CoS w' W.heap.size (.slice a (zCH sj.val sl.val).length c) ss (zCH sj.val sl.val) ∧ Below W.heap.size W w' := fun f W h => h.mono fun e w' => by
  rintro ⟨v,ss,rfl,ho,hss,hb⟩;obtain ⟨a,c,e⟩ := ho.outer.shape;have hle : ss.length = (zCH sj.val sl.val).length := by rw [← hss,List.length_map]
  rw [hle] at e;subst e;exact ⟨a,ss,c,rfl,⟨ho,hss⟩,hb⟩
 have DC1 := zz fun (W : World) (hW : Below w.heap.size w W) => comp _ W (zGy sj sl W (hj.jmoved hW) (hl.lmoved hW));have DC2 := zz fun (W : World) (hW : Below w.heap.size w W) => comp _ W (zGx sj sl W (hj.jmoved hW) (hl.lmoved hW));have DB1 := zz fun (W : World) (hW : Below w.heap.size w W) => Bridges_all sj sl W (hj.jmoved hW) (hl.lmoved hW);have DB2 := zz fun (W : World) (hW : Below w.heap.size w W) => rBridges_any sj sl W (hj.jmoved hW) (hl.lmoved hW);have DP1 := zz fun (W : World) (hW : Below w.heap.size w W) => Pinches_all sj sl W (hj.jmoved hW) (hl.lmoved hW);have DP2 := zz fun (W : World) (hW : Below w.heap.size w W) => rPinches_any sj sl W (hj.jmoved hW) (hl.lmoved hW);obtain ⟨HB0,HWB⟩ := zP1 w #[.slice sj.a sj.val.length sj.cap, .slice sl.a sl.val.length sl.cap] 25;obtain ⟨hcl,hcl2⟩ := compsO_len sj.val sl.val;have hbl := bridgesO_len sj.val sl.val;have hpl := pinchesO_len sj.val sl.val;obtain ⟨CO,h1⟩ : ∃ r,zCH sj.val sl.val = r := ⟨_,rfl⟩
 obtain ⟨BO,h2⟩ : ∃ r,zDk sj.val sl.val = r := ⟨_,rfl⟩
 obtain ⟨PO,h3⟩ : ∃ r,zDl sj.val sl.val = r := ⟨_,rfl⟩
 obtain ⟨cn,h4⟩ : ∃ r,zEZ sj.val sl.val = r := ⟨_,rfl⟩
 obtain ⟨ec,h7⟩ : ∃ r,(zAA sj.val sl.val).1 = r := ⟨_,rfl⟩
 simp only [h1,h2,h3,h4,h7] at DC1 DC2 DB1 DB2 DP1 DP2 DE1 DE2 hcl hcl2 hbl hpl;have HCL := zz hcl;have HCL2 := zz hcl2;have HBL := zz hbl;have HPL := zz hpl;clear h1 h2 h3 h4 h7 hj hl hf comp hcl hcl2 hbl hpl;go_enter Tryz.func5,Tryz.ntmps5
 go_upto_region 4 with (first
  | (go_at_call 13;refine (awake_any _).mono ?_;rintro e w1 ⟨rfl,hb1⟩;replace HWB := zz (HWB.out.belowAll hb1);replace HB0 := hTr HB0 hb1;clear hb1)
  | (refine zLd 22 HWB.out #[.slice sj.a sj.val.length sj.cap, .slice sl.a sl.val.length sl.cap] zuC ?_)
  | (go_at_call 17;refine (HF.out _ HB0.out).mono ?_;rintro e w1 ⟨rfl,hb1⟩;replace HWB := zz (HWB.out.belowAll hb1);replace HB0 := hTr HB0 hb1;clear hb1))
 go_upto_region 5 with (first
  | (refine zLd 27 HWB.out #[.slice sj.a sj.val.length sj.cap, .slice sl.a sl.val.length sl.cap] zuC ?_)
  | (go_at_call 22;refine (DC1.out _ HB0.out).mono ?_;rintro e w1 ⟨a1,s1,m1,rfl,ho1,hb1⟩;have HO1 := zz ho1;replace HWB := zz (HWB.out.belowAll hb1);replace HB0 := hTr HB0 hb1;clear ho1 hb1))
 go_upto_region 6 with (first
  | (refine zLd 32 HWB.out #[.slice sj.a sj.val.length sj.cap, .slice sl.a sl.val.length sl.cap] zuC ?_)
  | (go_at_call 23;refine (DC2.out _ HB0.out).mono ?_;rintro e w1 ⟨a2,s2,m2,rfl,ho1,hb1⟩;have HO2 := zz ho1;replace HWB := zz (HWB.out.belowAll hb1);replace HO1 := zz (HO1.out.belowAll hb1);replace HB0 := hTr HB0 hb1;clear ho1 hb1))
 go_upto_region 7 with (first
  | (refine zLd 37 HWB.out #[.slice sj.a sj.val.length sj.cap, .slice sl.a sl.val.length sl.cap] zuC ?_)
  | (go_at_call 24;refine (DB1.out _ HB0.out).mono ?_;rintro e w1 ⟨v3,rfl,ho1,hb1⟩;have HO3 := zz ho1;replace HWB := zz (HWB.out.belowAll hb1);replace HO1 := zz (HO1.out.belowAll hb1);replace HO2 := zz (HO2.out.belowAll hb1);replace HB0 := hTr HB0 hb1;clear ho1 hb1))
 go_upto_region 8 with (first
  | (refine zLd 42 HWB.out #[.slice sj.a sj.val.length sj.cap, .slice sl.a sl.val.length sl.cap] zuC ?_)
  | (go_at_call 25;refine (DB2.out _ HB0.out).mono ?_;rintro e w1 ⟨v4,rfl,ho1,hb1⟩;have HO4 := zz ho1;replace HWB := zz (HWB.out.belowAll hb1);replace HO1 := zz (HO1.out.belowAll hb1);replace HO2 := zz (HO2.out.belowAll hb1);replace HO3 := zz (HO3.out.belowAll hb1);replace HB0 := hTr HB0 hb1;clear ho1 hb1))
 go_upto_region 9 with (first
  | (refine zLd 47 HWB.out #[.slice sj.a sj.val.length sj.cap, .slice sl.a sl.val.length sl.cap] zuC ?_)
  | (go_at_call 26;refine (DP1.out _ HB0.out).mono ?_;rintro e w1 ⟨v5,rfl,ho1,hb1⟩;have HO5 := zz ho1;replace HWB := zz (HWB.out.belowAll hb1);replace HO1 := zz (HO1.out.belowAll hb1);replace HO2 := zz (HO2.out.belowAll hb1);replace HO3 := zz (HO3.out.belowAll hb1);replace HO4 := zz (HO4.out.belowAll hb1);replace HB0 := hTr HB0 hb1;clear ho1 hb1))
 go_upto_region 10 with (first
  | (refine zLd 52 HWB.out #[.slice sj.a sj.val.length sj.cap, .slice sl.a sl.val.length sl.cap] zuC ?_)
  | (go_at_call 27;refine (DP2.out _ HB0.out).mono ?_;rintro e w1 ⟨v6,rfl,ho1,hb1⟩;have HO6 := zz ho1;replace HWB := zz (HWB.out.belowAll hb1);replace HO1 := zz (HO1.out.belowAll hb1);replace HO2 := zz (HO2.out.belowAll hb1);replace HO3 := zz (HO3.out.belowAll hb1);replace HO4 := zz (HO4.out.belowAll hb1);replace HO5 := zz (HO5.out.belowAll hb1);replace HB0 := hTr HB0 hb1;clear ho1 hb1))
 refine rgQ [0,1,2,3,4] [5,6,7] ?_;refine zAi (v := _) rfl rfl (fun W hW => zAc _ (HWB.out.belowAll hW) rfl (zAh _) zuC) ?_;simp only [pT];refine zAI _ _ _ rfl rfl (fun W => by go_simp;try with_reducible rfl) (DE1.out.moved HB0.out) ?_;simp only [pT];iterate 3 (refine wD rfl ?_;simp only [pT])
 intro W1 HW1;refine zA9 [57,58,56] fun u => ?_;simp only [zAw,pT];refine zDK (T := 54) (cs := #[.int .i64 0, .int .i64 0, .int .i64 0, .int .i64 0]) rfl (by kernel_rfl) ?_;simp only [zBj,World.size_alloc,pT];have hfb0 := zAd.new W1 54 #[.int .i64 0, .int .i64 0, .int .i64 0, .int .i64 0];have HW3 := HW1.trans (((Below.refl W1.heap.size W1).alloc (Nat.le_refl _) (.cells #[.int .i64 0, .int .i64 0, .int .i64 0, .int .i64 0] 54)).mono HW1.size);have hfl := HW1.size;refine zB6 hfb0 rfl rfl (.agg (zAL cn)) rfl (by kernel_rfl) (by rfl) (zDt _) fun W2 hbs0 hts0 => ?_;have HV0 := HW3.trans (hts0.below (by omega));have HN1 := zz (hbs0.eqv (cs' := zAL cn) (by simp [zAB,zAL,Value.cells]));refine wpO_val rfl rfl (by go_simp;with_reducible rfl) ?_;simp only [pT];refine zBs ?_;have HW2 := HV0;obtain ⟨j1,hj0⟩ : ∃ j,W1.heap.size = j := ⟨_,rfl⟩
 simp only [hj0] at HN1 ⊢;clear hfb0 hbs0 hts0 HV0 hfl HW1 HW3 hj0;replace HB0 := hTr HB0 HW2;replace HWB := zz (HWB.out.belowAll HW2);replace HO1 := zz (HO1.out.belowAll HW2);replace HO2 := zz (HO2.out.belowAll HW2);replace HO3 := zz (HO3.out.belowAll HW2);replace HO4 := zz (HO4.out.belowAll HW2);replace HO5 := zz (HO5.out.belowAll HW2);replace HO6 := zz (HO6.out.belowAll HW2);clear HW2
 go_upto_region 11 with (fail)
 refine rgQ [0,1,2,3,4] [5,6,7] ?_;refine zAi (v := _) rfl rfl (fun W hW => zAc _ (HWB.out.belowAll hW) rfl (zAh _) zuC) ?_;simp only [pT];refine zAI _ _ _ rfl rfl (fun W => by go_simp;try with_reducible rfl) (DE2.out.moved HB0.out) ?_;simp only [pT];iterate 3 (refine wD rfl ?_;simp only [pT])
 intro W1 HW1;refine zA9 [62,63,61] fun u => ?_;simp only [zAw,pT];refine zDK (T := 54) (cs := #[.int .i64 0, .int .i64 0, .int .i64 0, .int .i64 0]) rfl (by kernel_rfl) ?_;simp only [zBj,World.size_alloc,pT];have hfb0 := zAd.new W1 54 #[.int .i64 0, .int .i64 0, .int .i64 0, .int .i64 0];have HW3 := HW1.trans (((Below.refl W1.heap.size W1).alloc (Nat.le_refl _) (.cells #[.int .i64 0, .int .i64 0, .int .i64 0, .int .i64 0] 54)).mono HW1.size);have hfl := HW1.size;refine zB6 hfb0 rfl rfl (.agg (zAL cn)) rfl (by kernel_rfl) (by rfl) (zDt _) fun W2 hbs0 hts0 => ?_;have HV0 := HW3.trans (hts0.below (by omega));have HN2 := zz (hbs0.eqv (cs' := zAL cn) (by simp [zAB,zAL,Value.cells]));refine wpO_val rfl rfl (by go_simp;with_reducible rfl) ?_;simp only [pT];refine zBs ?_;have HW2 := HV0;obtain ⟨j2,hj0⟩ : ∃ j,W1.heap.size = j := ⟨_,rfl⟩
 simp only [hj0] at HN2 ⊢;clear hfb0 hbs0 hts0 HV0 hfl HW1 HW3 hj0;replace HB0 := hTr HB0 HW2;replace HWB := zz (HWB.out.belowAll HW2);replace HO1 := zz (HO1.out.belowAll HW2);replace HO2 := zz (HO2.out.belowAll HW2);replace HO3 := zz (HO3.out.belowAll HW2);replace HO4 := zz (HO4.out.belowAll HW2);replace HO5 := zz (HO5.out.belowAll HW2);replace HO6 := zz (HO6.out.belowAll HW2);replace HN1 := zz (HN1.out.belowAll HW2);clear HW2;obtain ⟨a3,c3,rfl⟩ := HO3.out.shape;obtain ⟨a4,c4,rfl⟩ := HO4.out.shape;obtain ⟨a5,c5,rfl⟩ := HO5.out.shape;obtain ⟨a6,c6,rfl⟩ := HO6.out.shape;have HS3 := zz (ints_det a3 a4 c3 c4 BO _ (HO3.out.okSl (fun _ => rfl) (fun _ _ _ => True) (fun _ _ => trivial) (by have := HBL.out;omega)) (HO4.out.okSl (fun _ => rfl) (fun _ _ _ => True) (fun _ _ => trivial) (by have := HBL.out;omega)) (by have := HBL.out;omega));have HS5 := zz (ints_det a5 a6 c5 c6 PO _ (HO5.out.okSl (fun _ => rfl) (fun _ _ _ => True) (fun _ _ => trivial) (by have := HPL.out;omega)) (HO6.out.okSl (fun _ => rfl) (fun _ _ _ => True) (fun _ _ => trivial) (by have := HPL.out;omega)) (by have := HPL.out;omega));clear HO3 HO4 HO5 HO6 DC1 DC2 DB1 DB2 DP1 DP2 DE1 DE2
 go_upto_region 12 with (fail)
 refine rgQ [0,1,2,3,4,5,6,7,8,9,10,11,12,13,14,15,16,17,18,19,20,21,22,23,24,25,26,27,28,29,30,31,32,33,34,35,36,37,38,39,40,41] [] ?_;iterate 2 (refine wD rfl ?_;simp only [pT])
 refine zAi (v := .bool false) rfl rfl (fun W hW => by go_simp;try simp [zCJ]) ?_;simp only [pT]
 (refine wD rfl ?_;simp only [pT])
 iterate 4 (refine wI rfl ?_;simp only [pT])
 refine zAz (v := .bool false) rfl rfl (fun hg W hW => by (try simp only [Bool.and_eq_true] at hg);(try simp only [hg,Bool.and_self,zAy]);go_simp;try simp [zCJ]) ?_;simp only [pT];refine zBw rfl rfl rfl ?_;simp only [pT]
 (refine wD rfl ?_;simp only [pT])
 iterate 2 (refine wI rfl ?_;simp only [pT])
 refine zBn _ _ _ rfl rfl (fun hg W => by go_simp;try with_reducible rfl) (fun hg => HS3.out.moved (Below.refl _ _)) ?_;simp only [pT]
 (refine wI rfl ?_;simp only [pT])
 refine zBw rfl rfl rfl ?_;simp only [pT]
 (refine wD rfl ?_;simp only [pT])
 iterate 2 (refine wI rfl ?_;simp only [pT])
 refine zAz (v := .bool false) rfl rfl (fun hg W hW => by (try simp only [Bool.and_eq_true] at hg);(try simp only [hg,Bool.and_self,zAy]);go_simp;try simp [zCJ]) ?_;simp only [pT];refine zBw rfl rfl rfl ?_;simp only [pT]
 (refine wD rfl ?_;simp only [pT])
 iterate 2 (refine wI rfl ?_;simp only [pT])
 refine zBn _ _ _ rfl rfl (fun hg W => by go_simp;try with_reducible rfl) (fun hg => HS5.out.moved (Below.refl _ _)) ?_;simp only [pT]
 (refine wI rfl ?_;simp only [pT])
 refine zBw rfl rfl rfl ?_;simp only [pT]
 (refine wD rfl ?_;simp only [pT])
 iterate 2 (refine wI rfl ?_;simp only [pT])
 refine zAz (v := .bool false) rfl rfl (fun hg W hW => by (try simp only [Bool.and_eq_true] at hg);(try simp only [hg,Bool.and_self,zAy]);go_simp;try simp [zCJ]) ?_;simp only [pT];refine zBw rfl rfl rfl ?_;simp only [pT]
 (refine wD rfl ?_;simp only [pT])
 refine zAz (v := _) rfl rfl (fun hg W hW => zAc _ (HN1.out.belowAll hW) rfl (zAh _) zuI) ?_;simp only [pT];refine zAz (v := _) rfl rfl (fun hg W hW => zAc _ (HN2.out.belowAll hW) rfl (zAh _) zuI) ?_;simp only [pT];refine zAz (v := .bool false) rfl rfl (fun hg W hW => by (try simp only [Bool.and_eq_true] at hg);(try simp only [hg,Bool.and_self,zAy]);go_simp;try simp [zCJ]) ?_;simp only [pT];refine zBw rfl rfl rfl ?_;simp only [pT]
 (refine wD rfl ?_;simp only [pT])
 iterate 2 (refine wI rfl ?_;simp only [pT])
 refine zAz (v := .bool false) rfl rfl (fun hg W hW => by (try simp only [Bool.and_eq_true] at hg);(try simp only [hg,Bool.and_self,zAy]);go_simp;try simp [zCJ]) ?_;simp only [pT];refine zBw rfl rfl rfl ?_;simp only [pT];intro W1 HW1;refine zA9 [66,67,68,69,70,71,72,73,74,75,76,77,78,79,80,81,82,83,84,85,86,87,88,89,90,91,92,93,94,95,96,97,98,99,100,101,102,103,104,105,106] fun u => ?_;simp only [zAw,pT];refine zBs ?_;replace HB0 := hTr HB0 HW1;replace HO1 := zz (HO1.out.belowAll HW1);replace HO2 := zz (HO2.out.belowAll HW1);clear HW1;clear HS3 HS5;have hnc := HCL.out;obtain ⟨nc,hn⟩ : ∃ n,CO.length = n := ⟨_,rfl⟩
 have HNC := zz hn;rw [hn] at hnc;simp only [hn] at HO1 HO2 ⊢;clear hn;go_wp2
 go_loopw [20] (fun i wr => ∃ k : Nat,k ≤ nc ∧ i = .int .i64 k ∧ Hid (Below W1.heap.size W1 wr)) (fun i _ => nc - (intOf i).toNat)
 case atStart => exact ⟨0,Nat.zero_le _,rfl,zz (Below.refl _ _)⟩
 case round =>
  obtain ⟨k,hk,rfl,HW⟩ := hrel
  by_cases hlt : k < nc
  ·obtain ⟨l,hy⟩ : ∃ y,CO[k]? = some y := ⟨_,List.getElem?_eq_getElem (by rw [HNC.out];exact hlt)⟩
   have hll := HCL2.out l (List.mem_of_getElem? hy);have pick : ∀ (N : Nat) (ss : List (Sl Int)) (a : Option Addr) (c : Nat),CoS W1 N (.slice a nc c) ss CO → ∃ g p q,a = some ⟨g,0,none⟩ ∧ W1.cell? ⟨g,k,none⟩ = some (.slice p l.length q) ∧ g < W1.heap.size ∧ Sl.OK 1 zAu (fun _ _ _ => True) (fun _ => False) W1 ⟨p,q,l⟩ := fun N ss a c h => by
    obtain ⟨hO,hv⟩ := h;have hln : ss.length = nc := by rw [← HNC.out,← hv,List.length_map]
    rw [← hv,List.getElem?_map] at hy;obtain ⟨s,hs,e2⟩ := Option.map_eq_some_iff.1 hy;obtain ⟨p,q,sv⟩ := s;simp only at e2;subst e2;obtain ⟨g,cap,cur,e,hb,_,hc,_⟩ := hO.outer.place (by omega) hs;simp only [Value.slice.injEq] at e;refine ⟨g,p,q,e.1,(hb.cell k).trans hc,hb.lt,(hO.inner _ (List.mem_of_getElem? hs)).okSl (fun _ => rfl) (fun _ _ _ => True) (fun _ _ => trivial) (show sv.length ≤ 4294967296 by omega)⟩
   obtain ⟨g1,p1,c1,rfl,hc1,hl1,hk1⟩ := pick _ s1 _ _ HO1.out;obtain ⟨g2,p2,c2,rfl,hc2,hl2,hk2⟩ := pick _ s2 _ _ HO2.out;have HSS : Hid (Det 30 #[.slice p1 l.length c1, .slice p2 l.length c2] (.bool true) wr.drew) := zz ((ints_det p1 p2 c1 c2 l _ hk1 hk2 (by omega)).moved HW.out.drew);have HC1 : Hid (∀ W,Below wr.drew.heap.size wr.drew W → W.cell? ⟨g1,k,none⟩ = some (.slice p1 l.length c1)) := zz fun W hW => by
    rw [(HW.out.drew.trans (hW.mono HW.out.drew.size)).cell (p := ⟨g1,k,none⟩) hl1];exact hc1
   have HC2 : Hid (∀ W,Below wr.drew.heap.size wr.drew W → W.cell? ⟨g2,k,none⟩ = some (.slice p2 l.length c2)) := zz fun W hW => by
    rw [(HW.out.drew.trans (hW.mono HW.out.drew.size)).cell (p := ⟨g2,k,none⟩) hl2];exact hc2
   have HW2 := zz (HB0.out.trans (HW.out.mono HB0.out.size));clear pick hc1 hc2 hl1 hl2 hk1 hk2 hy hll
   go_upto_region 17 with (fail)
   refine rgD [0,1,2,3,4,5,6,7,8,9] [] (fun _ => (0,#[])) [] ?_;iterate 3 (refine wD rfl ?_;simp only [pT])
   refine zAi (v := .slice p1 l.length c1) rfl rfl (fun W hW => by have e := HC1.out W hW;go_simp;try with_reducible rfl) ?_;simp only [pT];iterate 3 (refine wD rfl ?_;simp only [pT])
   refine zAi (v := .slice p2 l.length c2) rfl rfl (fun W hW => by have e := HC2.out W hW;go_simp;try with_reducible rfl) ?_;simp only [pT];refine zAI _ _ _ rfl rfl (fun W => by go_simp;try with_reducible rfl) (HSS.out) ?_;simp only [pT]
   (refine wD rfl ?_;simp only [pT])
   intro f W1 HW1 h1 h2;simp only [zAJ];clear h1 h2 f;refine zAr [114,115,116,117,118,119,120,121,122] fun u => ?_;simp only [zAw,pT];simp only [wpS];go_wp2;go_roundw
   case rel => exact ⟨k + 1,by omega,by go_num,zz (HW.out.drew.trans (HW1.mono HW.out.drew.size))⟩
   case measure => simp [intOf];omega
  ·have hkn : k = nc := by omega
   subst hkn;go_wp2;go_ret;exact ⟨rfl,HB0.out.trans (HW.out.mono HB0.out.size)⟩
theorem wparts_big (a1 a2 : Option Addr) (n c1 m c2 : Nat) (w : World) (hf : fewB n m = false) :
  Calls Tryz.prog 5 #[.agg #[.slice a1 n c1, .slice a2 m c2]] w fun e w' => e = .returned (.bool true) ∧ Below w.heap.size w w' := by
 have HF := zz (few_det a1 a2 n c1 m c2 w);rw [hf] at HF;obtain ⟨HB0,HWB⟩ := zP1 w #[.slice a1 n c1, .slice a2 m c2] 25;clear hf;go_enter Tryz.func5,Tryz.ntmps5
 go_wp2_with (first
  | (go_at_call 13;refine (awake_any _).mono ?_;rintro e w1 ⟨rfl,hb1⟩;replace HWB := zz (HWB.out.belowAll hb1);replace HB0 := hTr HB0 hb1;clear hb1)
  | (refine zLd 22 HWB.out #[.slice a1 n c1, .slice a2 m c2] zuC ?_)
  | (go_at_call 17;refine (HF.out _ HB0.out).mono ?_;rintro e w1 ⟨rfl,hb1⟩;replace HB0 := hTr HB0 hb1;clear hb1))
 go_ret;exact ⟨rfl,HB0.out⟩
end Go.Proofs.YtbbblemfodpmaaaGreat
