/-The reference's Inside.-/
import Derived.Test.YtbbblemfodpmaaaGreatWebHb
import Derived.Test.YtbbblemfodpmaaaGreatWebGn
import Derived.Test.YtbbblemfodpmaaaGreatWebTx
import Derived.Test.YtbbblemfodpmaaaGreatWebPx
import Derived.Test.YtbbblemfodpmaaaGreatWebWx
import Derived.Test.YtbbblemfodpmaaaGreatWebWy
set_option linter.unusedVariables false
set_option linter.unusedSimpArgs false
set_option maxHeartbeats 16000000
set_option maxRecDepth 100000
section
namespace Go.Proofs.YtbbblemfodpmaaaGreat
open Go.RowKit
def edgR (a b p : Point) : Bool:=if decide (p.y < a.y) = decide (p.y < b.y) then false else if b.y < a.y then decide (0 < zAw b a p) else decide (0 < zAw a b p)
def insR (L : List Point) (p : Point) : Nat→Bool
 | 0=>false
 | k + 1=>if edgR ((L[k]?).getD zAF) ((L[(k + 1) % L.length]?).getD zAF) p = true then !insR L p k else insR L p k
theorem rInside_det (a : Option Addr) (c : Nat) (L : List Point) (p : Point) (w : World) (hS : Sl.OK 2 zAb (fun _ _ _=>True) (fun _=>False) w ⟨a,c,L⟩) (hlen : L.length ≤ 800) (hsm : ∀ q ∈ L,zAy q) (hp : zAy p) :
  Det 136 #[.slice a L.length c, .agg (zAb p)] (.bool (insR L p L.length)) w:=fun w0 hw0=>by
 have HSL:=zz (hS.up hw0);clear hS hw0 w;obtain ⟨w,rfl⟩ : ∃ w,w = w0:=⟨_,rfl⟩
 have HSM:=zz hsm;have HP:=zz hp;obtain ⟨HB0,HPB⟩:=zP1 w (zAb p) 27;obtain ⟨n,hn⟩ : ∃ n,L.length = n:=⟨_,rfl⟩
 have HN:=zz hn;simp only [hn] at hlen ⊢;obtain ⟨f,hf⟩ : ∃ f : Nat→Bool,insR L p = f:=⟨_,rfl⟩
 have HF : Hid (f 0 = false∧∀ k x y,L[k]? = some x→L[(k + 1) % n]? = some y→f (k + 1) = if edgR x y p = true then !f k else f k):=zz (by
  rw [← hf];refine ⟨rfl,fun k x y hx hy=>?_⟩
  show (if _ then _ else _) = _
  rw [hn,hx,hy];rfl)
 simp only [hf];clear hf hn hsm hp;go_enter Tryz.func136,Tryz.ntmps136;go_wp2
 go_loopw [5,6] (fun v i wr=>∃ k : Nat,k ≤ n∧i = .int .i64 k∧v = .bool (f k)∧Hid (zAe wr w.heap.size 27 (zAb p))∧Hid (Below w.heap.size w wr)) (fun _ i _=>n - (intOf i).toNat)
 case atStart=>exact ⟨0,Nat.zero_le _,rfl,by rw [HF.out.1],HPB,HB0⟩
 case round=>
  clear HPB HB0;obtain ⟨k,hk,rfl,rfl,HPB,HWR⟩:=hrel
  by_cases hlt : k < n
  case neg=>
   have hkn : k = n:=by omega
   subst hkn;go_wp2;go_ret;exact ⟨rfl,HWR.out⟩
  obtain ⟨x,hx⟩ : ∃ y,L[k]? = some y:=⟨_,List.getElem?_eq_getElem (by rw [HN.out];exact hlt)⟩
  obtain ⟨bb,o,e,hc⟩:=HSL.out.elemAt (fun _=>rfl) hx;simp only at e;subst e;obtain ⟨m,hm⟩ : ∃ m,(k + 1) % n = m:=⟨_,rfl⟩
  have hmn : m < n:=by rw [← hm];exact Nat.mod_lt _ (by omega)
  obtain ⟨y,hy⟩ : ∃ y,L[m]? = some y:=⟨_,List.getElem?_eq_getElem (by rw [HN.out];exact hmn)⟩
  obtain ⟨b2,o2,e,hc2⟩:=HSL.out.elemAt (fun _=>rfl) hy;simp only [Option.some.injEq,Addr.mk.injEq,and_true] at e;obtain ⟨rfl,rfl⟩:=e;have HPC : Hid (∀ W,Below wr.heap.size wr W→∀ j,j < (zAb x).size→W.cell? ⟨bb,o + k * 2 + j,none⟩ = (zAb x)[j]?):=zz fun W hW=>hc W (HWR.out.trans (hW.mono HWR.out.size));have HQC : Hid (∀ W,Below wr.heap.size wr W→∀ j,j < (zAb y).size→W.cell? ⟨bb,o + m * 2 + j,none⟩ = (zAb y)[j]?):=zz fun W hW=>hc2 W (HWR.out.trans (hW.mono HWR.out.size));have HST : Hid (f (k + 1) = if edgR x y p = true then !f k else f k):=zz (HF.out.2 k x y hx (by rw [hm];exact hy));have K0 : Hid (IntKind.i64.wrap ((k : Int) + 1) = ((k + 1 : Nat) : Int)):=zz (by rw [IntWalk.i64_in _ (by omega)];omega);have K3 : Hid (((k : Int) + 1).tmod (n : Int) = (m : Int)):=zz (by rw [← hm];rfl);have K5 : Hid (¬ n = 0):=zz (by omega);have HX:=zz (HSM.out x (List.mem_of_getElem? hx));have HY:=zz (HSM.out y (List.mem_of_getElem? hy));clear hc hc2 hm hx hy;replace HB0:=HWR;have hpl:=HPB.out.lt
  go_upto_region 5 with (fail)
  refine rgQ [0,1,2,3] [4,5] ?_;iterate 3 (refine wD rfl ?_;simp only [pT])
  refine zAi (v:=.agg (zAb x)) rfl rfl (fun W hW=>zAE (zAb x) (HPC.out W hW) rfl zuB) ?_;simp only [pT];intro W1 HW1;refine zA1 [16,17,18] fun u=>?_;simp only [zAu,pT];refine zCU (T := 27) (cs:=#[.int .i64 0, .int .i64 0]) rfl (by kernel_rfl) ?_;simp only [zBh,pT];have hfb:=zAe.new W1 27 #[.int .i64 0, .int .i64 0];have HW3:=HW1.trans (((Below.refl W1.heap.size W1).alloc (Nat.le_refl _) (.cells #[.int .i64 0, .int .i64 0] 27)).mono HW1.size);have hfl:=HW1.size;obtain ⟨ja,hj⟩ : ∃ j,W1.heap.size = j:=⟨_,rfl⟩
  rw [hj] at hfb hfl;simp only [hj];refine zBN hfb rfl rfl (.agg (zAb x)) rfl (by kernel_rfl) (by rfl) (zAD _) fun W2 hb2 ht2=>?_;have HBA:=zz (hb2.eqv (cs':=zAb x) (by simp [zAx,zAb,Value.cells]));have HW2:=HW3.trans (ht2.below hfl);refine zBe ?_;have HGA:=zz hfl;clear hb2 ht2 hfl hfb HW1 HW3 hj W1;have HW2K:=zz HW2;replace HB0:=hTr HB0 HW2;replace HPB:=zz (HPB.out.belowAll HW2);clear HW2;have HN1 : Hid (w.heap.size < ja):=zz (Nat.lt_of_lt_of_le hpl HGA.out);have hal:=HBA.out.lt
  go_upto_region 6 with (fail)
  refine rgQ [0,1,2,3,4,5,6,7] [8,9] ?_;iterate 2 (refine wD rfl ?_;simp only [pT])
  refine zAi (v:=.int .i64 (((k + 1 : Nat)) : Int)) rfl rfl (fun W hW=>by go_simp;try exact K0.out) ?_;simp only [pT];iterate 2 (refine wD rfl ?_;simp only [pT])
  refine zAi (v:=.int .i64 (m : Int)) rfl rfl (fun W hW=>by go_simp;rw [if_neg K5.out,K3.out]) ?_;simp only [pT];refine zAi (v:=.pointer (some ⟨bb,o + m * 2,none⟩)) rfl rfl (fun W hW=>by go_simp) ?_;simp only [pT];refine zAi (v:=.agg (zAb y)) rfl rfl (fun W hW=>zAE (zAb y) (HQC.out W (HW2K.out.trans (hW.mono HW2K.out.size))) rfl zuB) ?_;simp only [pT];intro W1 HW1;refine zA1 [20,21,22,23,24,25,26] fun u=>?_;simp only [zAu,pT];refine zCU (T := 27) (cs:=#[.int .i64 0, .int .i64 0]) rfl (by kernel_rfl) ?_;simp only [zBh,pT];have hfb:=zAe.new W1 27 #[.int .i64 0, .int .i64 0];have HW3:=HW1.trans (((Below.refl W1.heap.size W1).alloc (Nat.le_refl _) (.cells #[.int .i64 0, .int .i64 0] 27)).mono HW1.size);have hfl:=HW1.size;obtain ⟨jb,hj⟩ : ∃ j,W1.heap.size = j:=⟨_,rfl⟩
  rw [hj] at hfb hfl;simp only [hj];refine zBN hfb rfl rfl (.agg (zAb y)) rfl (by kernel_rfl) (by rfl) (zAD _) fun W3 hb2 ht2=>?_;have HBB:=zz (hb2.eqv (cs':=zAb y) (by simp [zAx,zAb,Value.cells]));have HW2:=HW3.trans (ht2.below hfl);refine zBe ?_;have HGB:=zz hfl;clear hb2 ht2 hfl hfb HW1 HW3 hj W1;replace HB0:=hTr HB0 HW2;replace HBA:=zz (HBA.out.belowAll HW2);replace HPB:=zz (HPB.out.belowAll HW2);clear HW2;have HN2 : Hid (ja < jb):=zz (Nat.lt_of_lt_of_le hal HGB.out);have HBB0:=HBB.out.lt;clear HPC HQC HW2K K0 K3 K5 hpl hal HGA HGB;have c1:=(HBA.out.cell 1).trans (show _ = some (.int .i64 x.y) from rfl);have c2:=(HBB.out.cell 1).trans (show _ = some (.int .i64 y.y) from rfl);have c3:=(HPB.out.cell 1).trans (show _ = some (.int .i64 p.y) from rfl);have HED : Hid (edgR x y p = if decide (p.y < x.y) = decide (p.y < y.y) then false else if y.y < x.y then decide (0 < zAw y x p) else decide (0 < zAw x y p)):=zz rfl
  by_cases h1 : p.y < x.y <;> by_cases h2 : p.y < y.y
  ·have HE : Hid (f (k + 1) = f k):=zz (by rw [HST.out,HED.out];simp [h1,h2]);clear HST HED;go_wp2;go_roundw
   case rel=>exact ⟨k + 1,by omega,by go_num,by rw [HE.out],HPB,HB0⟩
   case measure=>simp [intOf];omega
  ·have h3 : y.y < x.y:=by omega
   have HCR : Hid (∀ W : World,Calls Tryz.prog 179 #[.agg (zAb y), .agg (zAb x), .agg (zAb p)] W fun e w'=>e = .returned (.int .i64 (zAw y x p))∧Lays W w'):=zz fun W=>zD7 y x p HY.out HX.out HP.out W;obtain ⟨z,hz⟩ : ∃ z,zAw y x p = z:=⟨_,rfl⟩
   have HE : Hid (f (k + 1) = if 0 < z then !f k else f k):=zz (by rw [HST.out,HED.out,← hz];simp [h1,h2,h3]);rw [hz] at HCR;clear HST HED hz
   go_upto_region 9 with (fail)
   refine rgQ [0] [1,2] ?_;refine zAi (v:=_) rfl rfl (fun W hW=>zAc _ (HBA.out.belowAll hW) rfl (zAg _) zuB) ?_;simp only [pT];intro W1 HW1;refine zCU (T := 27) (cs:=#[.int .i64 0, .int .i64 0]) rfl (by kernel_rfl) ?_;simp only [zBh,pT];have hfb:=zAe.new W1 27 #[.int .i64 0, .int .i64 0];have HW3:=HW1.trans (((Below.refl W1.heap.size W1).alloc (Nat.le_refl _) (.cells #[.int .i64 0, .int .i64 0] 27)).mono HW1.size);have hfl:=HW1.size;obtain ⟨jc,hj⟩ : ∃ j,W1.heap.size = j:=⟨_,rfl⟩
   rw [hj] at hfb hfl;simp only [hj];refine zBN hfb rfl rfl (.agg (zAb x)) rfl (by kernel_rfl) (by rfl) (zAD _) fun W4 hb2 ht2=>?_;have HBC:=zz (hb2.eqv (cs':=zAb x) (by simp [zAx,zAb,Value.cells]));have HW2:=HW3.trans (ht2.below hfl);refine zBe ?_;have HGC:=zz hfl;clear hb2 ht2 hfl hfb HW1 HW3 hj W1;replace HB0:=hTr HB0 HW2;replace HBA:=zz (HBA.out.belowAll HW2);replace HBB:=zz (HBB.out.belowAll HW2);replace HPB:=zz (HPB.out.belowAll HW2);clear HW2;have HNE : Hid (w.heap.size < ja∧ja < jb∧jb < jc):=zz ⟨HN1.out,HN2.out,Nat.lt_of_lt_of_le HBB0 HGC.out⟩
   go_upto_region 11 with (first | (refine zLd 45 HBB.out (zAb y) zuB ?_) | ((with_reducible refine zAv 27 ?_);refine zAS HBA.out rfl _ _ _ rfl rfl (.agg (zAb y)) rfl (by kernel_rfl) (by rfl) (zAD _) ?_;intro w5 hb5 hT5;replace HBB:=zz (HBB.out.turn hT5 (by have:=HNE.out;omega));replace HBC:=zz (HBC.out.turn hT5 (by have:=HNE.out;omega));replace HPB:=zz (HPB.out.turn hT5 (by have:=HNE.out;omega));replace HBA:=zz (hb5.eqv (cs':=zAb y) (by simp [zAx,zAb,Value.cells]));replace HB0:=zz (HB0.out.trans (hT5.below (by have:=HNE.out;omega)));clear hb5 hT5))
   go_upto_region 12 with (first | (refine zLd 46 HBC.out (zAb x) zuB ?_) | ((with_reducible refine zAv 27 ?_);refine zAS HBB.out rfl _ _ _ rfl rfl (.agg (zAb x)) rfl (by kernel_rfl) (by rfl) (zAD _) ?_;intro w5 hb5 hT5;replace HBA:=zz (HBA.out.turn hT5 (by have:=HNE.out;omega));replace HPB:=zz (HPB.out.turn hT5 (by have:=HNE.out;omega));replace HBB:=zz (hb5.eqv (cs':=zAb x) (by simp [zAx,zAb,Value.cells]));replace HB0:=zz (HB0.out.trans (hT5.below (by have:=HNE.out;omega)));clear hb5 hT5))
   by_cases h6 : 0 < z
   ·have HE2 : Hid (f (k + 1) = !f k):=zz (by rw [HE.out,if_pos h6])
    go_wp2_with (first | (refine zLd 47 HBA.out (zAb y) zuB ?_) | (refine zLd 48 HBB.out (zAb x) zuB ?_) | (refine zLd 49 HPB.out (zAb p) zuB ?_) | (go_at_call 179;(with_reducible refine (HCR.out _).mono ?_);rintro e w7 ⟨rfl,l7⟩;replace HPB:=zz (HPB.out.belowAll (l7.below (Nat.le_refl _)));replace HB0:=zz (HB0.out.trans ((l7.below (Nat.le_refl _)).mono HB0.out.size))))
    go_roundw
    case rel=>exact ⟨k + 1,by omega,by go_num,by rw [HE2.out],HPB,HB0⟩
    case measure=>simp [intOf];omega
   ·have HE2 : Hid (f (k + 1) = f k):=zz (by rw [HE.out,if_neg h6])
    go_wp2_with (first | (refine zLd 47 HBA.out (zAb y) zuB ?_) | (refine zLd 48 HBB.out (zAb x) zuB ?_) | (refine zLd 49 HPB.out (zAb p) zuB ?_) | (go_at_call 179;(with_reducible refine (HCR.out _).mono ?_);rintro e w7 ⟨rfl,l7⟩;replace HPB:=zz (HPB.out.belowAll (l7.below (Nat.le_refl _)));replace HB0:=zz (HB0.out.trans ((l7.below (Nat.le_refl _)).mono HB0.out.size))))
    go_roundw
    case rel=>exact ⟨k + 1,by omega,by go_num,by rw [HE2.out],HPB,HB0⟩
    case measure=>simp [intOf];omega
  ·have h3 : ¬ y.y < x.y:=by omega
   have HCR : Hid (∀ W : World,Calls Tryz.prog 179 #[.agg (zAb x), .agg (zAb y), .agg (zAb p)] W fun e w'=>e = .returned (.int .i64 (zAw x y p))∧Lays W w'):=zz fun W=>zD7 x y p HX.out HY.out HP.out W;obtain ⟨z,hz⟩ : ∃ z,zAw x y p = z:=⟨_,rfl⟩
   have HE : Hid (f (k + 1) = if 0 < z then !f k else f k):=zz (by rw [HST.out,HED.out,← hz];simp [h1,h2,h3]);rw [hz] at HCR;clear HST HED hz
   by_cases h6 : 0 < z
   ·have HE2 : Hid (f (k + 1) = !f k):=zz (by rw [HE.out,if_pos h6])
    go_wp2_with (first | (refine zLd 47 HBA.out (zAb x) zuB ?_) | (refine zLd 48 HBB.out (zAb y) zuB ?_) | (refine zLd 49 HPB.out (zAb p) zuB ?_) | (go_at_call 179;(with_reducible refine (HCR.out _).mono ?_);rintro e w7 ⟨rfl,l7⟩;replace HPB:=zz (HPB.out.belowAll (l7.below (Nat.le_refl _)));replace HB0:=zz (HB0.out.trans ((l7.below (Nat.le_refl _)).mono HB0.out.size))))
    go_roundw
    case rel=>exact ⟨k + 1,by omega,by go_num,by rw [HE2.out],HPB,HB0⟩
    case measure=>simp [intOf];omega
   ·have HE2 : Hid (f (k + 1) = f k):=zz (by rw [HE.out,if_neg h6])
    go_wp2_with (first | (refine zLd 47 HBA.out (zAb x) zuB ?_) | (refine zLd 48 HBB.out (zAb y) zuB ?_) | (refine zLd 49 HPB.out (zAb p) zuB ?_) | (go_at_call 179;(with_reducible refine (HCR.out _).mono ?_);rintro e w7 ⟨rfl,l7⟩;replace HPB:=zz (HPB.out.belowAll (l7.below (Nat.le_refl _)));replace HB0:=zz (HB0.out.trans ((l7.below (Nat.le_refl _)).mono HB0.out.size))))
    go_roundw
    case rel=>exact ⟨k + 1,by omega,by go_num,by rw [HE2.out],HPB,HB0⟩
    case measure=>simp [intOf];omega
  ·have HE : Hid (f (k + 1) = f k):=zz (by rw [HST.out,HED.out];simp [h1,h2]);clear HST HED;go_wp2;go_roundw
   case rel=>exact ⟨k + 1,by omega,by go_num,by rw [HE.out],HPB,HB0⟩
   case measure=>simp [intOf];omega
end Go.Proofs.YtbbblemfodpmaaaGreat
end
section
namespace Go.Proofs.YtbbblemfodpmaaaGreat
open Go.RowKit
theorem rCorners_any (a : Option Addr) (c : Nat) (L : List Point) (w : World) (hS : Sl.OK 2 zAb (fun _ _ _=>True) (fun _=>False) w ⟨a,c,L⟩) (hlen : L.length ≤ 800) (hsm : ∀ q ∈ L,zAy q) :
  Calls Tryz.prog 159 #[.slice a L.length c] w fun e w'=>∃ v,e = .returned v∧OwnL zAC 1 w' w.heap.size 3 v (zAZ L)∧Below w.heap.size w w':=by
 have HSL:=zz hS;have HSM:=zz hsm;have HB0 : Hid (Below w.heap.size w w):=zz (Below.refl _ _);obtain ⟨f,hf⟩ : ∃ f : Nat→List Int,∀ k,(((List.range L.length).take k).filter (zBL L)).map (fun i : Nat=>(i : Int)) = f k:=⟨_,fun _=>rfl⟩
 have HF:=zz hf;obtain ⟨n,hn⟩ : ∃ n,L.length = n:=⟨_,rfl⟩
 have HN:=zz hn;have HEND : Hid (f n = zAZ L):=zz (by rw [← hf,← hn,List.take_of_length_le (by rw [List.length_range];exact Nat.le_refl _)];rfl);have HFL : Hid (∀ k,(f k).length ≤ k):=zz fun k=>by
  rw [← hf,List.length_map];exact Nat.le_trans (List.length_filter_le _ _) (by rw [List.length_take];omega)
 simp only [hn] at hlen ⊢;clear hS hsm hf hn;go_enter Tryz.func159,Tryz.ntmps159;go_wp2
 go_loopw [3,5] (fun v i wr=>∃ k : Nat,k ≤ n∧i = .int .i64 k∧Hid (OwnL zAC 1 wr w.heap.size 3 v (f k))∧Hid (Below w.heap.size w wr)) (fun _ i _=>n - (intOf i).toNat)
 case atStart=>exact ⟨0,Nat.zero_le _,rfl,zz (by rw [← HF.out];exact OwnL.nil _ _ _ _ _),HB0⟩
 case round=>
  clear HB0;obtain ⟨k,hk,rfl,HOV,HB0⟩:=hrel
  by_cases hlt : k < n
  case neg=>
   have hkn : k = n:=by omega
   subst hkn;rw [HEND.out] at HOV;go_wp2;go_ret;exact ⟨_,rfl,HOV.out,HB0.out⟩
  obtain ⟨k1,hk1⟩ : ∃ z,(k + n - 1) % n = z:=⟨_,rfl⟩
  obtain ⟨k2,hk2⟩ : ∃ z,(k + 1) % n = z:=⟨_,rfl⟩
  have i1 : k1 < n:=by rw [← hk1];exact Nat.mod_lt _ (by omega)
  have i2 : k2 < n:=by rw [← hk2];exact Nat.mod_lt _ (by omega)
  obtain ⟨x,hx⟩ : ∃ x,L[k]? = some x:=⟨_,List.getElem?_eq_getElem (by rw [HN.out];exact hlt)⟩
  obtain ⟨y,hy⟩ : ∃ x,L[k1]? = some x:=⟨_,List.getElem?_eq_getElem (by rw [HN.out];exact i1)⟩
  obtain ⟨z,hz⟩ : ∃ x,L[k2]? = some x:=⟨_,List.getElem?_eq_getElem (by rw [HN.out];exact i2)⟩
  obtain ⟨bb,o,e,hcx⟩:=HSL.out.elemAt (fun _=>rfl) hx;simp only at e;subst e;obtain ⟨b2,o2,e,hcy⟩:=HSL.out.elemAt (fun _=>rfl) hy;simp only [Option.some.injEq,Addr.mk.injEq,and_true] at e;obtain ⟨rfl,rfl⟩:=e;obtain ⟨b2,o2,e,hcz⟩:=HSL.out.elemAt (fun _=>rfl) hz;simp only [Option.some.injEq,Addr.mk.injEq,and_true] at e;obtain ⟨rfl,rfl⟩:=e;have HCX:=zz hcx;have HCY:=zz hcy;have HCZ:=zz hcz;have HCR : Hid (Det 179 #[.agg (zAb y), .agg (zAb x), .agg (zAb z)] (.int .i64 (zAw y x z)) wr.drew):=zz (zDv y x z (HSM.out y (List.mem_of_getElem? hy)) (HSM.out x (List.mem_of_getElem? hx)) (HSM.out z (List.mem_of_getElem? hz)) _);have HFS : Hid (f (k + 1) = f k ++ if zBL L k = true then [(k : Int)] else []):=zz (by
   rw [← HF.out,← HF.out,zB5 (zE3 (by rw [HN.out];exact hlt)),List.map_append];split <;> rfl)
  have HCN : Hid (zBL L k = !decide (zAw y x z = 0)):=zz (by unfold zBL;rw [HN.out,hk1,hk2,hx,hy,hz];rfl);obtain ⟨cr,hcr⟩ : ∃ c,zAw y x z = c:=⟨_,rfl⟩
  rw [hcr] at HCR HCN;have W1 : Hid (IntKind.i64.wrap ((k : Int) + (n : Int)) = (k : Int) + (n : Int)):=zz (IntWalk.i64_in _ (by omega));have W2 : Hid (IntKind.i64.wrap ((k : Int) + (n : Int) - 1) = (k : Int) + (n : Int) - 1):=zz (IntWalk.i64_in _ (by omega));have W3 : Hid (IntKind.i64.wrap ((k : Int) + 1) = (k : Int) + 1):=zz (IntWalk.i64_in _ (by omega));have M1 : Hid (((k : Int) + (n : Int) - 1).tmod (n : Int) = (k1 : Int)):=zz (by rw [Int.tmod_eq_emod_of_nonneg (by omega),← hk1,Int.natCast_emod,show ((k + n - 1 : Nat) : Int) = (k : Int) + n - 1 by omega]);have M2 : Hid (((k : Int) + 1).tmod (n : Int) = (k2 : Int)):=zz (by rw [← hk2];rfl);have K5 : Hid (¬ n = 0):=zz (by omega);have hfl:=HFL.out k;clear hcx hcy hcz hx hy hz hk1 hk2 hcr
  go_upto_region 6 with (fail)
  refine rgD [0,1,2,3,4,5,6,7,8,9,10,11,12,13,14,15,16,17,18,19,20,21] [] (fun _=>(0,#[])) [] ?_;iterate 3 (refine wD rfl ?_;simp only [pT])
  refine zAi (v:=.int .i64 ((k : Int) + n)) rfl rfl (fun W hW=>by go_simp;exact W1.out) ?_;simp only [pT];refine zAi (v:=.int .i64 ((k : Int) + n - 1)) rfl rfl (fun W hW=>by go_simp;exact W2.out) ?_;simp only [pT]
  (refine wD rfl ?_;simp only [pT])
  refine zAi (v:=.int .i64 (k1 : Int)) rfl rfl (fun W hW=>by go_simp;rw [if_neg K5.out,M1.out]) ?_;simp only [pT];refine zAi (v:=.pointer (some ⟨bb,o + k1 * 2,none⟩)) rfl rfl (fun W hW=>by go_simp) ?_;simp only [pT];refine zAi (v:=.agg (zAb y)) rfl rfl (fun W hW=>zAE (zAb y) (HCY.out W (HB0.out.drew.trans (hW.mono HB0.out.drew.size))) rfl zuB) ?_;simp only [pT];iterate 3 (refine wD rfl ?_;simp only [pT])
  refine zAi (v:=.agg (zAb x)) rfl rfl (fun W hW=>zAE (zAb x) (HCX.out W (HB0.out.drew.trans (hW.mono HB0.out.drew.size))) rfl zuB) ?_;simp only [pT];iterate 2 (refine wD rfl ?_;simp only [pT])
  refine zAi (v:=.int .i64 ((k : Int) + 1)) rfl rfl (fun W hW=>by go_simp;exact W3.out) ?_;simp only [pT]
  (refine wD rfl ?_;simp only [pT])
  refine zAi (v:=.int .i64 (k2 : Int)) rfl rfl (fun W hW=>by go_simp;rw [if_neg K5.out,M2.out]) ?_;simp only [pT];refine zAi (v:=.pointer (some ⟨bb,o + k2 * 2,none⟩)) rfl rfl (fun W hW=>by go_simp) ?_;simp only [pT];refine zAi (v:=.agg (zAb z)) rfl rfl (fun W hW=>zAE (zAb z) (HCZ.out W (HB0.out.drew.trans (hW.mono HB0.out.drew.size))) rfl zuB) ?_;simp only [pT];refine zAO _ _ _ rfl rfl (fun W=>by go_simp;try with_reducible rfl) (HCR.out) ?_;simp only [pT]
  (refine wD rfl ?_;simp only [pT])
  intro f W1 HW1 h1 h2;simp only [zAP];clear h1 h2 f;refine zAt [13,14,15,16,17,18,19,20,21,22,23,24,25,26,27,28,29,30,31,32,33] fun u=>?_;simp only [zAu,pT];simp only [wpS];have HOV2 : Hid (OwnL zAC 1 W1 w.heap.size 3 u3 (f k)):=zz (HOV.out.belowAll ((Below.refl _ _).drew.trans HW1));replace HB0:=zz (HB0.out.drew.trans (HW1.mono HB0.out.drew.size));clear HOV HW1 M1 M2 K5 HCX HCY HCZ HCR
  by_cases hc : cr = 0
  ·have HFE : Hid (f (k + 1) = f k):=zz (by rw [HFS.out,HCN.out];simp [hc]);go_wp2;go_roundw
   case rel=>exact ⟨k + 1,by omega,by go_num,by rw [HFE.out];exact HOV2,HB0⟩
   case measure=>simp [intOf];omega
  ·have HFE : Hid (f (k + 1) = f k ++ [(k : Int)]):=zz (by rw [HFS.out,HCN.out];simp [hc])
   go_wp2_with (first
    | ((with_reducible refine zAm 38 ?_);refine zAU rfl _ _ 50 rfl w.heap.size zCm (fun _=>rfl) (by decide) zB4 (by decide) u3 (f k) rfl (HOV2.out.belowAll ((Below.refl _ _).alloc (Nat.le_refl _) _)) W1.heap.size 0 1 (k : Int) rfl (fun j hj=>by rw [Nat.zero_add];exact (zAe.new W1 3 (zAC (k : Int))).cell j) (by omega) (Nat.le_trans HB0.out.size (by simp)) ?_;intro v4 w4 ho4 hg4 hv4))
   go_roundw
   case rel=>exact ⟨k + 1,by omega,by go_num,zz (by rw [HFE.out];exact ho4),zz ((HB0.out.alloc HB0.out.size _).grown hg4 (Nat.le_trans HB0.out.size (by simp)) fun g e=>(HOV2.out.block g e).1)⟩
   case measure=>simp [intOf];omega
end Go.Proofs.YtbbblemfodpmaaaGreat
end
section
namespace Go.Proofs.YtbbblemfodpmaaaGreat
open Go.RowKit
theorem seg_on {a b p : Point} (h1 : b.y ≤ p.y) (h2 : p.y < a.y) (h : zAw a b p = 0) : onP a b p = true:=by
 unfold onP;simp only [Bool.and_eq_true,beq_iff_eq,decide_eq_true_eq];refine ⟨h,Int.not_lt.1 fun hd=>?_⟩;unfold zAw at h;unfold dotP at hd;have e : ((a.x - p.x) * (b.x - p.x) + (a.y - p.y) * (b.y - p.y)) * (a.y - p.y) = (b.y - p.y) * ((a.x - p.x) * (a.x - p.x) + (a.y - p.y) * (a.y - p.y)):=by grind
 have k1:=Int.mul_pos hd (show 0 < a.y - p.y by omega);have s1:=sq_nn (a.x - p.x);have s2:=sq_nn (a.y - p.y);have k2:=Int.mul_nonpos_of_nonneg_of_nonpos (show 0 ≤ (a.x - p.x) * (a.x - p.x) + (a.y - p.y) * (a.y - p.y) by omega) (show b.y - p.y ≤ 0 by omega);rw [Int.mul_comm] at k2;omega
theorem edge_eq {L : List Point} {p a b : Point} {i : Nat} (ha : (L[i]?).getD zAF = a) (hb : (L[(i + 1) % L.length]?).getD zAF = b) (h : b.y ≤ p.y→p.y < a.y→zAw a b p ≠ 0) : zDs L p i = edgR a b p:=by
 unfold zDs edgR;rw [ha,hb];have hc:=crossP_rev a b p
 by_cases h1 : p.y < a.y <;> by_cases h2 : p.y < b.y
 ·simp [h1,h2]
 ·have h3:=h (by omega) h1;have h4 : b.y < a.y:=by omega
  have h5 : ¬ a.y < b.y:=by omega
  rw [hc]
  by_cases h6 : 0 < zAw a b p
  ·have h7 : ¬ 0 < - zAw a b p:=by omega
   simp [h1,h2,h4,h5,h6];omega
  ·have h7 : 0 < - zAw a b p:=by omega
   simp [h1,h2,h4,h5,h6];omega
 ·have h4 : ¬ b.y < a.y:=by omega
  have h5 : a.y < b.y:=by omega
  simp [h1,h2,h4,h5]
 ·simp [h1,h2]
theorem ins_eq {L : List Point} {p : Point} (h : ∀ i,i < L.length→((L[(i + 1) % L.length]?).getD zAF).y ≤ p.y→p.y < ((L[i]?).getD zAF).y→zAw ((L[i]?).getD zAF) ((L[(i + 1) % L.length]?).getD zAF) p ≠ 0) : insR L p L.length = insideA L p:=by
 have key : ∀ k,k ≤ L.length→insR L p k = (List.range k).foldl (fun b i=>if zDs L p i then !b else b) false:=by
  intro k
  induction k with
  | zero=>intro _;rfl
  | succ k ih=>
   intro hk;rw [List.range_succ,List.foldl_append,← ih (by omega)]
   show (if _ then _ else _) = (if _ then _ else _)
   rw [edge_eq rfl rfl (h k (by omega))]
 exact key _ (Nat.le_refl _)
section
variable {js : List Joint} {ls : List Lead} (V : ValidW js ls)
include V
theorem ValidW.lab_same {a b : Nat} {x y : Joint} (ha : js[a]? = some x) (hb : js[b]? = some y) : ((labA js ls 0 0)[a]?.getD 0 = (labA js ls 0 0)[b]?.getD 0) ↔ zA8 (togA js ls 0 0) x.id = zA8 (togA js ls 0 0) y.id:=by
 obtain ⟨r1,u,c1,c2,_,c4,c5,_,c7⟩:=V.part_root 0 0 ha (V.ids_pos (List.mem_of_getElem? ha));obtain ⟨r2,v,d1,d2,_,d4,d5,_,d7⟩:=V.part_root 0 0 hb (V.ids_pos (List.mem_of_getElem? hb));unfold labA zA8;rw [List.getElem?_map,List.getElem?_map,ha,hb,c2,d2];simp only [Option.map_some,Option.getD_some];rw [c7,d7]
 constructor
 ·intro h;have : r1 = r2:=by omega
  subst this;rw [c1] at d1;cases d1;rfl
 ·intro h;rw [V.id_inj c1 d1 h]
theorem ValidW.side_part {s : Side} (hs : zAM ls s) : ∀ n,ConJ ls 0 0 (zAl ls s).1 (zAl ls (itA (zAV js ls) n s)).1∧ConJ ls 0 0 (zAl ls s).1 (zAl ls (itA (zAV js ls) n s)).2:=by
 have one : ∀ t,zAM ls t→ConJ ls 0 0 (zAl ls t).1 (zAl ls t).2:=fun t ht=>ConJ.one (V.adj_side ht (by
  obtain ⟨l,hl,e⟩:=ht;rw [← e];exact V.lpos hl))
 intro n
 induction n with
 | zero=>exact ⟨.refl _,one s hs⟩
 | succ n ih=>
  have hi:=V.it_side hs n;have e : (zAl ls (itA (zAV js ls) (n + 1) s)).1 = (zAl ls (itA (zAV js ls) n s)).2:=(V.next hi).2.1;refine ⟨by rw [e];exact ih.2, ?_⟩;have h2:=one _ (V.it_side hs (n + 1));rw [e] at h2;exact ih.2.trans h2
theorem ValidW.end_joint {s : Side} (hs : zAM ls s) : (∃ i ∈ js,i.id = (zAl ls s).1)∧∃ i ∈ js,i.id = (zAl ls s).2:=by
 obtain ⟨_,_,_,_,i,hi,k,hk,e1,e2,_⟩:=V.leave (V.side_leave hs);exact ⟨⟨i,hi,e1⟩,⟨k,hk,e2⟩⟩
theorem ValidW.off_walk {s t : Side} (hs : zAM ls s) (ht : t ∈ zAH js ls s) {j : Joint} (hj : j ∈ js) (hp : zA8 (togA js ls 0 0) j.id ≠ zA8 (togA js ls 0 0) (zAl ls s).1) : onP (ptA js (zAl ls t).1) (ptA js (zAl ls t).2) j.at_ = false:=by
 obtain ⟨n,_,_,_,_,h5⟩:=V.walk hs;rw [h5] at ht;obtain ⟨k,_,rfl⟩:=List.mem_map.1 ht;obtain ⟨p1,p2⟩:=V.side_part hs k;have hi:=V.it_side hs k
 revert p1 p2 hi
 generalize itA (zAV js ls) k s = t;intro p1 p2 hi;obtain ⟨⟨i1,m1,e1⟩,_⟩:=V.end_joint hs;have ne : ∀ v,ConJ ls 0 0 (zAl ls s).1 v→j.id ≠ v:=fun v hv e=>by
  subst e;obtain ⟨a,ha⟩:=List.getElem?_of_mem hj;obtain ⟨b,hb⟩:=List.getElem?_of_mem m1;have:=(V.part_eq 0 0 ha hb (V.ids_pos hj) (V.ids_pos m1)).2 (by rw [e1];exact hv.symm);rw [e1] at this;exact hp this
 have n1:=ne _ p1;have n2:=ne _ p2;obtain ⟨l,hl,e⟩:=hi;have hto:=V.touch l hl;unfold zDb at hto;have h1:=List.any_eq_false.1 hto j hj;have hs2 : t = ⟨l.id,t.back⟩:=by rw [e]
 rw [hs2,V.sideEnds hl] at n1 n2 ⊢
 revert n1 n2
 cases t.back <;> intro n1 n2
 ·simp only [Bool.false_eq_true,if_false] at n1 n2 ⊢;have h2 : ¬ j.id = l.a→¬ j.id = l.b→onP (ptA js l.a) (ptA js l.b) j.at_ = false:=by simpa using h1
  exact h2 (by assumption) (by assumption)
 ·simp only [if_true] at n1 n2 ⊢;rw [onP_symm];have h2 : ¬ j.id = l.a→¬ j.id = l.b→onP (ptA js l.a) (ptA js l.b) j.at_ = false:=by simpa using h1
  exact h2 (by assumption) (by assumption)
theorem ValidW.hit_eq {s : Side} (hs : zAM ls s) {k : Nat} {j : Joint} (hk : js[k]? = some j) {o : Nat} {i : Joint} (ho : js[o]? = some i) (hi : i.id = (zAl ls s).1) :
  (!decide ((labA js ls 0 0)[k]?.getD 0 = (labA js ls 0 0)[o]?.getD 0) && insR (zAI js ls (zAH js ls s)) j.at_ (zAI js ls (zAH js ls s)).length) = hitA js ls (zAH js ls s) j:=by
 have hl:=V.lab_same hk ho;rw [hi] at hl;have hh : (zAH js ls s).headD zDg = s:=rfl;unfold hitA;rw [hh]
 by_cases hp : zA8 (togA js ls 0 0) j.id = zA8 (togA js ls 0 0) (zAl ls s).1
 ·rw [decide_eq_true (hl.2 hp),decide_eq_true hp];rfl
 ·rw [decide_eq_false fun h=>hp (hl.1 h),decide_eq_false hp,ins_eq fun q hq hb ha hc=>?_];have e0 : (zAI js ls (zAH js ls s)).length = (zAH js ls s).length:=by unfold zAI;rw [List.length_map]
  rw [e0] at hq hb hc;obtain ⟨t,ht⟩ : ∃ t,(zAH js ls s)[q]? = some t:=⟨_,List.getElem?_eq_getElem hq⟩
  have g1:=V.walk_step hs ht;have hts:=(V.walk_next hs (List.mem_of_getElem? ht)).1;have p1 : ((zAI js ls (zAH js ls s))[q]?).getD zAF = ptA js (zAl ls t).1:=by unfold zAI;rw [List.getElem?_map,ht];rfl
  have p2 : ((zAI js ls (zAH js ls s))[(q + 1) % (zAH js ls s).length]?).getD zAF = ptA js (zAl ls t).2:=by
   unfold zAI;rw [List.getElem?_map,g1]
   show ptA js (zAl ls (zAV js ls t)).1 = _
   rw [(V.next hts).2.1]
  rw [p1,p2] at hc;rw [p1] at ha;rw [p2] at hb;have:=seg_on hb ha hc;rw [V.off_walk hs (List.mem_of_getElem? ht) (List.mem_of_getElem? hk) hp] at this
  cases this
end
theorem nest_eq (js : List Joint) (ls : List Lead) : ((zBv js ls).any fun l=>decide (0 < zBd js ls l) && js.any (hitA js ls l)) = zB0 js ls (zBu js ls):=by
 unfold zB0 zBu;rw [List.any_filter]
end Go.Proofs.YtbbblemfodpmaaaGreat
end
section
namespace Go.Proofs.YtbbblemfodpmaaaGreat
open Go.RowKit
structure NestW (C : Array Value) (w : World) (js : List Joint) (LB : List Int) (x : List Side) (P : List Point) (A : Int) (H : Joint→Bool) : Prop where
 len : 0 < x.length∧x.length ≤ 800∧P.length ≤ 800
 pts : ∀ a c W,Below w.heap.size w W→Sl.OK 2 zAa (fun _ _ _=>True) (fun _=>False) W ⟨a,c,x⟩→Calls Tryz.prog 110 #[.agg C, .slice a x.length c] W fun e w'=>∃ v,e = .returned v∧OwnL zAb 2 w' W.heap.size 27 v P∧Below W.heap.size W w'
 area : ∀ a c W,Sl.OK 2 zAb (fun _ _ _=>True) (fun _=>False) W ⟨a,c,P⟩→Det 109 #[.slice a P.length c] (.int .i64 A) W
 own : ∀ s,x[0]? = some s→∃ e1 e2 o,Det 123 #[.agg C, .agg (zAa s)] (.tuple #[.int .i64 e1, .int .i64 e2]) w∧Det 121 #[.agg C, .int .i64 e1] (.int .i64 ((o : Nat) : Int)) w∧o < js.length∧
  ∀ (k : Nat) (j : Joint),js[k]? = some j→(!decide (LB[k]?.getD 0 = LB[o]?.getD 0) && insR P j.at_ P.length) = H j
 ins : ∀ a c p W,zAy p→Sl.OK 2 zAb (fun _ _ _=>True) (fun _=>False) W ⟨a,c,P⟩→Det 136 #[.slice a P.length c, .agg (zAb p)] (.bool (insR P p P.length)) W
theorem nest_all (sj : Sl Joint) (sl : Sl Lead) (w : World) (hj : sj.OK 3 zAh zAs (fun _=>False) w) (hl : sl.OK 8 zAd zAA (fun _=>False) w) (V : ValidW sj.val sl.val) {x : List Side} (hx : x ∈ zBv sj.val sl.val) :
  NestW #[.slice sj.a sj.val.length sj.cap, .slice sl.a sl.val.length sl.cap] w sj.val (labA sj.val sl.val 0 0) x (zAI sj.val sl.val x) (zBd sj.val sl.val x) (hitA sj.val sl.val x):=by
 obtain ⟨s,hs,rfl⟩:=V.walks_inv.1 x hx;obtain ⟨g1,g2,g3⟩:=zD6 V hx;have hpl : (zAI sj.val sl.val (zAH sj.val sl.val s)).length ≤ 800:=by unfold zAI;rw [List.length_map];exact g2
 have hsm:=zC0 V (zAH sj.val sl.val s);refine ⟨⟨List.length_pos_iff.2 g1,g2,hpl⟩,fun a c W hW hS=>rpoints_any sj sl a c _ W (hj.jmoved hW) (hl.lmoved hW) V hS g2 fun y hy=>(V.walk_next hs hy).1,fun a c W hS=>?_,fun t ht=>?_,fun a c p W hp hS=>rInside_det a c _ p W hS hpl hsm hp⟩
 ·have h:=rTwice_det a c _ W hS hpl hsm;rw [show twN (zAI sj.val sl.val (zAH sj.val sl.val s)) (zAI sj.val sl.val (zAH sj.val sl.val s)).length = zBd sj.val sl.val (zAH sj.val sl.val s) from twice_areaA V hs] at h;exact h
 ·have e : s = t:=by
   have : (zAH sj.val sl.val s)[0]? = some s:=rfl;rw [this] at ht;cases ht;rfl
  subst e;obtain ⟨⟨i,hi,ei⟩,_⟩:=V.end_joint hs;obtain ⟨o,ho⟩:=List.getElem?_of_mem hi;refine ⟨(zAl sl.val s).1,(zAl sl.val s).2,o,zEy sj sl s w hl (V.side_ok hs).1, ?_,(List.getElem?_eq_some_iff.1 ho).1,fun k j hk=>V.hit_eq hs hk ho ei⟩;have h:=zGg sj sl (zAl sl.val s).1 w hj;rw [← ei,V.idx_at ho,ei] at h;exact h
theorem rnested_any (sj : Sl Joint) (sl : Sl Lead) (w : World) (hj : sj.OK 3 zAh zAs (fun _=>False) w) (hl : sl.OK 8 zAd zAA (fun _=>False) w) (V : ValidW sj.val sl.val) {N : Nat} (xa : Option Addr) (xc : Nat) (hX : zAW w N (.slice xa (zBv sj.val sl.val).length xc) (zBv sj.val sl.val)) (hXl : (zBv sj.val sl.val).length ≤ 800) :
  Calls Tryz.prog 158 #[.agg #[.slice sj.a sj.val.length sj.cap, .slice sl.a sl.val.length sl.cap], .slice xa (zBv sj.val sl.val).length xc] w fun e w'=>e = .returned (.bool (zB0 sj.val sl.val (zBu sj.val sl.val)))∧Below w.heap.size w w':=by
 have HLB : Hid (∀ W,Below w.heap.size w W→Calls Tryz.prog 91 #[.agg #[.slice sj.a sj.val.length sj.cap, .slice sl.a sl.val.length sl.cap], .int .i64 0, .int .i64 0] W fun e w'=>∃ v,e = .returned v∧OwnL zAC 1 w' W.heap.size 3 v (labA sj.val sl.val 0 0)∧Below W.heap.size W w'):=zz fun W hW=>zEG sj sl 0 0 W (hj.jmoved hW) (hl.lmoved hW) V;obtain ⟨LB,hLB⟩ : ∃ L,labA sj.val sl.val 0 0 = L:=⟨_,rfl⟩
 have HLL0 : Hid (LB.length = sj.val.length):=zz (by rw [← hLB];exact zC4 _ _ _ _);obtain ⟨PT,hPT⟩ : ∃ f,zAI sj.val sl.val = f:=⟨_,rfl⟩
 obtain ⟨AR,hAR⟩ : ∃ f,zBd sj.val sl.val = f:=⟨_,rfl⟩
 obtain ⟨HT,hHT⟩ : ∃ f,hitA sj.val sl.val = f:=⟨_,rfl⟩
 obtain ⟨R,hR⟩ : ∃ r,zB0 sj.val sl.val (zBu sj.val sl.val) = r:=⟨_,rfl⟩
 have HRE : Hid (R = (zBv sj.val sl.val).any fun l=>decide (0 < AR l) && sj.val.any (HT l)):=zz (by rw [← hR,← nest_eq,hAR,hHT]);have HNW : Hid (∀ x ∈ zBv sj.val sl.val,NestW #[.slice sj.a sj.val.length sj.cap, .slice sl.a sl.val.length sl.cap] w sj.val LB x (PT x) (AR x) (HT x)):=zz fun x hx=>by
  have h:=nest_all sj sl w hj hl V hx;rw [hLB,hPT,hAR,hHT] at h;exact h
 obtain ⟨X,hXe⟩ : ∃ X,zBv sj.val sl.val = X:=⟨_,rfl⟩
 have HSM : Hid (∀ j ∈ sj.val,zAy j.at_):=zz fun j h=>V.jsmall h;have HNJ2:=V.nj;rw [hLB] at HLB;rw [hXe] at hX hXl HRE HNW;rw [hR,hXe];have HJ:=zz hj;have HXL:=zz hX;obtain ⟨HB0,HWB⟩:=zP1 w #[.slice sj.a sj.val.length sj.cap, .slice sl.a sl.val.length sl.cap] 25;obtain ⟨aj,cj,js⟩:=sj;obtain ⟨al,cl,ls⟩:=sl;obtain ⟨nj,hn1⟩ : ∃ n,js.length = n:=⟨_,rfl⟩
 obtain ⟨nl,hn2⟩ : ∃ n,ls.length = n:=⟨_,rfl⟩
 obtain ⟨nX,hn3⟩ : ∃ n,X.length = n:=⟨_,rfl⟩
 have HNJ:=zz hn1;have HNX:=zz hn3;simp only [hn1,hn2,hn3] at HLB HNW HB0 HWB HXL hXl HNJ2 ⊢;have hLL : LB.length = nj:=by rw [HLL0.out];exact hn1
 clear hn1 hn2 hn3 hj hl hX hLB hPT hAR hHT hR hXe V;go_enter Tryz.func158,Tryz.ntmps158
 go_wp2_with (first
  | (refine zLd 12 HWB.out #[.slice aj nj cj, .slice al nl cl] zuC ?_)
  | (go_at_call 91;refine (HLB.out _ HB0.out).mono ?_;rintro e w2 ⟨lv,rfl,hlo,hb2⟩;have HWA0:=zz (HWB.out.belowAll hb2);have HB2:=zz (HB0.out.trans (hb2.mono HB0.out.size));have HLO:=zz hlo;obtain ⟨la,lc,rfl⟩:=hlo.shape;clear hb2 hlo HB0 HWB))
 have HWA : Hid (∀ W,Below w2.heap.size w2 W→zAe W w.heap.size 25 #[.slice aj nj cj, .slice al nl cl]):=zz fun W hW=>HWA0.out.belowAll hW;have HR0 : Hid (Below w2.heap.size w2 w2):=zz (Below.refl _ _);clear HWA0
 go_loopw [6] (fun iv wr=>∃ i : Nat,i ≤ nX∧iv = .int .i64 i∧Hid (∀ (q : Nat) x,q < i→X[q]? = some x→(decide (0 < AR x) && js.any (HT x)) = false)∧Hid (Below w2.heap.size w2 wr)) (fun iv _=>nX - (intOf iv).toNat)
 case atStart=>exact ⟨0,Nat.zero_le _,rfl,zz (by omega),HR0⟩
 case round=>
  obtain ⟨i,hi,rfl,HNO,HW⟩:=hrel
  by_cases hlt : i < nX
  case neg=>
   have hin : i = nX:=by omega
   subst hin;go_wp2;go_ret;refine ⟨?_,HB2.out.trans (HW.out.mono HB2.out.size)⟩;rw [HRE.out];have hz : (X.any fun l=>decide (0 < AR l) && js.any (HT l)) = false:=List.any_eq_false.2 fun x hx=>by
    obtain ⟨q,hq⟩:=List.getElem?_of_mem hx;have h1:=(List.getElem?_eq_some_iff.1 hq).1;rw [HNX.out] at h1;rw [HNO.out q x h1 hq];decide
   rw [hz];rfl
  obtain ⟨x,hx⟩ : ∃ x,X[i]? = some x:=⟨_,List.getElem?_eq_getElem (by rw [HNX.out];exact hlt)⟩
  have hxm:=List.mem_of_getElem? hx;obtain ⟨⟨l1,l2,l3⟩,npt,nar,now,nin⟩:=HNW.out x hxm;obtain ⟨g,cap,⟨sa,sc,sv⟩,e,_,hg,hq,hsv,hos⟩:=(HXL.out.belowAll HB2.out).place hx;simp only [HNX.out,Value.slice.injEq] at e;obtain ⟨rfl,_,rfl⟩:=e;simp only at hq hos hsv;obtain ⟨s,hs⟩ : ∃ s,x[0]? = some s:=⟨_,List.getElem?_eq_getElem l1⟩
  obtain ⟨g2,c2,e,_,hg2,hcy⟩:=OwnL.cellOf (enc:=zAa) (sz:=2) (fun _=>rfl) hos hs;simp only [Value.slice.injEq,true_and] at e;obtain ⟨rfl,rfl⟩:=e;obtain ⟨e1,e2,o,hen,hix,hon,hhit⟩:=now s hs;have hon : o < nj:=by rw [← HNJ.out];exact hon
  obtain ⟨lo0,hlo0⟩ : ∃ y,LB[o]? = some y:=⟨_,List.getElem?_eq_getElem (by omega)⟩
  obtain ⟨gl,lc2,e,_,_,_⟩:=OwnL.cellOf (enc:=zAC) (sz:=1) (fun _=>rfl) HLO.out hlo0;simp only [hLL,Value.slice.injEq,true_and] at e;obtain ⟨rfl,rfl⟩:=e;have HLC : Hid (∀ k,k < nj→∀ W,Below w2.heap.size w2 W→W.cell? ⟨gl,k,none⟩ = some (.int .i64 (LB[k]?.getD 0))):=zz fun k hk W hW=>by
   obtain ⟨y,hy⟩ : ∃ y,LB[k]? = some y:=⟨_,List.getElem?_eq_getElem (by omega)⟩
   obtain ⟨g9,c9,e9,_,hg9,hc9⟩:=OwnL.cellOf (enc:=zAC) (sz:=1) (fun _=>rfl) HLO.out hy;simp only [Value.slice.injEq,Option.some.injEq,Addr.mk.injEq,and_true,true_and] at e9;obtain ⟨rfl,_⟩:=e9;rw [hW.cell (p:=⟨gl,k,none⟩) hg9,hy];have:=hc9 0 (by decide);rw [Nat.mul_one,Nat.add_zero] at this;exact this
  obtain ⟨m,hm⟩ : ∃ m,x.length = m:=⟨_,rfl⟩
  obtain ⟨P,hP⟩ : ∃ p,PT x = p:=⟨_,rfl⟩
  obtain ⟨A,hA⟩ : ∃ p,AR x = p:=⟨_,rfl⟩
  obtain ⟨H,hH⟩ : ∃ p,HT x = p:=⟨_,rfl⟩
  rw [hP] at npt nar nin hhit l3;rw [hA] at nar;rw [hH] at hhit;have HX1 : Hid (R = false→(decide (0 < A) && js.any H) = false):=zz fun h=>by
   rw [HRE.out] at h;have:=List.any_eq_false.1 h x hxm;rw [hA,hH] at this;exact Bool.eq_false_iff.2 this
  have HX2 : Hid ((decide (0 < A) && js.any H) = false→∀ (q : Nat) y,q < i + 1→X[q]? = some y→(decide (0 < AR y) && js.any (HT y)) = false):=zz fun h q y hq hy=>by
   by_cases hqi : q < i
   ·exact HNO.out q y hqi hy
   ·have : q = i:=by omega
    subst this;rw [hx] at hy;cases hy;rw [hA,hH];exact h
  have HQX : Hid (∀ W,Below w2.heap.size w2 W→W.cell? ⟨g,i,none⟩ = some (.slice (some ⟨g2,0,none⟩) m sc)):=zz fun W hW=>by rw [← hm];exact (hW.cell (p:=⟨g,i,none⟩) hg).trans hq
  have HCY : Hid (∀ W,Below w2.heap.size w2 W→∀ j,j < (zAa s).size→W.cell? ⟨g2,0 + j,none⟩ = (zAa s)[j]?):=zz fun W hW j hj=>by
   rw [hW.cell (p:=⟨g2,0 + j,none⟩) hg2];have:=hcy j hj;rwa [Nat.zero_mul] at this
  have HPT : Hid (∀ W,Below w2.heap.size w2 W→Calls Tryz.prog 110 #[.agg #[.slice aj nj cj, .slice al nl cl], .slice (some ⟨g2,0,none⟩) m sc] W fun e w'=>∃ v,e = .returned v∧OwnL zAb 2 w' W.heap.size 27 v P∧Below W.heap.size W w'):=zz fun W hW=>by
   rw [← hm];exact npt _ _ W (HB2.out.trans (hW.mono HB2.out.size)) ((hos.belowAll hW).okSl (fun _=>rfl) (fun _ _ _=>True) (fun _ _=>trivial) (by omega))
  have HAR2:=zz nar;have HIN2:=zz nin;have HEN:=zz (hen.moved HB2.out);have HIX:=zz (hix.moved HB2.out);have HHT:=zz hhit;obtain ⟨lo,hlo⟩ : ∃ y,LB[o]?.getD 0 = y:=⟨_,rfl⟩
  simp only [hlo] at HHT;have HLOC : Hid (∀ W,Below w2.heap.size w2 W→W.cell? ⟨gl,o,none⟩ = some (.int .i64 lo)):=zz fun W hW=>by rw [← hlo];exact HLC.out o hon W hW
  have hm0 : 0 < m:=by omega
  clear hx hxm npt nar nin hen hix hhit hlo hlo0 hq hg hsv hos hs hcy hg2 hm hP hA hH l1 l2
  go_upto_region 5 with (fail)
  have S1 : (fun W=>Below w2.heap.size w2 W) wr.drew:=HW.out.drew;refine zCQ (fun W=>Below w2.heap.size w2 W) [(0,true),(1,true),(2,true),(3,true),(4,true),(5,false),(6,true)] rfl (by kernel_rfl) (by kernel_rfl) (fun d _ _ _ _ h=>by cases d <;> exact h) S1 ?_;refine zBw (v:=.agg #[.slice aj nj cj, .slice al nl cl]) rfl rfl (fun W hW=>zAc _ (HWA.out W hW) rfl (zAg _) zuC) ?_;simp only [pT];iterate 3 (refine wS rfl ?_;simp only [pT])
  refine zBw (v:=.slice (some ⟨g2,0,none⟩) m sc) rfl rfl (fun W hW=>by have e:=HQX.out W hW;go_simp) ?_;simp only [pT];refine zCo rfl rfl (fun K hK=>?_)
  go_simp
  refine (HPT.out _ S1).mono ?_;rintro e w3 ⟨pv,rfl,ho1,hb3⟩;have S2 : (fun W=>Below w2.heap.size w2 W) w3:=S1.trans (hb3.mono S1.size);refine hK _ _ S2 ?_;clear hK K
  try simp only [pT]
  refine wS rfl ?_;simp only [pT];simp only [wpS];obtain ⟨pa,pc,e⟩:=ho1.shape;subst e;obtain ⟨np,hnp⟩ : ∃ n,P.length = n:=⟨_,rfl⟩
  have hok:=ho1.okSl (fun _=>rfl) (fun _ _ _=>True) (fun _ _=>trivial) (by omega);have HTD:=HAR2.out pa pc w3 hok;have HID:=fun p hp=>HIN2.out pa pc p w3 hp hok;simp only [hnp] at HTD HID HHT l3 ⊢;replace HTD:=zz HTD;replace HID:=zz HID;have HV : Hid (Below w3.heap.size w3 w3):=zz (Below.refl _ _);replace HW:=zz S2;clear ho1 hok hnp S1 S2 hb3 HAR2 HIN2 HPT
  by_cases hA : 0 < A
  case neg=>
   have hf : (decide (0 < A) && js.any H) = false:=by rw [decide_eq_false hA];rfl
   have HN2:=zz (HX2.out hf);clear hf HX1 HX2
   go_wp2_with (first
    | (go_at_call 109;refine (HTD.out _ HV.out).mono ?_;rintro e w4 ⟨rfl,hb4⟩;replace HW:=zz (HW.out.trans (hb4.mono HW.out.size));clear hb4))
   go_roundw
   case rel=>exact ⟨i + 1,by omega,by go_num,HN2,HW⟩
   case measure=>simp [intOf];omega
  go_upto_region 7 with (first
   | (go_at_call 109;refine (HTD.out _ HV.out).mono ?_;rintro e w4 ⟨rfl,hb4⟩;replace HW:=zz (HW.out.trans (hb4.mono HW.out.size));replace HV:=zz (HV.out.trans (hb4.mono HV.out.size));clear hb4))
  have HWR:=zz (HWA.out _ HW.out);refine rgD [0,1,2,3,4,5,6,7,8,9,10,11,12] [] (fun _=>(0,#[])) [] ?_;refine zAi (v:=_) rfl rfl (fun W hW=>zAc _ (HWR.out.drew.belowAll hW) rfl (zAg _) zuC) ?_;simp only [pT];iterate 3 (refine wD rfl ?_;simp only [pT])
  refine zAi (v:=.slice (some ⟨g2,0,none⟩) m sc) rfl rfl (fun W hW=>by have e:=HQX.out W (HW.out.drew.trans (hW.mono HW.out.drew.size));go_simp;try with_reducible rfl) ?_;simp only [pT];refine zAi (v:=.pointer (some ⟨g2,0,none⟩)) rfl rfl (fun W hW=>by go_simp) ?_;simp only [pT];refine zAi (v:=.agg (zAa s)) rfl rfl (fun W hW=>zAE (zAa s) (HCY.out W (HW.out.drew.trans (hW.mono HW.out.drew.size))) rfl zuA) ?_;simp only [pT];refine zAO _ _ _ rfl rfl (fun W=>by go_simp;try with_reducible rfl) (HEN.out.moved HW.out.drew) ?_;simp only [pT];iterate 5 (refine wD rfl ?_;simp only [pT])
  intro f W1 HW1 h1 h2;simp only [zAP];clear h1 h2 f;refine zAt [30,31,32,33,34,35,36,37,29,38,39,9] fun u=>?_;simp only [zAu,pT];simp only [wpS];replace HW:=zz (HW.out.drew.trans (HW1.mono HW.out.drew.size));replace HV:=zz (HV.out.drew.trans (HW1.mono HV.out.drew.size));clear HWR HW1 HCY HQX HEN;have HWR:=zz (HWA.out _ HW.out)
  go_wp2_with (first
   | (refine zLd 41 HWR.out #[.slice aj nj cj, .slice al nl cl] zuC ?_)
   | (go_at_call 121;refine (HIX.out _ HW.out).mono ?_;rintro e w6 ⟨rfl,hb6⟩;replace HW:=zz (HW.out.trans (hb6.mono HW.out.size));replace HV:=zz (HV.out.trans (hb6.mono HV.out.size));clear hb6;have qo:=HLOC.out w6 HW.out))
  clear qo HIX HLOC HTD
  go_loopw [11] (fun kv wr=>∃ k : Nat,k ≤ nj∧kv = .int .i64 k∧Hid (∀ (q : Nat) y,q < k→js[q]? = some y→H y = false)∧Hid (Below w2.heap.size w2 wr)∧Hid (Below w3.heap.size w3 wr)) (fun kv _=>nj - (intOf kv).toNat)
  case atStart=>exact ⟨0,Nat.zero_le _,rfl,zz (by omega),HW,HV⟩
  case round=>
   clear HW HV HWR;obtain ⟨k,hk,rfl,HNK,HW,HV⟩:=hrel;have HWR:=zz (HWA.out _ HW.out);have c0:=(HWR.out.cell 0).trans (show _ = some (.slice aj nj cj) from rfl)
   by_cases hlk : k < nj
   case neg=>
    have hkn : k = nj:=by omega
    subst hkn;have hf : (decide (0 < A) && js.any H) = false:=by
     have hz : js.any H = false:=List.any_eq_false.2 fun y hy=>by
      obtain ⟨q,hq⟩:=List.getElem?_of_mem hy;have h1:=(List.getElem?_eq_some_iff.1 hq).1;rw [HNJ.out] at h1;rw [HNK.out q y h1 hq];decide
     rw [hz,Bool.and_false]
    have HN2:=zz (HX2.out hf);clear hf HX1 HX2;go_wp2;go_roundw
    case rel=>exact ⟨i + 1,by omega,by go_num,HN2,HW⟩
    case measure=>simp [intOf];omega
   obtain ⟨j,hj⟩ : ∃ y,js[k]? = some y:=⟨_,List.getElem?_eq_getElem (by rw [HNJ.out];exact hlk)⟩
   obtain ⟨bb,o2,e,hcj⟩:=HJ.out.elemAt (fun _=>rfl) hj;simp only at e;subst e;have hh:=HHT.out k j hj;have hjm:=List.mem_of_getElem? hj;obtain ⟨lk,hlke⟩ : ∃ y,LB[k]?.getD 0 = y:=⟨_,rfl⟩
   have HLK : Hid (∀ W,Below w2.heap.size w2 W→W.cell? ⟨gl,k,none⟩ = some (.int .i64 lk)):=zz fun W hW=>by rw [← hlke];exact HLC.out k hlk W hW
   obtain ⟨jp,hjp⟩ : ∃ p,j.at_ = p:=⟨_,rfl⟩
   have HJP : Hid (∀ W,Below w2.heap.size w2 W→∀ q,q < (zAb jp).size→W.cell? ⟨bb,o2 + k * 3 + 1 + q,none⟩ = (zAb jp)[q]?):=zz fun W hW q hq=>by
    have h2 : q < 2:=hq;have:=hcj W (HB2.out.trans (hW.mono HB2.out.size)) (1 + q) (by show 1 + q < 3;omega);rw [← Nat.add_assoc] at this;rw [this,← hjp]
    match q,h2 with
    | 0,_=>rfl
    | 1,_=>rfl
   obtain ⟨r,hr⟩ : ∃ r,insR P jp np = r:=⟨_,rfl⟩
   have hin:=HID.out jp (by rw [← hjp];exact HSM.out j hjm);rw [hr] at hin;have HIN:=zz (hin.moved HV.out);rw [hjp,hr,hlke] at hh;obtain ⟨q,hq⟩ : ∃ q,(!decide (lk = lo)) = q:=⟨_,rfl⟩
   rw [hq] at hh;have HQ:=zz hq;obtain ⟨h,hhe⟩ : ∃ h,H j = h:=⟨_,rfl⟩
   have HH : Hid ((q && r) = h):=zz (by rw [← hhe];exact hh);have HK1 : Hid (h = true→R = true):=zz fun e=>by
    cases hR : R with
    | true=>rfl
    | false=>
     have h5:=HX1.out hR;rw [decide_eq_true hA,Bool.true_and] at h5;have:=List.any_eq_false.1 h5 j hjm;rw [hhe,e] at this;exact absurd rfl this
   have HK2 : Hid (h = false→∀ (q : Nat) y,q < k + 1→js[q]? = some y→H y = false):=zz fun e q y hq hy=>by
    by_cases hqk : q < k
    ·exact HNK.out q y hqk hy
    ·have : q = k:=by omega
     subst this;rw [hj] at hy;cases hy;rw [hhe];exact e
   clear hj hcj hh hjm hlke hjp hr hin hq hhe
   go_upto_region 12 with (fail)
   clear c0;refine rgQ [0,1,2,3,4,5,6,7,8,9,10,11,12,13,14,15] [] ?_;iterate 3 (refine wD rfl ?_;simp only [pT])
   refine zAi (v:=.int .i64 lk) rfl rfl (fun W hW=>by have e:=HLK.out W (HW.out.trans (hW.mono HW.out.size));go_simp;try with_reducible rfl) ?_;simp only [pT]
   (refine wD rfl ?_;simp only [pT])
   refine zAi (v:=.bool q) rfl rfl (fun W hW=>by go_simp;first | exact HQ.out | simpa using HQ.out) ?_;simp only [pT]
   (refine wD rfl ?_;simp only [pT])
   iterate 2 (refine wI rfl ?_;simp only [pT])
   refine zAB (v:=_) rfl rfl (fun hg W hW=>by (try simp only [Bool.and_eq_true] at hg);(try simp only [hg,Bool.and_self,zAz]);have e:=(HWR.out.belowAll hW).cell;go_simp;with_reducible rfl) ?_;simp only [pT];iterate 3 (refine wI rfl ?_;simp only [pT])
   refine zAB (v:=.agg (zAb jp)) rfl rfl (fun hg W hW=>by (try simp only [Bool.and_eq_true] at hg);(try simp only [hg,Bool.and_self,zAz]);exact zAE (zAb jp) (HJP.out W (HW.out.trans (hW.mono HW.out.size))) rfl zuB) ?_;simp only [pT];refine zBl _ _ _ rfl rfl (fun hg W=>by go_simp;try with_reducible rfl) (fun hg=>HIN.out) ?_;simp only [pT];refine zB1 rfl rfl rfl ?_;simp only [pT];intro W1 HW1;refine zA1 [53,54,55,56,57,58,59,60,61,62,63,64,65,66,67] fun u=>?_;simp only [zAu,pT];refine zBe ?_;have HW2:=zz (HW.out.trans (HW1.mono HW.out.size));have HV2:=zz (HV.out.trans (HW1.mono HV.out.size));clear HW HV HW1 HWR HLK HJP HIN HQ;rw [HH.out]
   cases h
   case true=>
    have HRT : Hid (R = true):=zz (HK1.out rfl);go_wp2;go_ret;exact ⟨by rw [HRT.out];rfl,HB2.out.trans (HW2.out.mono HB2.out.size)⟩
   case false=>
    have HN2:=zz (HK2.out rfl);go_wp2;go_roundw
    case rel=>exact ⟨k + 1,by omega,by go_num,HN2,HW2,HV2⟩
    case measure=>simp [intOf];omega
end Go.Proofs.YtbbblemfodpmaaaGreat
end
section
namespace Go.Proofs.YtbbblemfodpmaaaGreat
open Go.RowKit
def sndX (js : List Joint) (ls : List Lead) : Int:=if (zAK js ls).1 = 0 then zBW js ls else (zAK js ls).1
theorem zAW.base_le {W : World} {N N' : Nat} {v : Value} {L : List (List Side)} (h : zAW W N v L) (hN : N' ≤ N) : zAW W N' v L:=by
 obtain ⟨ss,a,b,c⟩:=h;exact ⟨ss,a.base_le hN,fun s hs=>(b s hs).base_le hN,c⟩
theorem joint_id {j : Joint} {W : World} {bb o k : Nat} (h : ∀ q,q < (zAh j).size→W.cell? ⟨bb,o + k * 3 + q,none⟩ = (zAh j)[q]?) : W.cell? ⟨bb,o + k * 3,none⟩ = some (.int .i64 j.id):=by
 have:=h 0 (by show 0 < 3;decide);rw [Nat.add_zero] at this;exact this
theorem rsound_any (sj : Sl Joint) (sl : Sl Lead) (w : World) (hj : sj.OK 3 zAh zAs (fun _=>False) w) (hl : sl.OK 8 zAd zAA (fun _=>False) w) :
  Calls Tryz.prog 88 #[.agg #[.slice sj.a sj.val.length sj.cap, .slice sl.a sl.val.length sl.cap]] w fun e w'=>∃ v,e = .returned (.tuple #[.int .i64 (sndX sj.val sl.val),v])∧zAW w' w.heap.size v (if sndX sj.val sl.val = 0 then zBv sj.val sl.val else [])∧Below w.heap.size w w':=by
 have HVD : Hid (Det 90 #[.agg #[.slice sj.a sj.val.length sj.cap, .slice sl.a sl.val.length sl.cap]] (.int .i64 (zAK sj.val sl.val).1) w):=zz (rvalidw_det sj sl w hj hl);obtain ⟨R,hR⟩ : ∃ r,sndX sj.val sl.val = r:=⟨_,rfl⟩
 have HRB : Hid ((zAK sj.val sl.val).1 ≠ 0→R = (zAK sj.val sl.val).1):=zz fun h=>by rw [← hR];unfold sndX;rw [if_neg h]
 have HGD : Hid ((zAK sj.val sl.val).1 = 0→∃ (X : List (List Side)) (AR : List Side→Int) (PT : List Side→List Point) (OT : Int→List Side) (nb np : List Int) (NE : Bool),zBv sj.val sl.val = X∧X.length ≤ 800∧sj.val.length ≤ 200∧
   (R = if (sj.val.any fun j=>decide ((OT j.id).length = 0)) = true then 23 else if 0 < nb.length then 23 else if 0 < np.length then 23 else if NE = true then 24 else if ((X.filter fun x=>decide (0 < AR x)).any fun x=>decide (24 < (zAZ (PT x)).length)) = true then 2 else if 64 < (X.filter fun x=>decide (0 < AR x)).length then 2 else 0)∧nb.length ≤ 800∧np.length ≤ 800∧
   (∀ j ∈ sj.val,(OT j.id).length ≤ 800)∧
   (∀ id W,Below w.heap.size w W→Calls Tryz.prog 98 #[.agg #[.slice sj.a sj.val.length sj.cap, .slice sl.a sl.val.length sl.cap], .int .i64 id] W fun e w'=>∃ v,e = .returned v∧OwnL zAa 2 w' W.heap.size 59 v (OT id)∧Below W.heap.size W w')∧
   (∀ W,Below w.heap.size w W→Calls Tryz.prog 93 #[.agg #[.slice sj.a sj.val.length sj.cap, .slice sl.a sl.val.length sl.cap]] W fun e w'=>∃ v,e = .returned v∧OwnL zAC 1 w' W.heap.size 3 v nb∧Below W.heap.size W w')∧
   (∀ W,Below w.heap.size w W→Calls Tryz.prog 95 #[.agg #[.slice sj.a sj.val.length sj.cap, .slice sl.a sl.val.length sl.cap]] W fun e w'=>∃ v,e = .returned v∧OwnL zAC 1 w' W.heap.size 3 v np∧Below W.heap.size W w')∧
   (∀ W,Below w.heap.size w W→Calls Tryz.prog 97 #[.agg #[.slice sj.a sj.val.length sj.cap, .slice sl.a sl.val.length sl.cap]] W fun e w'=>∃ v,e = .returned v∧zAW w' W.heap.size v X∧Below W.heap.size W w')∧
   (∀ N xa xc W,Below w.heap.size w W→zAW W N (.slice xa X.length xc) X→Calls Tryz.prog 158 #[.agg #[.slice sj.a sj.val.length sj.cap, .slice sl.a sl.val.length sl.cap], .slice xa X.length xc] W fun e w'=>e = .returned (.bool NE)∧Below W.heap.size W w')∧
   (∀ x ∈ X,x.length ≤ 800∧(PT x).length ≤ 800∧(∀ a c W,Below w.heap.size w W→Sl.OK 2 zAa (fun _ _ _=>True) (fun _=>False) W ⟨a,c,x⟩→Calls Tryz.prog 110 #[.agg #[.slice sj.a sj.val.length sj.cap, .slice sl.a sl.val.length sl.cap], .slice a x.length c] W fun e w'=>∃ v,e = .returned v∧OwnL zAb 2 w' W.heap.size 27 v (PT x)∧Below W.heap.size W w')∧
    (∀ a c W,Sl.OK 2 zAb (fun _ _ _=>True) (fun _=>False) W ⟨a,c,PT x⟩→Det 109 #[.slice a (PT x).length c] (.int .i64 (AR x)) W∧Calls Tryz.prog 159 #[.slice a (PT x).length c] W fun e w'=>∃ v,e = .returned v∧OwnL zAC 1 w' W.heap.size 3 v (zAZ (PT x))∧Below W.heap.size W w'))):=zz fun h=>by
  have V:=zDB h;have hXl : (zBv sj.val sl.val).length ≤ 800:=zDJ V;refine ⟨zBv sj.val sl.val,zBd sj.val sl.val,zAI sj.val sl.val,outA sj.val sl.val,zCC sj.val sl.val,zCD sj.val sl.val,zB0 sj.val sl.val (zBu sj.val sl.val),rfl,hXl,V.nj, ?_, ?_, ?_,fun j _=>?_,fun id W hW=>?_,fun W hW=>rbridges_any sj sl W (hj.jmoved hW) (hl.lmoved hW) V,fun W hW=>rpinches_any sj sl W (hj.jmoved hW) (hl.lmoved hW) V,fun W hW=>rwalks_any sj sl W (hj.jmoved hW) (hl.lmoved hW) V,fun N xa xc W hW hX=>rnested_any sj sl W (hj.jmoved hW) (hl.lmoved hW) V xa xc hX hXl,fun x hx=>?_⟩
  ·rw [← hR];unfold sndX;rw [if_pos h];rfl
  ·unfold zCC;rw [List.length_map];have:=List.length_filter_le (zBF sj.val sl.val) sl.val;have:=V.nl;omega
  ·unfold zCD;rw [List.length_map];have:=List.length_filter_le (zCd sj.val sl.val) sj.val;have:=V.nj;omega
  ·have h1:=(zB2 (ltAt sj.val sl.val j.id) (zAp j.id sl.val)).length_eq;have h2:=zDV j.id sl.val;have h3:=V.nl;unfold outA;omega
  ·have:=zGi sj sl id W (hj.jmoved hW) (hl.lmoved hW) V
   rwa [V.around_eq] at this
  ·have N:=nest_all sj sl w hj hl V hx;have hs:=zC0 V x;obtain ⟨g1,g2,g3⟩:=zD6 V hx;exact ⟨g2,N.len.2.2,N.pts,fun a c W hS=>⟨N.area a c W hS,rCorners_any a c _ W hS N.len.2.2 hs⟩⟩
 have HJ:=zz hj;obtain ⟨HB0,HWB⟩:=zP1 w #[.slice sj.a sj.val.length sj.cap, .slice sl.a sl.val.length sl.cap] 25;rw [hR];obtain ⟨X,hXO⟩ : ∃ X,zBv sj.val sl.val = X:=⟨_,rfl⟩
 obtain ⟨aj,cj,js⟩:=sj;obtain ⟨al,cl,ls⟩:=sl;obtain ⟨nj,hn1⟩ : ∃ n,js.length = n:=⟨_,rfl⟩
 obtain ⟨nl,hn2⟩ : ∃ n,ls.length = n:=⟨_,rfl⟩
 obtain ⟨E,hn3⟩ : ∃ n,(zAK js ls).1 = n:=⟨_,rfl⟩
 have HNJ:=zz hn1;simp only [hn1,hn2,hn3,hXO] at HVD HRB HGD HB0 HWB ⊢;clear hn1 hn2 hn3 hj hl hR hXO;go_enter Tryz.func88,Tryz.ntmps88
 go_upto_region 1 with (fail)
 refine rgQ [0,1,2] [] ?_;refine zAi (v:=_) rfl rfl (fun W hW=>zAc _ (HWB.out.belowAll hW) rfl (zAg _) zuC) ?_;simp only [pT];refine zAO _ _ _ rfl rfl (fun W=>by go_simp;try with_reducible rfl) (HVD.out.moved HB0.out) ?_;simp only [pT]
 (refine wD rfl ?_;simp only [pT])
 intro W1 HW1;refine zA1 [10,11] fun u=>?_;simp only [zAu,pT];refine zBe ?_;replace HB0:=hTr HB0 HW1;replace HWB:=zz (HWB.out.belowAll HW1);clear HW1
 by_cases h0 : E = 0
 case neg=>
  have hre:=HRB.out h0;clear HGD HRB;subst hre;go_wp2;go_ret2;refine ⟨_,rfl, ?_,HB0.out⟩;exact zAW.nil _ _
 subst h0;obtain ⟨_,AR,PT,OT,nb,np,NE,rfl,hXl,hnj2,hE,hnb,hnp,hot,har,hbr,hpi,hwk,hne,hx⟩:=HGD.out rfl;obtain ⟨w2,rfl⟩ : ∃ W,W = W1:=⟨_,rfl⟩
 have HB2:=HB0;have HWA : Hid (∀ W,Below w2.heap.size w2 W→zAe W w.heap.size 25 #[.slice aj nj cj, .slice al nl cl]):=zz fun W hW=>HWB.out.belowAll hW;have up : ∀ W,Below w2.heap.size w2 W→Below w.heap.size w W:=fun W hW=>HB2.out.trans (hW.mono HB2.out.size);have HE:=zz hE;have HAR1:=zz fun id W hW=>har id W (up W hW);have HBR:=zz fun W hW=>hbr W (up W hW);have HPI:=zz fun W hW=>hpi W (up W hW);have HWK:=zz fun W hW=>hwk W (up W hW);have HNE:=zz fun N xa xc W hW=>hne N xa xc W (up W hW);have HXX:=zz hx;have HR0 : Hid (Below w2.heap.size w2 w2):=zz (Below.refl _ _);have HOT:=zz hot;clear hE har hbr hpi hwk hne hx up HWB HB0 HGD HRB HVD hot;go_wp2
 go_loopw [5] (fun iv wr=>∃ i : Nat,i ≤ nj∧iv = .int .i64 i∧Hid (∀ (q : Nat) j,q < i→js[q]? = some j→decide ((OT j.id).length = 0) = false)∧Hid (Below w2.heap.size w2 wr)) (fun iv _=>nj - (intOf iv).toNat)
 case atStart=>exact ⟨0,Nat.zero_le _,rfl,zz (by omega),HR0⟩
 case round=>
  obtain ⟨i,hi,rfl,HNO,HW⟩:=hrel;have c0:=((HWA.out wr HW.out).cell 0).trans (show _ = some (.slice aj nj cj) from rfl)
  by_cases hlt : i < nj
  case pos=>
   obtain ⟨j,hj⟩ : ∃ y,js[i]? = some y:=⟨_,List.getElem?_eq_getElem (by rw [HNJ.out];exact hlt)⟩
   have hjm:=List.mem_of_getElem? hj;obtain ⟨bb,o,e,hcj⟩:=HJ.out.elemAt (fun _=>rfl) hj;simp only at e;subst e;have HJI : Hid (∀ W,Below w2.heap.size w2 W→W.cell? ⟨bb,o + i * 3,none⟩ = some (.int .i64 j.id)):=zz fun W hW=>joint_id (hcj W (HB2.out.trans (hW.mono HB2.out.size)));have HAR:=zz (HAR1.out j.id);have hol:=HOT.out j hjm;obtain ⟨o1,ho1e⟩ : ∃ l,OT j.id = l:=⟨_,rfl⟩
   have HOE:=zz ho1e;simp only [ho1e] at HAR hol;have HX1 : Hid (o1.length = 0→R = 23):=zz fun h=>by
    rw [HE.out,if_pos];exact List.any_eq_true.2 ⟨j,hjm,by rw [HOE.out];exact decide_eq_true h⟩
   have HX2 : Hid (¬ o1.length = 0→∀ (q : Nat) y,q < i + 1→js[q]? = some y→decide ((OT y.id).length = 0) = false):=zz fun h q y hq hy=>by
    by_cases hqi : q < i
    ·exact HNO.out q y hqi hy
    ·have : q = i:=by omega
     subst this;rw [hj] at hy;cases hy;rw [HOE.out];exact decide_eq_false h
   clear hj hjm hcj ho1e HOE
   go_upto_region 7 with (fail)
   clear c0;have S1 : (fun W=>Below w2.heap.size w2 W) wr.drew:=HW.out.drew;refine zCQ (fun W=>Below w2.heap.size w2 W) [(0,true),(1,true),(2,true),(3,true),(4,true),(5,true),(6,true),(7,false),(8,true),(9,true)] rfl (by kernel_rfl) (by kernel_rfl) (fun d _ _ _ _ h=>by cases d <;> exact h) S1 ?_;refine zBw (v:=.agg #[.slice (some ⟨bb,o,none⟩) nj cj, .slice al nl cl]) rfl rfl (fun W hW=>zAc _ (HWA.out W hW) rfl (zAg _) zuC) ?_;simp only [pT];refine wS rfl ?_;simp only [pT];refine zBw (v:=.slice (some ⟨bb,o,none⟩) nj cj) rfl rfl (fun W hW=>by have e:=(HWA.out W hW).cell;go_simp) ?_;simp only [pT];iterate 3 (refine wS rfl ?_;simp only [pT])
   refine zBw (v:=.int .i64 j.id) rfl rfl (fun W hW=>by have e:=HJI.out W hW;go_simp) ?_;simp only [pT];refine zCo rfl rfl (fun K hK=>?_)
   go_simp
   refine (HAR.out _ S1).mono ?_;rintro e w3 ⟨rv,rfl,ho1,hb3⟩;have S2 : (fun W=>Below w2.heap.size w2 W) w3:=S1.trans (hb3.mono S1.size);obtain ⟨ra,rc,e⟩:=ho1.shape;subst e;refine hK _ _ S2 ?_;clear hK K
   try simp only [pT]
   iterate 2 (refine wS rfl ?_;simp only [pT])
   simp only [wpS];have HW3:=zz S2;clear S1 S2 hb3 ho1 HAR HJI
   by_cases ht0 : o1.length = 0
   ·have hre:=HX1.out ht0;clear HX1 HX2 HE;subst hre;go_wp2;go_ret2;exact ⟨_,rfl,zAW.nil _ _,HB2.out.trans (HW3.out.mono HB2.out.size)⟩
   ·have HN2:=zz (HX2.out ht0);clear HX1 HX2;go_wp2;go_roundw
    case rel=>exact ⟨i + 1,by omega,by go_num,HN2,HW3⟩
    case measure=>simp [intOf];omega
  have hin : nj = i:=by omega
  subst hin;have hap : (js.any fun j=>decide ((OT j.id).length = 0)) = false:=List.any_eq_false.2 fun y hy=>by
   obtain ⟨q,hq⟩:=List.getElem?_of_mem hy;have h1:=(List.getElem?_eq_some_iff.1 hq).1;rw [HNJ.out] at h1;rw [HNO.out q y h1 hq];decide
  have HE1 : Hid (R = if 0 < nb.length then 23 else if 0 < np.length then 23 else if NE = true then 24 else if ((X.filter fun x=>decide (0 < AR x)).any fun x=>decide (24 < (zAZ (PT x)).length)) = true then 2 else if 64 < (X.filter fun x=>decide (0 < AR x)).length then 2 else 0):=zz (by rw [HE.out,hap];rfl);clear hap HE HNO HAR1 HOT HJ;obtain ⟨n1,hn1⟩ : ∃ n,nb.length = n:=⟨_,rfl⟩
  obtain ⟨n2,hn2⟩ : ∃ n,np.length = n:=⟨_,rfl⟩
  simp only [hn1,hn2] at HE1 hnb hnp;have HN1:=zz hn1;have HN2:=zz hn2;clear hn1 hn2
  by_cases h1 : 0 < n1
  ·have hre : R = 23:=by rw [HE1.out,if_pos h1]
   clear HE1;subst hre
   go_wp2_with (first
    | ((with_reducible refine zAm 32 ?_);refine zA4 (HWA.out _ HW.out) rfl 25 _ rfl rfl #[.slice aj nj cj, .slice al nl cl] (zAg _) zuC ?_)
    | (go_at_call 93;refine (HBR.out _ HW.out).mono ?_;rintro e w3 ⟨v,rfl,ho,hb⟩;obtain ⟨ba,bc,rfl⟩:=ho.shape;simp only [HN1.out];replace HW:=zz (HW.out.trans (hb.mono HW.out.size));clear ho hb))
   go_ret2;exact ⟨_,rfl,zAW.nil _ _,HB2.out.trans (HW.out.mono HB2.out.size)⟩
  by_cases h2 : 0 < n2
  ·have hre : R = 23:=by rw [HE1.out,if_neg h1,if_pos h2]
   clear HE1;subst hre
   go_wp2_with (first
    | ((with_reducible refine zAm 32 ?_);refine zA4 (HWA.out _ HW.out) rfl 25 _ rfl rfl #[.slice aj nj cj, .slice al nl cl] (zAg _) zuC ?_)
    | (go_at_call 93;refine (HBR.out _ HW.out).mono ?_;rintro e w3 ⟨v,rfl,ho,hb⟩;obtain ⟨ba,bc,rfl⟩:=ho.shape;simp only [HN1.out];replace HW:=zz (HW.out.trans (hb.mono HW.out.size));clear ho hb)
    | ((with_reducible refine zAm 37 ?_);refine zA4 (HWA.out _ HW.out) rfl 25 _ rfl rfl #[.slice aj nj cj, .slice al nl cl] (zAg _) zuC ?_)
    | (go_at_call 95;refine (HPI.out _ HW.out).mono ?_;rintro e w4 ⟨v,rfl,ho,hb⟩;obtain ⟨pa,pc,rfl⟩:=ho.shape;simp only [HN2.out];replace HW:=zz (HW.out.trans (hb.mono HW.out.size));clear ho hb))
   go_ret2;exact ⟨_,rfl,zAW.nil _ _,HB2.out.trans (HW.out.mono HB2.out.size)⟩
  replace HE1 : Hid (R = if NE = true then 24 else if ((X.filter fun x=>decide (0 < AR x)).any fun x=>decide (24 < (zAZ (PT x)).length)) = true then 2 else if 64 < (X.filter fun x=>decide (0 < AR x)).length then 2 else 0):=zz (by rw [HE1.out,if_neg h1,if_neg h2])
  by_cases h3 : NE = true
  ·have hre : R = 24:=by rw [HE1.out,if_pos h3]
   clear HE1;subst hre;subst h3
   go_wp2_with (first
    | ((with_reducible refine zAm 32 ?_);refine zA4 (HWA.out _ HW.out) rfl 25 _ rfl rfl #[.slice aj nj cj, .slice al nl cl] (zAg _) zuC ?_)
    | (go_at_call 93;refine (HBR.out _ HW.out).mono ?_;rintro e w3 ⟨v,rfl,ho,hb⟩;obtain ⟨ba,bc,rfl⟩:=ho.shape;simp only [HN1.out];replace HW:=zz (HW.out.trans (hb.mono HW.out.size));clear ho hb)
    | ((with_reducible refine zAm 37 ?_);refine zA4 (HWA.out _ HW.out) rfl 25 _ rfl rfl #[.slice aj nj cj, .slice al nl cl] (zAg _) zuC ?_)
    | (go_at_call 95;refine (HPI.out _ HW.out).mono ?_;rintro e w4 ⟨v,rfl,ho,hb⟩;obtain ⟨pa,pc,rfl⟩:=ho.shape;simp only [HN2.out];replace HW:=zz (HW.out.trans (hb.mono HW.out.size));clear ho hb)
    | ((with_reducible refine zAm 42 ?_);refine zA4 (HWA.out _ HW.out) rfl 25 _ rfl rfl #[.slice aj nj cj, .slice al nl cl] (zAg _) zuC ?_)
    | (go_at_call 97;refine (HWK.out _ HW.out).mono ?_;rintro e w5 ⟨v,rfl,ho,hb⟩;have HXL:=zz (ho.base_le (Nat.le_trans HB2.out.size HW.out.size));obtain ⟨xa,xc,rfl⟩:=ho.shape;replace HW:=zz (HW.out.trans (hb.mono HW.out.size));clear ho hb)
    | ((with_reducible refine zAm 44 ?_);refine zA4 (HWA.out _ HW.out) rfl 25 _ rfl rfl #[.slice aj nj cj, .slice al nl cl] (zAg _) zuC ?_)
    | (go_at_call 158;refine (HNE.out _ xa xc _ HW.out HXL.out).mono ?_;rintro e w6 ⟨rfl,hb⟩;replace HXL:=zz (HXL.out.belowAll hb);replace HW:=zz (HW.out.trans (hb.mono HW.out.size));clear hb))
   go_ret2;exact ⟨_,rfl,zAW.nil _ _,HB2.out.trans (HW.out.mono HB2.out.size)⟩
  replace HE1 : Hid (R = if ((X.filter fun x=>decide (0 < AR x)).any fun x=>decide (24 < (zAZ (PT x)).length)) = true then 2 else if 64 < (X.filter fun x=>decide (0 < AR x)).length then 2 else 0):=zz (by rw [HE1.out,if_neg h3]);have h3 : NE = false:=by simpa using h3
  subst h3
  go_wp2_with (first
   | ((with_reducible refine zAm 32 ?_);refine zA4 (HWA.out _ HW.out) rfl 25 _ rfl rfl #[.slice aj nj cj, .slice al nl cl] (zAg _) zuC ?_)
   | (go_at_call 93;refine (HBR.out _ HW.out).mono ?_;rintro e w3 ⟨v,rfl,ho,hb⟩;obtain ⟨ba,bc,rfl⟩:=ho.shape;simp only [HN1.out];replace HW:=zz (HW.out.trans (hb.mono HW.out.size));clear ho hb)
   | ((with_reducible refine zAm 37 ?_);refine zA4 (HWA.out _ HW.out) rfl 25 _ rfl rfl #[.slice aj nj cj, .slice al nl cl] (zAg _) zuC ?_)
   | (go_at_call 95;refine (HPI.out _ HW.out).mono ?_;rintro e w4 ⟨v,rfl,ho,hb⟩;obtain ⟨pa,pc,rfl⟩:=ho.shape;simp only [HN2.out];replace HW:=zz (HW.out.trans (hb.mono HW.out.size));clear ho hb)
   | ((with_reducible refine zAm 42 ?_);refine zA4 (HWA.out _ HW.out) rfl 25 _ rfl rfl #[.slice aj nj cj, .slice al nl cl] (zAg _) zuC ?_)
   | (go_at_call 97;refine (HWK.out _ HW.out).mono ?_;rintro e w5 ⟨v,rfl,ho,hb⟩;have HXL:=zz (ho.base_le (Nat.le_trans HB2.out.size HW.out.size));obtain ⟨xa,xc,rfl⟩:=ho.shape;replace HW:=zz (HW.out.trans (hb.mono HW.out.size));clear ho hb)
   | ((with_reducible refine zAm 44 ?_);refine zA4 (HWA.out _ HW.out) rfl 25 _ rfl rfl #[.slice aj nj cj, .slice al nl cl] (zAg _) zuC ?_)
   | (go_at_call 158;refine (HNE.out _ xa xc _ HW.out HXL.out).mono ?_;rintro e w6 ⟨rfl,hb⟩;replace HXL:=zz (HXL.out.belowAll hb);replace HW:=zz (HW.out.trans (hb.mono HW.out.size));clear hb))
  have HB6:=zz (HB2.out.trans (HW.out.mono HB2.out.size));have HWA6 : Hid (∀ W,Below w6.heap.size w6 W→zAe W w.heap.size 25 #[.slice aj nj cj, .slice al nl cl]):=zz fun W hW=>HWA.out W (HW.out.trans (hW.mono HW.out.size));have up6 : ∀ W,Below w6.heap.size w6 W→Below w.heap.size w W:=fun W hW=>HB6.out.trans (hW.mono HB6.out.size);obtain ⟨nX,hnX⟩ : ∃ n,X.length = n:=⟨_,rfl⟩
  have HNX:=zz hnX;obtain ⟨cnt,hct⟩ : ∃ f : Nat→Nat,∀ k,((X.take k).filter fun x=>decide (0 < AR x)).length = f k:=⟨_,fun _=>rfl⟩
  have HCT:=zz hct;have HCL : Hid (∀ k,cnt k ≤ k):=zz fun k=>by
   rw [← hct];exact Nat.le_trans (List.length_filter_le _ _) (by rw [List.length_take];omega)
  have HCE : Hid ((X.filter fun x=>decide (0 < AR x)).length = cnt nX):=zz (by rw [← hct,List.take_of_length_le (by rw [hnX];exact Nat.le_refl _)]);have HXY : Hid (∀ x ∈ X,x.length ≤ 800∧(PT x).length ≤ 800∧(∀ a c W,Below w6.heap.size w6 W→Sl.OK 2 zAa (fun _ _ _=>True) (fun _=>False) W ⟨a,c,x⟩→Calls Tryz.prog 110 #[.agg #[.slice aj nj cj, .slice al nl cl], .slice a x.length c] W fun e w'=>∃ v,e = .returned v∧OwnL zAb 2 w' W.heap.size 27 v (PT x)∧Below W.heap.size W w')∧
    (∀ a c W,Sl.OK 2 zAb (fun _ _ _=>True) (fun _=>False) W ⟨a,c,PT x⟩→Det 109 #[.slice a (PT x).length c] (.int .i64 (AR x)) W∧Calls Tryz.prog 159 #[.slice a (PT x).length c] W fun e w'=>∃ v,e = .returned v∧OwnL zAC 1 w' W.heap.size 3 v (zAZ (PT x))∧Below W.heap.size W w')):=zz fun x hx=>by
   obtain ⟨a1,a2,a3,a4⟩:=HXX.out x hx;exact ⟨a1,a2,fun a c W hW=>a3 a c W (up6 W hW),a4⟩
  simp only [hnX] at HXL hXl ⊢;have HR6 : Hid (Below w6.heap.size w6 w6):=zz (Below.refl _ _);clear hnX hct up6 HW HWA HXX HBR HPI HWK HNE HB2;have HWA:=HWA6;clear HWA6
  go_loopw [7,8] (fun pv iv wr=>∃ i : Nat,i ≤ nX∧iv = .int .i64 i∧pv = .int .i64 ((cnt i : Nat) : Int)∧Hid (∀ (q : Nat) x,q < i→X[q]? = some x→(decide (0 < AR x) && decide (24 < (zAZ (PT x)).length)) = false)∧Hid (Below w6.heap.size w6 wr)) (fun _ iv _=>nX - (intOf iv).toNat)
  case atStart=>exact ⟨0,Nat.zero_le _,rfl,by rw [← HCT.out];rfl,zz (by omega),HR6⟩
  case round=>
   obtain ⟨i,hi,rfl,rfl,HNO,HW⟩:=hrel
   by_cases hlt : i < nX
   case neg=>
    have hin : nX = i:=by omega
    subst hin;have hany : ((X.filter fun x=>decide (0 < AR x)).any fun x=>decide (24 < (zAZ (PT x)).length)) = false:=by
     rw [List.any_filter];exact List.any_eq_false.2 fun x hx=>by
      obtain ⟨q,hq⟩:=List.getElem?_of_mem hx;have h1:=(List.getElem?_eq_some_iff.1 hq).1;rw [HNX.out] at h1;rw [HNO.out q x h1 hq];decide
    have HE2 : Hid (R = if 64 < cnt nX then 2 else 0):=zz (by rw [HE1.out,hany,HCE.out];rfl);obtain ⟨cn,hcn⟩ : ∃ n,cnt nX = n:=⟨_,rfl⟩
    simp only [hcn] at HE2 ⊢;clear hany HE1 hcn HCE
    by_cases h5 : 64 < cn
    ·have hre : R = 2:=by rw [HE2.out,if_pos h5]
     clear HE2;subst hre;go_wp2;go_ret2;exact ⟨_,rfl,zAW.nil _ _,HB6.out.trans (HW.out.mono HB6.out.size)⟩
    ·have hre : R = 0:=by rw [HE2.out,if_neg h5]
     clear HE2;subst hre;go_wp2;go_ret2;refine ⟨_,rfl, ?_,HB6.out.trans (HW.out.mono HB6.out.size)⟩;exact HXL.out.belowAll HW.out
   obtain ⟨x,hx⟩ : ∃ x,X[i]? = some x:=⟨_,List.getElem?_eq_getElem (by rw [HNX.out];exact hlt)⟩
   have hxm:=List.mem_of_getElem? hx;obtain ⟨l1,l2,npt,nac⟩:=HXY.out x hxm;obtain ⟨g,cap,⟨sa,sc,sv⟩,e,_,hg,hq,hsv,hos⟩:=HXL.out.place hx;simp only [HNX.out,Value.slice.injEq] at e;obtain ⟨rfl,_,rfl⟩:=e;simp only at hq hos hsv;obtain ⟨m,hm⟩ : ∃ m,x.length = m:=⟨_,rfl⟩
   obtain ⟨P,hP⟩ : ∃ p,PT x = p:=⟨_,rfl⟩
   obtain ⟨A,hA⟩ : ∃ p,AR x = p:=⟨_,rfl⟩
   rw [hP] at npt nac l2;rw [hA] at nac;have HQX : Hid (∀ W,Below w6.heap.size w6 W→W.cell? ⟨g,i,none⟩ = some (.slice sa m sc)):=zz fun W hW=>by rw [← hm];exact (hW.cell (p:=⟨g,i,none⟩) hg).trans hq
   have HPT : Hid (∀ W,Below w6.heap.size w6 W→Calls Tryz.prog 110 #[.agg #[.slice aj nj cj, .slice al nl cl], .slice sa m sc] W fun e w'=>∃ v,e = .returned v∧OwnL zAb 2 w' W.heap.size 27 v P∧Below W.heap.size W w'):=zz fun W hW=>by
    rw [← hm];exact npt _ _ W hW ((hos.belowAll hW).okSl (fun _=>rfl) (fun _ _ _=>True) (fun _ _=>trivial) (by omega))
   have HNA:=zz nac;have HC1 : Hid (cnt (i + 1) = cnt i + (decide (0 < A)).toNat):=zz (by
    rw [← HCT.out,← HCT.out,zB5 hx,hA,List.length_append]
    cases decide (0 < A) <;> rfl)
   obtain ⟨cs,hcs⟩ : ∃ n,(zAZ P).length = n:=⟨_,rfl⟩
   have HX1 : Hid (0 < A→24 < cs→R = 2):=zz fun h k=>by
    rw [HE1.out,if_pos];exact List.any_eq_true.2 ⟨x,List.mem_filter.2 ⟨hxm,by rw [hA];exact decide_eq_true h⟩,by rw [hP,hcs];exact decide_eq_true k⟩
   have HX2 : Hid ((decide (0 < A) && decide (24 < cs)) = false→∀ (q : Nat) y,q < i + 1→X[q]? = some y→(decide (0 < AR y) && decide (24 < (zAZ (PT y)).length)) = false):=zz fun h q y hq hy=>by
    by_cases hqi : q < i
    ·exact HNO.out q y hqi hy
    ·have : q = i:=by omega
     subst this;rw [hx] at hy;cases hy;rw [hA,hP,hcs];exact h
   have hcl:=HCL.out i;have HCS:=zz hcs;clear hx hxm npt nac hg hq hsv hos hm hP hA hcs l1
   go_upto_region 18 with (fail)
   have S1 : (fun W=>Below w6.heap.size w6 W) wr.drew:=HW.out.drew;refine zCQ (fun W=>Below w6.heap.size w6 W) [(0,true),(1,true),(2,true),(3,true),(4,true),(5,false),(6,true)] rfl (by kernel_rfl) (by kernel_rfl) (fun d _ _ _ _ h=>by cases d <;> exact h) S1 ?_;refine zBw (v:=.agg #[.slice aj nj cj, .slice al nl cl]) rfl rfl (fun W hW=>zAc _ (HWA.out W hW) rfl (zAg _) zuC) ?_;simp only [pT];iterate 3 (refine wS rfl ?_;simp only [pT])
   refine zBw (v:=.slice sa m sc) rfl rfl (fun W hW=>by have e:=HQX.out W hW;go_simp) ?_;simp only [pT];refine zCo rfl rfl (fun K hK=>?_)
   go_simp
   refine (HPT.out _ S1).mono ?_;rintro e w7 ⟨pv,rfl,ho1,hb7⟩;have S2 : (fun W=>Below w6.heap.size w6 W) w7:=S1.trans (hb7.mono S1.size);refine hK _ _ S2 ?_;clear hK K
   try simp only [pT]
   refine wS rfl ?_;simp only [pT];simp only [wpS];obtain ⟨pa,pc,e⟩:=ho1.shape;subst e;obtain ⟨np2,hnp⟩ : ∃ n,P.length = n:=⟨_,rfl⟩
   obtain ⟨htw,hco⟩:=HNA.out pa pc w7 (ho1.okSl (fun _=>rfl) (fun _ _ _=>True) (fun _ _=>trivial) (by omega));simp only [hnp] at htw hco ⊢;have HTD:=zz htw;have HCO : Hid (∀ W,Below w7.heap.size w7 W→Calls Tryz.prog 159 #[.slice pa np2 pc] W fun e w'=>∃ v,e = .returned v∧OwnL zAC 1 w' W.heap.size 3 v (zAZ P)∧Below W.heap.size W w'):=zz fun W hW=>by
    rw [← hnp];exact (HNA.out pa pc W ((ho1.belowAll hW).okSl (fun _=>rfl) (fun _ _ _=>True) (fun _ _=>trivial) (by omega))).2
   replace HW:=zz S2;have HV : Hid (Below w7.heap.size w7 w7):=zz (Below.refl _ _);clear ho1 hnp htw hco S1 S2 hb7 HNA HPT HQX
   by_cases hA : 0 < A
   case neg=>
    have HN2:=zz (HX2.out (by rw [decide_eq_false hA];rfl));have HC2 : Hid (cnt (i + 1) = cnt i):=zz (by rw [HC1.out,decide_eq_false hA];rfl);clear HX1 HX2 HC1
    go_wp2_with (first
     | (go_at_call 109;refine (HTD.out _ HV.out).mono ?_;rintro e w8 ⟨rfl,hb8⟩;replace HW:=zz (HW.out.trans (hb8.mono HW.out.size));clear hb8))
    go_roundw
    case rel=>exact ⟨i + 1,by omega,by go_num,by rw [HC2.out],HN2,HW⟩
    case measure=>simp [intOf];omega
   have HC2 : Hid (cnt (i + 1) = cnt i + 1):=zz (by rw [HC1.out,decide_eq_true hA];rfl)
   by_cases h6 : 24 < cs
   ·have hre:=HX1.out hA h6;clear HX1 HX2 HC1 HC2 HE1;subst hre
    go_wp2_with (first
     | (go_at_call 109;refine (HTD.out _ HV.out).mono ?_;rintro e w8 ⟨rfl,hb8⟩;replace HW:=zz (HW.out.trans (hb8.mono HW.out.size));replace HV:=zz (HV.out.trans (hb8.mono HV.out.size));clear hb8)
     | (go_at_call 159;refine (HCO.out _ HV.out).mono ?_;rintro e w9 ⟨v,rfl,ho9,hb9⟩;obtain ⟨ca,cc,rfl⟩:=ho9.shape;simp only [HCS.out];replace HW:=zz (HW.out.trans (hb9.mono HW.out.size));clear ho9 hb9))
    go_ret2;exact ⟨_,rfl,zAW.nil _ _,HB6.out.trans (HW.out.mono HB6.out.size)⟩
   ·have HN2:=zz (HX2.out (by rw [decide_eq_false h6,Bool.and_false]));clear HX1 HX2 HC1
    go_wp2_with (first
     | (go_at_call 109;refine (HTD.out _ HV.out).mono ?_;rintro e w8 ⟨rfl,hb8⟩;replace HW:=zz (HW.out.trans (hb8.mono HW.out.size));replace HV:=zz (HV.out.trans (hb8.mono HV.out.size));clear hb8)
     | (go_at_call 159;refine (HCO.out _ HV.out).mono ?_;rintro e w9 ⟨v,rfl,ho9,hb9⟩;obtain ⟨ca,cc,rfl⟩:=ho9.shape;simp only [HCS.out];replace HW:=zz (HW.out.trans (hb9.mono HW.out.size));clear ho9 hb9))
    go_roundw
    case rel=>exact ⟨i + 1,by omega,by go_num,by rw [HC2.out];try go_num,HN2,HW⟩
    case measure=>simp [intOf];omega
end Go.Proofs.YtbbblemfodpmaaaGreat
end
section
namespace Go.Proofs.YtbbblemfodpmaaaGreat
open Go.RowKit
theorem rSound_det (sj : Sl Joint) (sl : Sl Lead) (w : World) (hj : sj.OK 3 zAh zAs (fun _=>False) w) (hl : sl.OK 8 zAd zAA (fun _=>False) w) :
  Det 21 #[.agg #[.slice sj.a sj.val.length sj.cap, .slice sl.a sl.val.length sl.cap]] (.int .i64 (sndX sj.val sl.val)) w:=fun w0 hw0=>by
 replace hj:=hj.jmoved hw0;replace hl:=hl.lmoved hw0;clear hw0 w;obtain ⟨w,rfl⟩ : ∃ w,w = w0:=⟨_,rfl⟩
 obtain ⟨R,hR⟩ : ∃ r,sndX sj.val sl.val = r:=⟨_,rfl⟩
 have HSD : Hid (∀ W,Below w.heap.size w W→Calls Tryz.prog 88 #[.agg #[.slice sj.a sj.val.length sj.cap, .slice sl.a sl.val.length sl.cap]] W fun e w'=>∃ v,e = .returned (.tuple #[.int .i64 R,v])∧Below W.heap.size W w'):=zz fun W hW=>by
  rw [← hR];exact (rsound_any sj sl W (hj.jmoved hW) (hl.lmoved hW)).mono fun e w' ⟨v,h1,_,h3⟩=>⟨v,h1,h3⟩
 rw [hR];obtain ⟨HB0,HWB⟩:=zP1 w #[.slice sj.a sj.val.length sj.cap, .slice sl.a sl.val.length sl.cap] 25;clear hj hl hR;go_enter Tryz.func21,Tryz.ntmps21
 go_wp2_with (first
  | (refine zLd 6 HWB.out #[.slice sj.a sj.val.length sj.cap, .slice sl.a sl.val.length sl.cap] zuC ?_)
  | (go_at_call 88;refine (HSD.out _ HB0.out).mono ?_;rintro e w1 ⟨v,rfl,hb1⟩;replace HB0:=hTr HB0 hb1;clear hb1))
 go_ret;exact ⟨rfl,HB0.out⟩
theorem Sound_det (sj : Sl Joint) (sl : Sl Lead) (w : World) (hj : sj.OK 3 zAh zAs (fun _=>False) w) (hl : sl.OK 8 zAd zAA (fun _=>False) w) :
  Det 20 #[.agg #[.slice sj.a sj.val.length sj.cap, .slice sl.a sl.val.length sl.cap]] (.int .i64 (sndX sj.val sl.val)) w:=fun w0 hw0=>by
 replace hj:=hj.jmoved hw0;replace hl:=hl.lmoved hw0;clear hw0 w;obtain ⟨w,rfl⟩ : ∃ w,w = w0:=⟨_,rfl⟩
 by_cases hc : (zAK sj.val sl.val).1 = 0
 ·have hS : sndX sj.val sl.val = zBW sj.val sl.val:=by unfold sndX;rw [if_pos hc]
  rw [hS];have HVA : Hid (∀ W,Below w.heap.size w W→Calls Tryz.prog 86 #[.agg #[.slice sj.a sj.val.length sj.cap, .slice sl.a sl.val.length sl.cap]] W (NetOut sj sl W)):=zz fun W hW=>zEd sj sl W (hj.jmoved hW) (hl.lmoved hW) hc;obtain ⟨S,hs⟩ : ∃ S,zBW sj.val sl.val = S:=⟨_,rfl⟩
  have HSD : Hid (∀ b W,zA5 W b sj sl→Below w.heap.size w W→Calls Tryz.prog 87 #[.pointer (some ⟨b,0,none⟩)] W fun e w'=>∃ v,e = .returned (.tuple #[v, .int .i64 S])∧Below W.heap.size W w'):=zz fun b W hN hW=>by
   have h:=sound_any (sj:=sj) (zDB hc) W hN (hj.jmoved hW) (hl.lmoved hW);rw [hs] at h;exact h.mono fun e w' ⟨v,h1,_,h3⟩=>⟨v,h1,h3⟩
  rw [hs];obtain ⟨HB0,HWB⟩:=zP1 w #[.slice sj.a sj.val.length sj.cap, .slice sl.a sl.val.length sl.cap] 25;clear hj hl hs hS hc;go_enter Tryz.func20,Tryz.ntmps20
  go_wp2_with (first
   | (refine zLd 6 HWB.out #[.slice sj.a sj.val.length sj.cap, .slice sl.a sl.val.length sl.cap] zuC ?_)
   | (go_at_call 86;refine (HVA.out _ HB0.out).mono ?_;rintro e w1 ⟨b,rfl,hbb,hn1,hb1⟩;replace HB0:=hTr HB0 hb1;have HN:=zz hn1;clear hb1 hn1 hbb)
   | (go_at_call 87;refine (HSD.out b _ HN.out HB0.out).mono ?_;rintro e w2 ⟨bv,rfl,hb2⟩;replace HB0:=hTr HB0 hb2;clear hb2))
  go_ret;exact ⟨rfl,HB0.out⟩
 ·have hS : sndX sj.val sl.val = (zAK sj.val sl.val).1:=by unfold sndX;rw [if_neg hc]
  rw [hS];have HVA : Hid (∀ W,Below w.heap.size w W→Calls Tryz.prog 86 #[.agg #[.slice sj.a sj.val.length sj.cap, .slice sl.a sl.val.length sl.cap]] W fun e w'=>e = .returned (.tuple #[.pointer none, .int .i64 (zAK sj.val sl.val).1])∧Below W.heap.size W w'):=zz fun W hW=>valid_bad sj sl W (hj.jmoved hW) (hl.lmoved hW) hc;obtain ⟨S,hs⟩ : ∃ S,(zAK sj.val sl.val).1 = S:=⟨_,rfl⟩
  rw [hs] at HVA hc ⊢;obtain ⟨HB0,HWB⟩:=zP1 w #[.slice sj.a sj.val.length sj.cap, .slice sl.a sl.val.length sl.cap] 25;clear hj hl hs hS;go_enter Tryz.func20,Tryz.ntmps20
  go_wp2_with (first
   | (refine zLd 6 HWB.out #[.slice sj.a sj.val.length sj.cap, .slice sl.a sl.val.length sl.cap] zuC ?_)
   | (go_at_call 86;refine (HVA.out _ HB0.out).mono ?_;rintro e w1 ⟨rfl,hb1⟩;replace HB0:=hTr HB0 hb1;clear hb1))
  go_ret;exact ⟨rfl,HB0.out⟩
end Go.Proofs.YtbbblemfodpmaaaGreat
end
