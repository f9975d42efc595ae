/-The panes of any web, and the pane of a side.-/
import Derived.Test.YtbbblemfodpmaaaGreatWebGr
import Derived.Test.YtbbblemfodpmaaaGreatWebQx
import Derived.Test.YtbbblemfodpmaaaGreatWebGv
set_option linter.unusedVariables false
set_option linter.unusedSimpArgs false
set_option maxHeartbeats 16000000
set_option maxRecDepth 100000
namespace Go.Proofs.YtbbblemfodpmaaaGreat
open Go.RowKit
theorem ins_none (a : Option Addr) (m : Nat) (c : Value) (w : World) : Calls Tryz.prog 203 #[.slice a 0 m, .int .i64 0, .int .i64 0,c] w fun e w' => e = .returned (.tuple #[]) ∧ w' = w := by
 go_enter Tryz.func203,Tryz.ntmps203;go_wp2
 go_loopw [8,9] (fun i _ wr => i = .int .i64 1 ∧ wr = w) (fun _ _ _ => 0)
 case atStart => exact ⟨rfl,rfl⟩
 case round =>
  obtain ⟨rfl,rfl⟩ := hrel;go_wp2
  first | go_end0 | refine bodyPost_ret (results_none rfl _ _ _) rfl ?_
  exact ⟨rfl,rfl⟩
theorem pdq_none (a : Option Addr) (m : Nat) (x : Int) (c : Value) (w : World) : Calls Tryz.prog 183 #[.slice a 0 m, .int .i64 0, .int .i64 0, .int .i64 x,c] w fun e w' => e = .returned (.tuple #[]) ∧ w' = w := by
 have HI := zz (ins_none a m c w);go_enter Tryz.func183,Tryz.ntmps183;go_wp2
 go_loopw [1,2,3,10,11,12,13,14,15,16,17,18,19,20] (fun va vb _ _ _ _ _ _ _ _ _ _ _ _ wr => va = .int .i64 0 ∧ vb = .int .i64 0 ∧ wr = w) (fun _ _ _ _ _ _ _ _ _ _ _ _ _ _ _ => 0)
 case atStart => exact ⟨rfl,rfl,rfl⟩
 case round =>
  obtain ⟨rfl,rfl,rfl⟩ := hrel
  go_wp2_with (go_at_call 203;(with_reducible refine HI.out.mono ?_);rintro e w2 ⟨rfl,hw⟩;subst hw)
  first | go_end0 | refine bodyPost_ret (results_none rfl _ _ _) rfl ?_
  exact ⟨rfl,rfl⟩
theorem sort_none (a : Option Addr) (m : Nat) (c : Value) (w : World) : Calls Tryz.prog 138 #[.slice a 0 m,c] w fun e w' => e = .returned (.tuple #[]) ∧ w' = w := by
 obtain ⟨x,hx⟩ : ∃ x : Int,Calls Tryz.prog 177 #[.int .u64 0] w fun e w' => e = .returned (.int .i64 x) ∧ w' = w := by
  have h := blen_x 0 (by decide) w;rw [show ((0 : Nat) : Int) = 0 from rfl] at h;exact ⟨_,h⟩
 have HB := zz hx;clear hx;have HP : Hid (∀ x : Int,Calls Tryz.prog 183 #[.slice a 0 m, .int .i64 0, .int .i64 0, .int .i64 x,c] w fun e w' => e = .returned (.tuple #[]) ∧ w' = w) := zz fun x => pdq_none a m x c w;go_enter Tryz.func138,Tryz.ntmps138
 go_wp2_with (first
  | (go_at_call 177;(with_reducible refine HB.out.mono ?_);rintro e w2 ⟨rfl,hw⟩;subst hw)
  | (go_at_call 183;(with_reducible refine (HP.out _).mono ?_);rintro e w3 ⟨rfl,hw⟩;subst hw))
 first | go_end0 | refine bodyPost_ret (results_none rfl _ _ _) rfl ?_
 exact ⟨rfl,rfl⟩
theorem zGd : zEb := fun a m c w => sort_none a m c w
def sndE (js : List Joint) (ls : List Lead) : Int := if (zAJ js ls).1 = 0 then zBp js ls else (zAJ js ls).1
def zCR (js : List Joint) (ls : List Lead) : List PaneP := if sndE js ls = 0 then zBq js ls else []
theorem zE0 {js : List Joint} {ls : List Lead} (h : sndE js ls = 0) : (zAJ js ls).1 = 0 ∧ zBp js ls = 0 := by
 unfold sndE at h
 split at h
 ·exact ⟨by assumption,h⟩
 ·exact absurd h (by assumption)
def zDc (js : List Joint) (ls : List Lead) (s : Side) : Int := if sndE js ls = 0 then (if (zBn ls s.lead).isSome = true then 0 else 3) else sndE js ls
def zDx (js : List Joint) (ls : List Lead) (s : Side) : Int := if zDc js ls s = 0 then paneOf js ls s else 0
theorem panes_bad (sj : Sl Joint) (sl : Sl Lead) (w : World) (hj : sj.OK 3 zAg zAy (fun _ => False) w) (hl : sl.OK 8 zAe zAB (fun _ => False) w) (h0 : sndE sj.val sl.val ≠ 0) :
  Calls Tryz.prog 71 #[.agg #[.slice sj.a sj.val.length sj.cap, .slice sl.a sl.val.length sl.cap]] w fun e w' => e = .returned (.tuple #[.pointer none, .int .i64 (sndE sj.val sl.val)]) ∧ Below w.heap.size w w' := by
 by_cases hc : (zAJ sj.val sl.val).1 = 0
 ·have hS : sndE sj.val sl.val = zBp sj.val sl.val := by unfold sndE;rw [if_pos hc]
  rw [hS] at h0 ⊢;have HVA : Hid (∀ W,Below w.heap.size w W → Calls Tryz.prog 86 #[.agg #[.slice sj.a sj.val.length sj.cap, .slice sl.a sl.val.length sl.cap]] W (NetOut sj sl W)) := zz fun W hW => zDs sj sl W (hj.jmoved hW) (hl.lmoved hW) hc;obtain ⟨S,hs⟩ : ∃ S,zBp sj.val sl.val = S := ⟨_,rfl⟩
  have HSD : Hid (∀ b W,zAY W b sj sl → Below w.heap.size w W → Calls Tryz.prog 87 #[.pointer (some ⟨b,0,none⟩)] W fun e w' => ∃ v,e = .returned (.tuple #[v, .int .i64 S]) ∧ Below W.heap.size W w') := zz fun b W hN hW => by
   have h := sound_any (sj := sj) (zCH hc) W hN (hj.jmoved hW) (hl.lmoved hW);rw [hs] at h;exact h.mono fun e w' ⟨v,h1,_,h3⟩ => ⟨v,h1,h3⟩
  obtain ⟨HB0,HWB⟩ := zP1 w #[.slice sj.a sj.val.length sj.cap, .slice sl.a sl.val.length sl.cap] 25;rw [hs] at h0 ⊢;clear hj hl hs hS hc;go_enter Tryz.func71,Tryz.ntmps71
  go_wp2_with (first
   | (refine zLd 16 HWB.out #[.slice sj.a sj.val.length sj.cap, .slice sl.a sl.val.length sl.cap] zuC ?_)
   | (go_at_call 86;refine (HVA.out _ HB0.out).mono ?_;rintro e w1 ⟨b,rfl,hbb,hn1,hb1⟩;replace HB0 := hTr HB0 hb1;have HN := zz hn1;clear hb1 hn1 hbb)
   | (go_at_call 87;refine (HSD.out b _ HN.out HB0.out).mono ?_;rintro e w2 ⟨bv,rfl,hb2⟩;replace HB0 := hTr HB0 hb2;clear hb2))
  go_ret2;exact ⟨rfl,HB0.out⟩
 ·have hS : sndE sj.val sl.val = (zAJ sj.val sl.val).1 := by unfold sndE;rw [if_neg hc]
  rw [hS] at h0 ⊢;have HVA : Hid (∀ W,Below w.heap.size w W → Calls Tryz.prog 86 #[.agg #[.slice sj.a sj.val.length sj.cap, .slice sl.a sl.val.length sl.cap]] W fun e w' => e = .returned (.tuple #[.pointer none, .int .i64 (zAJ sj.val sl.val).1]) ∧ Below W.heap.size W w') := zz fun W hW => valid_bad sj sl W (hj.jmoved hW) (hl.lmoved hW) hc;obtain ⟨S,hs⟩ : ∃ S,(zAJ sj.val sl.val).1 = S := ⟨_,rfl⟩
  obtain ⟨HB0,HWB⟩ := zP1 w #[.slice sj.a sj.val.length sj.cap, .slice sl.a sl.val.length sl.cap] 25;rw [hs] at h0 HVA ⊢;clear hj hl hs hS hc;go_enter Tryz.func71,Tryz.ntmps71
  go_wp2_with (first
   | (refine zLd 16 HWB.out #[.slice sj.a sj.val.length sj.cap, .slice sl.a sl.val.length sl.cap] zuC ?_)
   | (go_at_call 86;refine (HVA.out _ HB0.out).mono ?_;rintro e w1 ⟨rfl,hb1⟩;replace HB0 := hTr HB0 hb1;clear hb1))
  go_ret2;exact ⟨rfl,HB0.out⟩
theorem Panes_all (sj : Sl Joint) (sl : Sl Lead) (w : World) (hj : sj.OK 3 zAg zAy (fun _ => False) w) (hl : sl.OK 8 zAe zAB (fun _ => False) w) :
  Calls Tryz.prog 14 #[.agg #[.slice sj.a sj.val.length sj.cap, .slice sl.a sl.val.length sl.cap]] w fun e w' => ∃ v ms,e = .returned (.tuple #[v, .int .i64 (sndE sj.val sl.val)]) ∧ ms.map PaneM.plain = zCR sj.val sl.val ∧ OwnL zAz 3 w' w.heap.size 82 v ms ∧ (∀ m ∈ ms,PaneLies w' w.heap.size m) ∧ Below w.heap.size w w' := by
 by_cases h0 : sndE sj.val sl.val = 0
 ·obtain ⟨h1,h2⟩ := zE0 h0;unfold zCR;rw [if_pos h0,h0];exact Panes_ok sj sl w hj hl h1 h2 (zGc (zCH h1) h2) fun _ => zGd
 ·unfold zCR;rw [if_neg h0];have HPB : Hid (∀ W,Below w.heap.size w W → Calls Tryz.prog 71 #[.agg #[.slice sj.a sj.val.length sj.cap, .slice sl.a sl.val.length sl.cap]] W fun e w' => e = .returned (.tuple #[.pointer none, .int .i64 (sndE sj.val sl.val)]) ∧ Below W.heap.size W w') := zz fun W hW => panes_bad sj sl W (hj.jmoved hW) (hl.lmoved hW) h0;obtain ⟨S,hs⟩ : ∃ S,sndE sj.val sl.val = S := ⟨_,rfl⟩
  obtain ⟨HB0,HWB⟩ := zP1 w #[.slice sj.a sj.val.length sj.cap, .slice sl.a sl.val.length sl.cap] 25;rw [hs] at h0 HPB ⊢;clear hj hl hs;go_enter Tryz.func14,Tryz.ntmps14
  go_wp2_with (first
   | (refine zLd 7 HWB.out #[.slice sj.a sj.val.length sj.cap, .slice sl.a sl.val.length sl.cap] zuC ?_)
   | (go_at_call 71;refine (HPB.out _ HB0.out).mono ?_;rintro e w1 ⟨rfl,hb1⟩;replace HB0 := hTr HB0 hb1;clear hb1))
  go_ret2;exact ⟨_,[],rfl,rfl,OwnL.nil _ _ _ _ _,by simp,HB0.out⟩
theorem PaneAt_all (sj : Sl Joint) (sl : Sl Lead) (s : Side) (w : World) (hj : sj.OK 3 zAg zAy (fun _ => False) w) (hl : sl.OK 8 zAe zAB (fun _ => False) w) (hi : I64 s.lead) :
  Calls Tryz.prog 49 #[.agg #[.slice sj.a sj.val.length sj.cap, .slice sl.a sl.val.length sl.cap], .agg (zAa s)] w fun e w' => e = .returned (.tuple #[.int .i64 (zDx sj.val sl.val s), .int .i64 (zDc sj.val sl.val s)]) ∧ Below w.heap.size w w' := by
 by_cases h0 : sndE sj.val sl.val = 0
 case neg =>
  have hE : zDc sj.val sl.val s = sndE sj.val sl.val := by unfold zDc;rw [if_neg h0]
  have hV : zDx sj.val sl.val s = 0 := by unfold zDx;rw [hE,if_neg h0]
  rw [hV,hE];have HPB : Hid (∀ W,Below w.heap.size w W → Calls Tryz.prog 71 #[.agg #[.slice sj.a sj.val.length sj.cap, .slice sl.a sl.val.length sl.cap]] W fun e w' => e = .returned (.tuple #[.pointer none, .int .i64 (sndE sj.val sl.val)]) ∧ Below W.heap.size W w') := zz fun W hW => panes_bad sj sl W (hj.jmoved hW) (hl.lmoved hW) h0;obtain ⟨S,hs⟩ : ∃ S,sndE sj.val sl.val = S := ⟨_,rfl⟩
  obtain ⟨HB0,HWB,HSB⟩ := zP2 w #[.slice sj.a sj.val.length sj.cap, .slice sl.a sl.val.length sl.cap] 25 (zAa s) 59;rw [hs] at h0 HPB ⊢;clear hj hl hs hE hV;go_enter Tryz.func49,Tryz.ntmps49
  go_wp2_with (first
   | (refine zLd 9 HWB.out #[.slice sj.a sj.val.length sj.cap, .slice sl.a sl.val.length sl.cap] zuC ?_)
   | (go_at_call 71;refine (HPB.out _ HB0.out).mono ?_;rintro e w1 ⟨rfl,hb1⟩;replace HB0 := hTr HB0 hb1;clear hb1))
  go_ret2;exact ⟨rfl,HB0.out⟩
 obtain ⟨h1,h2⟩ := zE0 h0;have HPO : Hid (∀ W,Below w.heap.size w W → Calls Tryz.prog 71 #[.agg #[.slice sj.a sj.val.length sj.cap, .slice sl.a sl.val.length sl.cap]] W fun e w' => ∃ B b bo v ms,e = .returned (.tuple #[.pointer (some ⟨B,0,none⟩), .int .i64 0]) ∧ ms.map PaneM.plain = zBq sj.val sl.val ∧ PanedAt w' B b bo W.heap.size sj sl v ms (ofA (zBq sj.val sl.val)) ∧ Below W.heap.size W w') := zz fun W hW =>
  panes_ok sj sl W (hj.jmoved hW) (hl.lmoved hW) h1 h2 (zGc (zCH h1) h2) fun _ => zGd
 have HI := zz hi;obtain ⟨M,hM⟩ : ∃ M,ofA (zBq sj.val sl.val) = M := ⟨_,rfl⟩
 obtain ⟨r,hr⟩ : ∃ r,paneOf sj.val sl.val s = r := ⟨_,rfl⟩
 have HR : Hid ((aget M s).getD 0 = r) := zz (by rw [← hr,← hM];rfl);have hE : zDc sj.val sl.val s = if (zBn sl.val s.lead).isSome = true then 0 else 3 := by unfold zDc;rw [if_pos h0]
 have hV : zDx sj.val sl.val s = if (zBn sl.val s.lead).isSome = true then r else 0 := by
  unfold zDx;rw [hE,hr]
  by_cases h : (zBn sl.val s.lead).isSome = true <;> simp [h]
 obtain ⟨q,hq⟩ : ∃ q,(zBn sl.val s.lead).isSome = q := ⟨_,rfl⟩
 have HQ := zz hq;rw [hq] at hV hE;obtain ⟨HB0,HWB,HSB⟩ := zP2 w #[.slice sj.a sj.val.length sj.cap, .slice sl.a sl.val.length sl.cap] 25 (zAa s) 59;rw [hV,hE];simp only [hM] at HPO;clear hj hl hE hV hM hr h0 h1 h2 hi hq;go_enter Tryz.func49,Tryz.ntmps49
 go_upto_region 4 with (first
  | (refine zLd 9 HWB.out #[.slice sj.a sj.val.length sj.cap, .slice sl.a sl.val.length sl.cap] zuC ?_)
  | (go_at_call 71;refine (HPO.out _ HB0.out).mono ?_;rintro e w1 ⟨B,b,bo,v,ms,rfl,_,hp,hb1⟩;replace HSB := zz (HSB.out.belowAll hb1);replace HB0 := hTr HB0 hb1;have HPB := zz hp.box;have HMP := zz hp.map;have HN := zz hp.net;clear hb1 hp))
 have HHS : Hid (Det 115 #[.pointer (some ⟨b,0,none⟩), .agg (zAa s)] (.bool q) w1) := zz fun W hW => (has_net s HI.out W (HN.out.below hW)).mono fun _ _ ⟨h1,h2⟩ => ⟨by rw [h1,HQ.out],h2.below (Nat.le_refl _)⟩
 clear HQ HN;refine rgD [0,1,2,3,4,5,6,7] [] (fun _ => (0,#[])) [] ?_;iterate 3 (refine wD rfl ?_;simp only [pT])
 refine zA8 (v := .pointer (some ⟨b,0,none⟩)) rfl rfl (fun W hW => by have e := (HPB.out.drew.belowAll hW).cell 0;go_simp) ?_;simp only [pT];refine zA8 (v := _) rfl rfl (fun W hW => zAf _ (HSB.out.drew.belowAll hW) rfl (zAt _) zuA) ?_;simp only [pT];refine zEc _ _ _ rfl rfl (fun W => by go_simp;try with_reducible rfl) (HHS.out.moved (Below.refl _ _).drew) ?_;simp only [pT];iterate 2 (refine wD rfl ?_;simp only [pT])
 intro f W1 HW1 h1 h2;simp only [zBM];clear h1 h2 f;refine zCg [18,19,20,21,22,23,24] fun u => ?_;simp only [zCf,pT];simp only [wpS];have HW1K := (Below.refl _ _).drew.trans HW1;replace HB0 := zz (HB0.out.drew.trans (HW1.mono HB0.out.drew.size));replace HSB := zz (HSB.out.drew.belowAll HW1);clear HW1;replace HPB := zz (HPB.out.belowAll HW1K);replace HMP := zz (HMP.out.below HW1K HMP.out.lt);clear HW1K
 cases q
 case false =>
  go_wp2;go_ret2;exact ⟨by simp,HB0.out⟩
 case true =>
  go_upto_region 6 with (fail)
  refine rgD [0,1,2,3,4,5,6,7] [] (fun _ => (0,#[])) [] ?_;iterate 3 (refine wD rfl ?_;simp only [pT])
  refine zA8 (v := .map (some bo)) rfl rfl (fun W hW => by have e := (HPB.out.drew.belowAll hW).cell 2;go_simp) ?_;simp only [pT];refine zA8 (v := _) rfl rfl (fun W hW => zAf _ (HSB.out.drew.belowAll hW) rfl (zAt _) zuA) ?_;simp only [pT];refine zA8 (v := .int .i64 r) rfl rfl (fun W hW => Eq.trans (zAQ zEF Tryz.underlying110 0 (zBD _) rfl (HMP.out.drewM.below hW HMP.out.drewM.lt) s trivial rfl) (by rw [show (aget M s).getD 0 = r from HR.out];rfl)) ?_;simp only [pT];iterate 2 (refine wD rfl ?_;simp only [pT])
  intro f W1 HW1 h1 h2;simp only [zBM];clear h1 h2 f;refine zCg [25,26,27,28,29,30] fun u => ?_;simp only [zCf,pT];simp only [wpS];replace HB0 := zz (HB0.out.drew.trans (HW1.mono HB0.out.drew.size));clear HW1;go_wp2;go_ret2;exact ⟨by simp,HB0.out⟩
end Go.Proofs.YtbbblemfodpmaaaGreat
