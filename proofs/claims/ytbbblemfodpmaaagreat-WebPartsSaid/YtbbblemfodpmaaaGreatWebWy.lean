/-The reference's pinches.-/
import Derived.Test.YtbbblemfodpmaaaGreatWebWx
import Derived.Test.YtbbblemfodpmaaaGreatWebPx
set_option linter.unusedVariables false
set_option linter.unusedSimpArgs false
set_option maxHeartbeats 16000000
set_option maxRecDepth 100000
section
namespace Go.Proofs.YtbbblemfodpmaaaGreat
open Go.RowKit
theorem Sl.OK.intAt {w : World} {a : Option Addr} {c : Nat} {L : List Int} (h : Sl.OK 1 zAu (fun _ _ _ => True) (fun _ => False) w ⟨a,c,L⟩) : ∃ b o,∀ k x,L[k]? = some x → a = some ⟨b,o,none⟩ ∧ ∀ W,Below w.heap.size w W → W.cell? ⟨b,o + k,none⟩ = some (.int .i64 x) := by
 cases L with
 | nil => exact ⟨0,0,fun k x h => by simp at h⟩
 | cons y r =>
  obtain ⟨b,o,e,_⟩ := h.elemAt (fun _ => rfl) (show (y :: r)[0]? = some y from rfl);refine ⟨b,o,fun k x hx => ?_⟩;obtain ⟨b',o',e',hc⟩ := h.elemAt (fun _ => rfl) hx;simp only at e e';rw [e] at e';simp only [Option.some.injEq,Addr.mk.injEq,and_true] at e';obtain ⟨rfl,rfl⟩ := e';refine ⟨e,fun W hW => ?_⟩;have := hc W hW 0 (by show 0 < 1;decide);rw [Nat.mul_one,Nat.add_zero] at this;exact this
theorem pinR_succ (l rest : List Int) (i n : Nat) : pinR l rest i (n + 1) = zEQ l rest i (pinR l rest i n) n := by
 unfold pinR;rw [List.range_succ,List.foldl_append];rfl
theorem rpinches_any (sj : Sl Joint) (sl : Sl Lead) (w : World) (hj : sj.OK 3 zAg zAt (fun _ => False) w) (hl : sl.OK 8 zAe zAx (fun _ => False) w) (V : ValidW sj.val sl.val) :
  Calls Tryz.prog 95 #[.agg #[.slice sj.a sj.val.length sj.cap, .slice sl.a sl.val.length sl.cap]] w fun e w' => ∃ v,e = .returned v ∧ OwnL zAu 1 w' w.heap.size 3 v (zCe sj.val sl.val) ∧ Below w.heap.size w w' := by
 obtain ⟨LB,hLB⟩ : ∃ LB : Int → List Int,∀ joint,labA sj.val sl.val joint 0 = LB joint := ⟨_,fun _ => rfl⟩
 have HLB : Hid (∀ (W : World) (joint : Int),Below w.heap.size w W → Calls Tryz.prog 91 #[.agg #[.slice sj.a sj.val.length sj.cap, .slice sl.a sl.val.length sl.cap], .int .i64 0, .int .i64 joint] W fun e w' => ∃ v,e = .returned v ∧ OwnL zAu 1 w' W.heap.size 3 v (LB joint) ∧ Below W.heap.size W w') := zz fun W joint hW => by
  have h := zDS sj sl 0 joint W (hj.jmoved hW) (hl.lmoved hW) V;rw [hLB] at h;exact h
 have HLN : Hid (∀ joint,(LB joint).length = sj.val.length) := zz fun joint => by rw [← hLB];exact zCm _ _ _ _
 have hnj := V.nj;have HPI : Hid (∀ i x,sj.val[i]? = some x → (pinR (LB 0) (LB x.id) i sj.val.length).2 = zCr sj.val sl.val x) := zz fun i x h => by rw [← V.pinch h,hLB,hLB]
 have HJ := zz hj;obtain ⟨HB0,HWB⟩ := zP1 w #[.slice sj.a sj.val.length sj.cap, .slice sl.a sl.val.length sl.cap] 25;obtain ⟨aj,cj,js⟩ := sj;obtain ⟨al,cl,ls⟩ := sl;obtain ⟨nj,hn1⟩ : ∃ n,js.length = n := ⟨_,rfl⟩
 obtain ⟨nl,hn2⟩ : ∃ n,ls.length = n := ⟨_,rfl⟩
 have HNJ := zz hn1;obtain ⟨f,hf⟩ : ∃ f : Nat → List Int,∀ k,((js.take k).filter (zCr js ls)).map (·.id) = f k := ⟨_,fun _ => rfl⟩
 have HF := zz hf;have HEND : Hid (zCe js ls = f nj) := zz (by rw [← hf,List.take_of_length_le (by omega),zCe]);have HFL : Hid (∀ k,(f k).length ≤ k) := zz fun k => by rw [← hf,List.length_map];exact Nat.le_trans (List.length_filter_le _ _) (by rw [List.length_take];omega)
 simp only [hn1,hn2] at HLB HLN HB0 HWB HPI hnj ⊢;rw [HEND.out];clear hn1 hn2 V hj hl hLB hf;go_enter Tryz.func95,Tryz.ntmps95
 go_upto_region 2 with (first
  | (refine zLd 10 HWB.out #[.slice aj nj cj, .slice al nl cl] zuC ?_)
  | (go_at_call 91;refine (HLB.out _ 0 HB0.out).mono ?_;rintro e w2 ⟨v,rfl,ho1,hb2⟩;obtain ⟨so,rfl,hsv,hso,_⟩ := ho1.sl (fun _ => rfl) (fun _ _ _ => True) (fun _ => False) (fun _ _ => trivial) (fun _ _ h => h) (by rw [HLN.out];omega);obtain ⟨sa,sc,sv⟩ := so;simp only at hsv;subst hsv;simp only [Sl.v];replace HWB := zz (HWB.out.belowAll hb2);have HB2 := zz (HB0.out.trans (hb2.mono HB0.out.size));have HS0 := zz hso;clear ho1 hb2 hso HB0))
 rw [HLN.out];obtain ⟨g0,o0,hc0⟩ := HS0.out.intAt;have HC0 := zz hc0;have HWA : Hid (∀ W,Below w2.heap.size w2 W → zAd W w.heap.size 25 #[.slice aj nj cj, .slice al nl cl]) := zz fun W hW => HWB.out.belowAll hW;clear hc0;go_wp2
 go_loopw [4,5] (fun v i wr => ∃ k : Nat,k ≤ nj ∧ i = .int .i64 k ∧ Hid (OwnL zAu 1 wr w2.heap.size 3 v (f k)) ∧ Hid (Below w2.heap.size w2 wr)) (fun _ i _ => nj - (intOf i).toNat)
 case atStart => exact ⟨0,Nat.zero_le _,rfl,zz (by rw [← HF.out];exact OwnL.nil _ _ _ _ _),zz (Below.refl _ _)⟩
 case round =>
  obtain ⟨k,hk,rfl,HOV,HW⟩ := hrel;have q0 := ((HWA.out wr HW.out).cell 0).trans (show _ = some (.slice aj nj cj) from rfl)
  by_cases hlt : k < nj
  ·obtain ⟨x,hx⟩ : ∃ x,js[k]? = some x := ⟨_,List.getElem?_eq_getElem (by rw [HNJ.out];exact hlt)⟩
   obtain ⟨bb,o,e,hc⟩ := HJ.out.elemAt (fun _ => rfl) hx;simp only at e;subst e;have HX0 : Hid (∀ W,Below w.heap.size w W → W.cell? ⟨bb,o + k * 3,none⟩ = some (.int .i64 x.id)) := zz fun W hW => by
    have := hc W hW 0 (by show 0 < 3;decide);rw [Nat.add_zero] at this;exact this
   obtain ⟨p,hp⟩ : ∃ p,zCr js ls x = p := ⟨_,rfl⟩
   have HST : Hid (f (k + 1) = f k ++ if p = true then [x.id] else []) := zz (by rw [← HF.out,← HF.out,zCE hx,hp,List.map_append];cases p <;> rfl);have HPX := zz (HPI.out k x hx);rw [hp] at HPX;obtain ⟨ak,hak⟩ : ∃ u,(LB 0)[k]? = some u := ⟨_,List.getElem?_eq_getElem (by rw [HLN.out];exact hlt)⟩
   have HAK := zz hak;clear hc hx hp hak
   go_upto_region 6 with (fail)
   clear q0;have S1 : (fun W => Below w2.heap.size w2 W ∧ Below wr.drew.heap.size wr.drew W) wr.drew := ⟨HW.out.drew,Below.refl _ _⟩
   refine zEJ (fun W => Below w2.heap.size w2 W ∧ Below wr.drew.heap.size wr.drew W) [(0,true),(1,true),(2,true),(3,true),(4,true),(5,true),(6,true),(7,false),(8,true)] rfl (by kernel_rfl) (by kernel_rfl) (fun d _ _ _ _ h => by cases d <;> exact h) S1 ?_;refine zBT (v := .agg #[.slice (some ⟨bb,o,none⟩) nj cj, .slice al nl cl]) rfl rfl (fun W hW => zAc _ (HWA.out W hW.1) rfl (zAh _) zuC) ?_;simp only [pT];refine wS rfl ?_;simp only [pT];refine zBT (v := .slice (some ⟨bb,o,none⟩) nj cj) rfl rfl (fun W hW => by have e := (HWA.out W hW.1).cell;go_simp) ?_;simp only [pT];iterate 3 (refine wS rfl ?_;simp only [pT])
   refine zBT (v := .int .i64 x.id) rfl rfl (fun W hW => by have e := HX0.out W (HB2.out.trans (hW.1.mono HB2.out.size));go_simp) ?_;simp only [pT];refine zCI rfl rfl (fun K hK => ?_)
   go_simp
   refine (HLB.out _ _ (HB2.out.trans (S1.1.mono HB2.out.size))).mono ?_;rintro e w3 ⟨v,rfl,ho1,hb3⟩;have S2 : (fun W => Below w2.heap.size w2 W ∧ Below wr.drew.heap.size wr.drew W) w3 := ⟨S1.1.trans (hb3.mono S1.1.size),S1.2.trans (hb3.mono S1.2.size)⟩
   obtain ⟨so,rfl,hsv,hso,_⟩ := ho1.sl (fun _ => rfl) (fun _ _ _ => True) (fun _ => False) (fun _ _ => trivial) (fun _ _ h => h) (by rw [HLN.out];omega);obtain ⟨ra,rc,rv⟩ := so;simp only at hsv;subst hsv;simp only [Sl.v];refine hK _ _ S2 ?_;clear hK K
   try simp only [pT]
   refine wS rfl ?_;simp only [pT];simp only [wpS];replace HOV := zz (HOV.out.belowAll ((Below.refl wr.heap.size wr).drew.trans S2.2));have HW3 := zz S2.1;rw [HLN.out];obtain ⟨g1,o1,hc1⟩ := hso.intAt;have HC1 := zz hc1;clear S1 S2 hb3 ho1 hso hc1 HW;obtain ⟨P,hP⟩ : ∃ P : Nat → Int × Bool,∀ q,pinR (LB 0) (LB x.id) k q = P q := ⟨_,fun _ => rfl⟩
   have HP := zz hP;rw [hP] at HPX;clear hP;go_wp2
   go_loopw [7,8,9] (fun fi pi kk wi => ∃ q : Nat,q ≤ nj ∧ kk = .int .i64 q ∧ fi = .int .i64 (P q).1 ∧ pi = .bool (P q).2 ∧ Hid (Below w3.heap.size w3 wi)) (fun _ _ kk _ => nj - (intOf kk).toNat)
   case atStart => exact ⟨0,Nat.zero_le _,rfl,by rw [← HP.out];rfl,by rw [← HP.out];rfl,zz (Below.refl _ _)⟩
   case round =>
    obtain ⟨q,hq,rfl,rfl,rfl,HB3⟩ := hrel
    by_cases hlq : q < nj
    ·obtain ⟨aq,haq⟩ : ∃ u,(LB 0)[q]? = some u := ⟨_,List.getElem?_eq_getElem (by rw [HLN.out];exact hlq)⟩
     obtain ⟨rq,hrq⟩ : ∃ u,(LB x.id)[q]? = some u := ⟨_,List.getElem?_eq_getElem (by rw [HLN.out];exact hlq)⟩
     obtain ⟨t,ht⟩ : ∃ t,(P q).1 = t := ⟨_,rfl⟩
     obtain ⟨b,hb⟩ : ∃ t,(P q).2 = t := ⟨_,rfl⟩
     have HNX : Hid (P (q + 1) = if (decide (q = k) || !(decide (aq = ak))) = true then (t,b) else ((if t < 0 then rq else t),b || !decide (rq = (if t < 0 then rq else t)))) := zz (by
      rw [← HP.out,pinR_succ,HP.out];unfold zEQ;rw [haq,HAK.out,hrq,ht,hb];simp only [Option.getD_some];rw [← ht,← hb])
     obtain ⟨e0,cq⟩ := HC0.out q aq haq;obtain ⟨-,ck⟩ := HC0.out k ak HAK.out;obtain ⟨e1,cr⟩ := HC1.out q rq hrq;subst e0 e1;have CQ : Hid (∀ W,Below wr.drew.heap.size wr.drew W → W.cell? ⟨g0,o0 + q,none⟩ = some (.int .i64 aq)) := zz fun W hW => cq W (HW3.out.trans ((HB3.out.drew.trans (hW.mono HB3.out.drew.size)).mono HW3.out.size));have CK : Hid (∀ W,Below wr.drew.heap.size wr.drew W → W.cell? ⟨g0,o0 + k,none⟩ = some (.int .i64 ak)) := zz fun W hW => ck W (HW3.out.trans ((HB3.out.drew.trans (hW.mono HB3.out.drew.size)).mono HW3.out.size));have HCR := zz cr;simp only [ht,hb];clear cq ck cr haq hrq ht hb
     go_upto_region 12 with (fail)
     refine rgD [0,1,2,3,4,5,6,7,8,9,10,11,12,13] [] (fun _ => (0,#[])) [] ?_;iterate 4 (refine wD rfl ?_;simp only [pT])
     iterate 3 (refine wI rfl ?_;simp only [pT])
     refine zAz (v := .int .i64 aq) rfl rfl (fun hg W hW => by (try simp only [Bool.and_eq_true] at hg);(try simp only [hg,Bool.and_self,zAy]);have e := CQ.out W hW;go_simp) ?_;simp only [pT];iterate 3 (refine wI rfl ?_;simp only [pT])
     refine zAz (v := .int .i64 ak) rfl rfl (fun hg W hW => by (try simp only [Bool.and_eq_true] at hg);(try simp only [hg,Bool.and_self,zAy]);have e := CK.out W hW;go_simp) ?_;simp only [pT]
     (refine wI rfl ?_;simp only [pT])
     refine zBw rfl rfl rfl ?_;simp only [pT];intro f W1 HW1 h1 h2;simp only [zAJ];clear h1 h2 f;refine zAr [33,34,35,36,37,38,39,40,41,42,43,44,45] fun u => ?_;simp only [zAw,pT];simp only [wpS];replace HB3 := zz (HB3.out.trans ((Below.refl wr.heap.size wr).drew.trans HW1 |>.mono HB3.out.size));clear HW1;obtain ⟨cc,hcc⟩ : ∃ c,((q : Int) == (k : Int) || aq != ak) = c := ⟨_,rfl⟩
     have hcc2 : (decide (q = k) || !(decide (aq = ak))) = cc := by
      rw [← hcc,Bool.eq_iff_iff];simp;omega
     rw [hcc2] at HNX;simp only [hcc];have CR : Hid (∀ W,Below W1.heap.size W1 W → W.cell? ⟨g1,o1 + q,none⟩ = some (.int .i64 rq)) := zz fun W hW => HCR.out W (HB3.out.trans (hW.mono HB3.out.size));have qr := CR.out W1 (Below.refl _ _);clear hcc hcc2 CQ CK HCR
     cases cc
     case true =>
      go_wp2;go_roundw
      case rel => exact ⟨q + 1,by omega,by go_num,by rw [HNX.out];rfl,by rw [HNX.out];rfl,HB3⟩
      case measure => simp [intOf];omega
     case false =>
      by_cases htn : t < 0
      ·have HN1 : Hid (P (q + 1) = (rq,b)) := zz (by rw [HNX.out,if_neg (by decide),if_pos htn];simp)
       go_upto_region 15 with (fail)
       clear qr;refine rgQ [0,1,2,3,4,5,6,7,8,9] [] ?_;iterate 2 (refine wD rfl ?_;simp only [pT])
       iterate 3 (refine wI rfl ?_;simp only [pT])
       refine zAz (v := .int .i64 rq) rfl rfl (fun hg W hW => by (try simp only [Bool.and_eq_true] at hg);(try simp only [hg,Bool.and_self,zAy]);have e := CR.out W hW;go_simp) ?_;simp only [pT]
       (refine wI rfl ?_;simp only [pT])
       refine zAz (v := .bool false) rfl rfl (fun hg W hW => by (try simp only [Bool.and_eq_true] at hg);(try simp only [hg,Bool.and_self,zAy]);go_simp;try simp) ?_;simp only [pT];refine zBw rfl rfl rfl ?_;simp only [pT]
       (refine wD rfl ?_;simp only [pT])
       intro W1 HW1;refine zA9 [53,54,55,56,57,58,59,60,61] fun u => ?_;simp only [zAw,pT];refine zBs ?_;replace HB3 := zz (HB3.out.trans (HW1.mono HB3.out.size));clear HW1;go_wp2;go_roundw
       case rel => exact ⟨q + 1,by omega,by go_num,by rw [HN1.out],by rw [HN1.out],HB3⟩
       case measure => simp [intOf];omega
      ·obtain ⟨d2,hd⟩ : ∃ d,(rq != t) = d := ⟨_,rfl⟩
       have HD2 := zz hd;have HN1 : Hid (P (q + 1) = (t,b || d2)) := zz (by rw [HNX.out,if_neg (by decide),if_neg htn,← hd];cases h : decide (rq = t) <;> simp at h <;> simp [h]);clear hd
       go_upto_region 15 with (fail)
       clear qr;refine rgQ [0,1,2,3,4,5,6,7,8,9] [] ?_;iterate 2 (refine wD rfl ?_;simp only [pT])
       iterate 3 (refine wI rfl ?_;simp only [pT])
       refine zAz (v := .int .i64 rq) rfl rfl (fun hg W hW => by (try simp only [Bool.and_eq_true] at hg);(try simp only [hg,Bool.and_self,zAy]);have e := CR.out W hW;go_simp) ?_;simp only [pT]
       (refine wI rfl ?_;simp only [pT])
       refine zAz (v := .bool d2) rfl rfl (fun hg W hW => by (try simp only [Bool.and_eq_true] at hg);(try simp only [hg,Bool.and_self,zAy]);go_simp;exact HD2.out) ?_;simp only [pT];refine zBw rfl rfl rfl ?_;simp only [pT]
       (refine wD rfl ?_;simp only [pT])
       intro W1 HW1;refine zA9 [53,54,55,56,57,58,59,60,61] fun u => ?_;simp only [zAw,pT];refine zBs ?_;replace HB3 := zz (HB3.out.trans (HW1.mono HB3.out.size));clear HW1;go_wp2;go_roundw
       case rel => exact ⟨q + 1,by omega,by go_num,by rw [HN1.out],by rw [HN1.out],HB3⟩
       case measure => simp [intOf];omega
    ·have hqn : q = nj := by omega
     subst hqn;have HWI := zz (HW3.out.trans (HB3.out.mono HW3.out.size));replace HOV := zz (HOV.out.belowAll HB3.out);rw [HPX.out];have q1 := ((HWA.out wr HWI.out).cell 0).trans (show _ = some (.slice (some ⟨bb,o,none⟩) q cj) from rfl);have q2 := HX0.out wr (HB2.out.trans (HWI.out.mono HB2.out.size));have hN := HWI.out.size
     cases p
     case true =>
      go_wp2_with (first
       | ((with_reducible refine zAm 71 ?_);refine zAR rfl _ _ 50 rfl w2.heap.size zCl (fun _ => rfl) (by decide) zBZ (by decide) u4 (f k) rfl (HOV.out.belowAll ((Below.refl _ _).alloc (Nat.le_refl _) _)) wr.heap.size 0 1 x.id rfl (fun j hj => by rw [Nat.zero_add];exact (zAd.new wr 3 (zAu x.id)).cell j) (by have := HFL.out k;omega) (by rw [World.size_alloc];omega) ?_;intro v2 w4 ho2 hg2 hob2))
      have hW4 : Below w2.heap.size wr w4 := (((Below.refl wr.heap.size wr).alloc (Nat.le_refl _) (.cells (zAu x.id) 3)).mono hN).trans (Below.appended (HOV.out.belowAll ((Below.refl _ _).alloc (Nat.le_refl _) _)) hg2 (Nat.le_refl _) (by rw [World.size_alloc];omega));exact ⟨⟨k + 1,by omega,by go_num,zz (by rw [HST.out];exact ho2),zz (HWI.out.trans hW4)⟩,by simp [intOf];omega⟩
     case false =>
      go_wp2;go_roundw
      case rel => exact ⟨k + 1,by omega,by go_num,zz (by rw [HST.out];simpa using HOV.out),HWI⟩
      case measure => simp [intOf];omega
  ·have hkn : k = nj := by omega
   subst hkn;go_wp2;go_ret;exact ⟨_,rfl,HOV.out.base_le (by have := HB2.out.size;omega),HB2.out.trans (HW.out.mono HB2.out.size)⟩
end Go.Proofs.YtbbblemfodpmaaaGreat
end
section
namespace Go.Proofs.YtbbblemfodpmaaaGreat
open Go.RowKit
theorem rBridges_any (sj : Sl Joint) (sl : Sl Lead) (w : World) (hj : sj.OK 3 zAg zAt (fun _ => False) w) (hl : sl.OK 8 zAe zAx (fun _ => False) w) :
  Calls Tryz.prog 25 #[.agg #[.slice sj.a sj.val.length sj.cap, .slice sl.a sl.val.length sl.cap]] w fun e w' => ∃ v,e = .returned (.tuple #[v, .int .i64 (zAA sj.val sl.val).1]) ∧ OwnL zAu 1 w' w.heap.size 3 v (zDk sj.val sl.val) ∧ Below w.heap.size w w' := by
 have HC := zz (zDR sj sl w hj hl);have HX : Hid ((zAA sj.val sl.val).1 = 0 → ∀ W,Below w.heap.size w W → Calls Tryz.prog 93 #[.agg #[.slice sj.a sj.val.length sj.cap, .slice sl.a sl.val.length sl.cap]] W fun e w' => ∃ v,e = .returned v ∧ OwnL zAu 1 w' W.heap.size 3 v (zCd sj.val sl.val) ∧ Below W.heap.size W w') := zz fun h W hW => rbridges_any sj sl W (hj.jmoved hW) (hl.lmoved hW) (zBU h);obtain ⟨HB0,HWB⟩ := zP1 w #[.slice sj.a sj.val.length sj.cap, .slice sl.a sl.val.length sl.cap] 25;obtain ⟨R,hR⟩ : ∃ r,zDk sj.val sl.val = r := ⟨_,rfl⟩
 obtain ⟨L,hL⟩ : ∃ r,zCd sj.val sl.val = r := ⟨_,rfl⟩
 obtain ⟨E,hE⟩ : ∃ E,(zAA sj.val sl.val).1 = E := ⟨_,rfl⟩
 have HR2 : Hid (R = if E = 0 then L else []) := zz (by rw [← hR,← hE,← hL];rfl);simp only [hE,hR,hL] at HC HX ⊢;clear hE hR hj hl hL;go_enter Tryz.func25,Tryz.ntmps25
 go_upto_region 1 with (fail)
 refine rgR [0,1,2] [] (fun _ => (0,#[])) [] ?_;refine zAi (v := _) rfl rfl (fun W hW => zAc _ (HWB.out.belowAll hW) rfl (zAh _) zuC) ?_;simp only [pT];refine zAI _ _ _ rfl rfl (fun W => by go_simp;try with_reducible rfl) (HC.out.moved HB0.out) ?_;simp only [pT]
 (refine wD rfl ?_;simp only [pT])
 intro f W1 HW1 h1 h2;simp only [zAJ];clear h1 h2 f;refine zAr [5,6] fun u => ?_;simp only [zAw,pT];simp only [wpS];replace HB0 := hTr HB0 HW1;replace HWB := zz (HWB.out.belowAll HW1);clear HW1
 by_cases h0 : E = 0
 case neg =>
  go_wp2;go_ret2;rw [HR2.out,if_neg h0];exact ⟨_,rfl,OwnL.nil _ _ _ _ _,HB0.out⟩
 replace HX := zz (HX.out h0);clear HC
 go_wp2_with (first
  | (refine zLd 10 HWB.out #[.slice sj.a sj.val.length sj.cap, .slice sl.a sl.val.length sl.cap] zuC ?_)
  | (go_at_call 93;refine (HX.out _ HB0.out).mono ?_;rintro e w1 ⟨v,rfl,ho1,hb1⟩;have HO := zz ho1;have HBW := zz (HB0.out.trans (hb1.mono HB0.out.size));clear ho1 hb1))
 go_ret2;rw [HR2.out,if_pos h0,h0];exact ⟨_,rfl,HO.out.base_le HB0.out.size,HBW.out⟩
theorem rPinches_any (sj : Sl Joint) (sl : Sl Lead) (w : World) (hj : sj.OK 3 zAg zAt (fun _ => False) w) (hl : sl.OK 8 zAe zAx (fun _ => False) w) :
  Calls Tryz.prog 27 #[.agg #[.slice sj.a sj.val.length sj.cap, .slice sl.a sl.val.length sl.cap]] w fun e w' => ∃ v,e = .returned (.tuple #[v, .int .i64 (zAA sj.val sl.val).1]) ∧ OwnL zAu 1 w' w.heap.size 3 v (zDl sj.val sl.val) ∧ Below w.heap.size w w' := by
 have HC := zz (zDR sj sl w hj hl);have HX : Hid ((zAA sj.val sl.val).1 = 0 → ∀ W,Below w.heap.size w W → Calls Tryz.prog 95 #[.agg #[.slice sj.a sj.val.length sj.cap, .slice sl.a sl.val.length sl.cap]] W fun e w' => ∃ v,e = .returned v ∧ OwnL zAu 1 w' W.heap.size 3 v (zCe sj.val sl.val) ∧ Below W.heap.size W w') := zz fun h W hW => rpinches_any sj sl W (hj.jmoved hW) (hl.lmoved hW) (zBU h);obtain ⟨HB0,HWB⟩ := zP1 w #[.slice sj.a sj.val.length sj.cap, .slice sl.a sl.val.length sl.cap] 25;obtain ⟨R,hR⟩ : ∃ r,zDl sj.val sl.val = r := ⟨_,rfl⟩
 obtain ⟨L,hL⟩ : ∃ r,zCe sj.val sl.val = r := ⟨_,rfl⟩
 obtain ⟨E,hE⟩ : ∃ E,(zAA sj.val sl.val).1 = E := ⟨_,rfl⟩
 have HR2 : Hid (R = if E = 0 then L else []) := zz (by rw [← hR,← hE,← hL];rfl);simp only [hE,hR,hL] at HC HX ⊢;clear hE hR hj hl hL;go_enter Tryz.func27,Tryz.ntmps27
 go_upto_region 1 with (fail)
 refine rgR [0,1,2] [] (fun _ => (0,#[])) [] ?_;refine zAi (v := _) rfl rfl (fun W hW => zAc _ (HWB.out.belowAll hW) rfl (zAh _) zuC) ?_;simp only [pT];refine zAI _ _ _ rfl rfl (fun W => by go_simp;try with_reducible rfl) (HC.out.moved HB0.out) ?_;simp only [pT]
 (refine wD rfl ?_;simp only [pT])
 intro f W1 HW1 h1 h2;simp only [zAJ];clear h1 h2 f;refine zAr [5,6] fun u => ?_;simp only [zAw,pT];simp only [wpS];replace HB0 := hTr HB0 HW1;replace HWB := zz (HWB.out.belowAll HW1);clear HW1
 by_cases h0 : E = 0
 case neg =>
  go_wp2;go_ret2;rw [HR2.out,if_neg h0];exact ⟨_,rfl,OwnL.nil _ _ _ _ _,HB0.out⟩
 replace HX := zz (HX.out h0);clear HC
 go_wp2_with (first
  | (refine zLd 10 HWB.out #[.slice sj.a sj.val.length sj.cap, .slice sl.a sl.val.length sl.cap] zuC ?_)
  | (go_at_call 95;refine (HX.out _ HB0.out).mono ?_;rintro e w1 ⟨v,rfl,ho1,hb1⟩;have HO := zz ho1;have HBW := zz (HB0.out.trans (hb1.mono HB0.out.size));clear ho1 hb1))
 go_ret2;rw [HR2.out,if_pos h0,h0];exact ⟨_,rfl,HO.out.base_le HB0.out.size,HBW.out⟩
end Go.Proofs.YtbbblemfodpmaaaGreat
end
section
namespace Go.Proofs.YtbbblemfodpmaaaGreat
open Go.RowKit
theorem ValidW.grp_start {js : List Joint} {ls : List Lead} (V : ValidW js ls) (k : Nat) : grpL js (labA js ls 0 0) k k = [] := by
 refine grp_none fun q hq h => ?_;have hl := (List.getElem?_eq_some_iff.1 h).1;rw [zCm] at hl;have hx := List.getElem?_eq_getElem hl;obtain ⟨r0,y,h1,_,_,h4,h5,h6,h7⟩ := V.part_root 0 0 hx (V.ids_pos (List.mem_of_getElem? hx));unfold labA at h;rw [List.getElem?_map,hx,Option.map_some,h7] at h
 injection h with h
 omega
theorem zGx (sj : Sl Joint) (sl : Sl Lead) (w : World) (hj : sj.OK 3 zAg zAt (fun _ => False) w) (hl : sl.OK 8 zAe zAx (fun _ => False) w) :
  Calls Tryz.prog 23 #[.agg #[.slice sj.a sj.val.length sj.cap, .slice sl.a sl.val.length sl.cap]] w fun e w' => ∃ v ss,e = .returned (.tuple #[v, .int .i64 (zAA sj.val sl.val).1]) ∧ OwnLL zAu 1 3 50 w' w.heap.size v ss ∧ ss.map Sl.val = zCH sj.val sl.val ∧ Below w.heap.size w w' := by
 have HC := zz (zDR sj sl w hj hl);obtain ⟨L,hL⟩ : ∃ L,labA sj.val sl.val 0 0 = L := ⟨_,rfl⟩
 have HX : Hid ((zAA sj.val sl.val).1 = 0 → (∀ W,Below w.heap.size w W → Calls Tryz.prog 91 #[.agg #[.slice sj.a sj.val.length sj.cap, .slice sl.a sl.val.length sl.cap], .int .i64 0, .int .i64 0] W fun e w' => ∃ v,e = .returned v ∧ OwnL zAu 1 w' W.heap.size 3 v L ∧ Below W.heap.size W w') ∧ L.length = sj.val.length ∧ sj.val.length ≤ 200 ∧ (∀ k,grpL sj.val L k k = []) ∧ zBL sj.val sl.val = refC sj.val L sj.val.length) := zz fun h => by
  have V := zBU h;rw [← hL];exact ⟨fun W hW => zDS sj sl 0 0 W (hj.jmoved hW) (hl.lmoved hW) V,zCm _ _ _ _,V.nj,V.grp_start,V.comps_ref⟩
 have HJ := zz hj;obtain ⟨HB0,HWB⟩ := zP1 w #[.slice sj.a sj.val.length sj.cap, .slice sl.a sl.val.length sl.cap] 25;obtain ⟨aj,cj,js⟩ := sj;obtain ⟨al,cl,ls⟩ := sl;obtain ⟨n,hn1⟩ : ∃ n,js.length = n := ⟨_,rfl⟩
 obtain ⟨nl,hn2⟩ : ∃ n,ls.length = n := ⟨_,rfl⟩
 have HNJ := zz hn1;obtain ⟨R,hR⟩ : ∃ r,zCH js ls = r := ⟨_,rfl⟩
 obtain ⟨R2,hR2⟩ : ∃ r,zBL js ls = r := ⟨_,rfl⟩
 obtain ⟨E,hE⟩ : ∃ E,(zAA js ls).1 = E := ⟨_,rfl⟩
 have HR2 : Hid (R = if E = 0 then R2 else []) := zz (by rw [← hR,← hE,← hR2];rfl);simp only [hE,hR,hR2,hn1,hn2] at HC HX HB0 HWB ⊢;clear hE hR hj hl hL hR2 hn1 hn2;go_enter Tryz.func23,Tryz.ntmps23
 go_upto_region 1 with (fail)
 refine rgR [0,1,2] [] (fun _ => (0,#[])) [] ?_;refine zAi (v := _) rfl rfl (fun W hW => zAc _ (HWB.out.belowAll hW) rfl (zAh _) zuC) ?_;simp only [pT];refine zAI _ _ _ rfl rfl (fun W => by go_simp;try with_reducible rfl) (HC.out.moved HB0.out) ?_;simp only [pT]
 (refine wD rfl ?_;simp only [pT])
 intro f W1 HW1 h1 h2;simp only [zAJ];clear h1 h2 f;refine zAr [10,11] fun u => ?_;simp only [zAw,pT];simp only [wpS];replace HB0 := hTr HB0 HW1;replace HWB := zz (HWB.out.belowAll HW1);clear HW1
 by_cases h0 : E = 0
 case neg =>
  go_wp2;go_ret2;rw [HR2.out,if_neg h0];exact ⟨_,[],rfl,OwnLL.nil _ _,rfl,HB0.out⟩
 obtain ⟨x1,x2,hnj,x4,x5⟩ := HX.out h0;have HLB := zz x1;have HLN := zz x2;have HGS := zz x4;obtain ⟨f,hf⟩ : ∃ f : Nat → List (List Int),∀ k,(zB2 L k).map (grpL js L n) = f k := ⟨_,fun _ => rfl⟩
 have HF := zz hf;have HEND : Hid (R = f n) := zz (by rw [HR2.out,if_pos h0,x5,← hf];rfl);subst h0;clear HC HX x1 x2 x4 x5 hf HR2
 go_upto_region 5 with (first
  | (refine zLd 15 HWB.out #[.slice aj n cj, .slice al nl cl] zuC ?_)
  | (go_at_call 91;refine (HLB.out _ HB0.out).mono ?_;rintro e w2 ⟨v,rfl,ho1,hb2⟩;obtain ⟨so,rfl,hsv,hso,_⟩ := ho1.sl (fun _ => rfl) (fun _ _ _ => True) (fun _ => False) (fun _ _ => trivial) (fun _ _ h => h) (by rw [HLN.out];omega);obtain ⟨sa,sc,sv⟩ := so;simp only at hsv;subst hsv;simp only [Sl.v];replace HWB := zz (HWB.out.belowAll hb2);have HB2 := zz (HB0.out.trans (hb2.mono HB0.out.size));have HS0 := zz hso;clear ho1 hb2 hso HB0))
 obtain ⟨L,rfl⟩ : ∃ l,l = sv := ⟨_,rfl⟩
 obtain ⟨g0,o0,hc0⟩ := HS0.out.intAt;rw [HLN.out];have HC0 := zz hc0;have HWA : Hid (∀ W,Below w2.heap.size w2 W → zAd W w.heap.size 25 #[.slice aj n cj, .slice al nl cl]) := zz fun W hW => HWB.out.belowAll hW;clear hc0;go_wp2
 go_loopw [6,7] (fun v i wr => ∃ k : Nat,k ≤ n ∧ i = .int .i64 k ∧ Hid (∃ ss,OwnLL zAu 1 3 50 wr w2.heap.size v ss ∧ ss.map Sl.val = f k) ∧ Hid (Below w2.heap.size w2 wr)) (fun _ i _ => n - (intOf i).toNat)
 case atStart => exact ⟨0,Nat.zero_le _,rfl,zz ⟨[],OwnLL.nil _ _,by rw [← HF.out];rfl⟩,zz (Below.refl _ _)⟩
 case round =>
  obtain ⟨k,hk,rfl,HOS,HW⟩ := hrel
  by_cases hlt : k < n
  ·obtain ⟨ak,hak⟩ : ∃ u,L[k]? = some u := ⟨_,List.getElem?_eq_getElem (by rw [HLN.out];exact hlt)⟩
   obtain ⟨e0,ck⟩ := HC0.out k ak hak;subst e0;have qk := ck wr HW.out;have HFK : Hid (f (k + 1) = f k ++ if ak = (k : Int) then [grpL js L n k] else []) := zz (by
    rw [← HF.out,← HF.out,zE0,hak,List.map_append]
    by_cases h : ak = (k : Int)
    ·subst h;simp
    ·rw [if_neg h];simp [h])
   clear hak ck
   by_cases hak2 : ak = (k : Int)
   case neg =>
    go_wp2;go_roundw
    case rel => exact ⟨k + 1,by omega,by go_num,zz (by rw [HFK.out,if_neg hak2,List.append_nil];exact HOS.out),HW⟩
    case measure => simp [intOf];omega
   case pos =>
    subst hak2;rw [if_pos rfl] at HFK;obtain ⟨w3,rfl⟩ : ∃ W,W = wr := ⟨_,rfl⟩
    go_upto_region 11 with (fail)
    clear qk;go_wp2
    go_loopw [8,9] (fun ov kk wi => ∃ q : Nat,k ≤ q ∧ q ≤ n ∧ kk = .int .i64 q ∧ Hid (OwnL zAu 1 wi w3.heap.size 3 ov (grpL js L q k) ∧ (grpL js L q k).length ≤ q) ∧ Hid (Below w3.heap.size w3 wi)) (fun _ kk _ => n - (intOf kk).toNat)
    case atStart => exact ⟨k,Nat.le_refl _,hk,rfl,zz (by rw [HGS.out];exact ⟨OwnL.nil _ _ _ _ _,Nat.zero_le _⟩),zz (Below.refl _ _)⟩
    case round =>
     obtain ⟨q,hkq,hq,rfl,HO1,HB3⟩ := hrel;have HWI := zz (HW.out.trans (HB3.out.mono HW.out.size))
     by_cases hlq : q < n
     ·obtain ⟨aq,haq⟩ : ∃ u,L[q]? = some u := ⟨_,List.getElem?_eq_getElem (by rw [HLN.out];exact hlq)⟩
      obtain ⟨x,hx⟩ : ∃ x,js[q]? = some x := ⟨_,List.getElem?_eq_getElem (by rw [HNJ.out];exact hlq)⟩
      obtain ⟨-,cq⟩ := HC0.out q aq haq;obtain ⟨bb,o,e,hc⟩ := HJ.out.elemAt (fun _ => rfl) hx;simp only at e;subst e;have qq := cq wr HWI.out;have q1 := ((HWA.out wr HWI.out).cell 0).trans (show _ = some (.slice (some ⟨bb,o,none⟩) n cj) from rfl);have q2 : wr.cell? ⟨bb,o + q * 3,none⟩ = some (.int .i64 x.id) := by
       have := hc wr (HB2.out.trans (HWI.out.mono HB2.out.size)) 0 (by show 0 < 3;decide);rw [Nat.add_zero] at this;exact this
      have HST : Hid (grpL js L (q + 1) k = grpL js L q k ++ if aq = (k : Int) then [x.id] else []) := zz (by
       rw [zEf hx,haq]
       by_cases h : aq = (k : Int)
       ·subst h;simp
       ·rw [if_neg h];simp [h])
      have hN := HB3.out.size;obtain ⟨gq,hgq⟩ : ∃ l,grpL js L q k = l := ⟨_,rfl⟩
      rw [hgq] at HO1 HST;have HOV := zz HO1.out.1;have HLQ := zz HO1.out.2;clear haq hx cq hc hgq HO1
      by_cases haq2 : aq = (k : Int)
      ·subst haq2;rw [if_pos rfl] at HST
       go_wp2_with (first
        | ((with_reducible refine zAm 50 ?_);refine zAR rfl _ _ 50 rfl w3.heap.size zCl (fun _ => rfl) (by decide) zBZ (by decide) u8 gq rfl (HOV.out.belowAll ((Below.refl _ _).alloc (Nat.le_refl _) _)) wr.heap.size 0 1 x.id rfl (fun j hj => by rw [Nat.zero_add];exact (zAd.new wr 3 (zAu x.id)).cell j) (by have := HLQ.out;omega) (by rw [World.size_alloc];omega) ?_;intro v2 w4 ho2 hg2 hob2))
       have hW4 : Below w3.heap.size wr w4 := (((Below.refl wr.heap.size wr).alloc (Nat.le_refl _) (.cells (zAu x.id) 3)).mono hN).trans (Below.appended (HOV.out.belowAll ((Below.refl _ _).alloc (Nat.le_refl _) _)) hg2 (Nat.le_refl _) (by rw [World.size_alloc];omega));exact ⟨⟨q + 1,by omega,by omega,by go_num,zz (by rw [HST.out];exact ⟨ho2,by rw [List.length_append];have := HLQ.out;simp;omega⟩),zz (HB3.out.trans hW4)⟩,by simp [intOf];omega⟩
      ·rw [if_neg haq2,List.append_nil] at HST;go_wp2;go_roundw
       case rel => exact ⟨q + 1,by omega,by omega,by go_num,zz (by rw [HST.out];exact ⟨HOV.out,Nat.le_succ_of_le HLQ.out⟩),HB3⟩
       case measure => simp [intOf];omega
     ·have hqn : q = n := by omega
      subst hqn;have hN := HB3.out.size;obtain ⟨ss,h1,h2⟩ := HOS.out;have hlen := congrArg List.length h2;rw [List.length_map,← HF.out,List.length_map] at hlen;have hrl : (zB2 L k).length ≤ k := by unfold zB2;exact Nat.le_trans (List.length_filter_le _ _) (by simp)
      have HSL : Hid (ss.length + 1 ≤ 4294967296) := zz (by omega);have HLL := zz (h1.belowAll HB3.out);have HBB : Hid (∀ s ∈ ss,∀ g,s.v.ownBlock = some g → g < w3.heap.size) := zz fun s hs g hg => ((h1.inner s hs).block g hg).2;have HSS := zz h2;obtain ⟨gq,hgq⟩ : ∃ l,grpL js L q k = l := ⟨_,rfl⟩
      rw [hgq] at HO1 HFK;have HOV := zz HO1.out.1;obtain ⟨oa,oc,e⟩ := HOV.out.shape;subst e;have hw3 := HW.out.size;clear h1 h2 hlen hrl hgq HO1
      go_wp2_with (first
       | ((with_reducible refine zAm 54 ?_);refine zAR rfl _ _ 47 rfl w2.heap.size einfo_LI (fun _ => rfl) (by decide) encS_one (by decide) u6 ss rfl (HLL.out.outer.belowAll ((Below.refl _ _).alloc (Nat.le_refl _) _)) wr.heap.size 0 1 (⟨oa,oc,gq⟩ : Sl Int) rfl (fun j hj => by rw [Nat.zero_add];exact (zAd.new wr 50 (encS (⟨oa,oc,gq⟩ : Sl Int))).cell j) HSL.out (by rw [World.size_alloc];omega) ?_;intro v2 w4 ho2 hg2 hob2))
      have hal : Below wr.heap.size wr (wr.alloc (.cells (encS (⟨oa,oc,gq⟩ : Sl Int)) 50)) := (Below.refl _ _).alloc (Nat.le_refl _) _;have hW4 : Below w2.heap.size wr w4 := (hal.mono (by omega)).trans (Below.appended (HLL.out.outer.belowAll hal) hg2 (Nat.le_refl _) (by rw [World.size_alloc];omega));have hsn := OwnLL.snoc (t := ⟨oa,oc,gq⟩) (by decide) (HLL.out.belowAll hal) ((HOV.out.belowAll hal).base_le (by omega)) (fun s hs g hg hsg => by have := (HOV.out.block g hg).1;have := HBB.out s hs g hsg;omega) ho2 hg2;exact ⟨⟨k + 1,by omega,by go_num,zz ⟨_,hsn,by rw [HFK.out,List.map_append,HSS.out];rfl⟩,zz ((HW.out.trans (HB3.out.mono (by omega))).trans hW4)⟩,by simp [intOf];omega⟩
  ·have hkn : k = n := by omega
   subst hkn;go_wp2;go_ret2;obtain ⟨ss,h1,h2⟩ := HOS.out;exact ⟨_,ss,rfl,h1.base_le HB2.out.size,by rw [HEND.out];exact h2,HB2.out.trans (HW.out.mono HB2.out.size)⟩
end Go.Proofs.YtbbblemfodpmaaaGreat
end
section
namespace Go.Proofs.YtbbblemfodpmaaaGreat
open Go.RowKit
def zEZ (js : List Joint) (ls : List Lead) : Count := if (zAA js ls).1 = 0 then zDy js ls else zEm
theorem hasL_succ {js : List Joint} {ls : List Lead} {L : List Int} {k : Nat} {x : Joint} (hx : js[k]? = some x) : hasL js ls L (k + 1) = hasL js ls L k + if (L[k]? == some (k : Int) && decide (0 < (outA js ls x.id).length)) = true then 1 else 0 := by
 unfold hasL;rw [List.range_succ,List.filter_append,List.length_append]
 congr 1
 simp only [List.filter_cons,List.filter_nil,hx,Option.map_some,Option.getD_some]
 split <;> rfl
theorem hasL_le (js : List Joint) (ls : List Lead) (L : List Int) (k : Nat) : hasL js ls L k ≤ k := by
 unfold hasL;exact Nat.le_trans (List.length_filter_le _ _) (by simp)
theorem rEuler_any (sj : Sl Joint) (sl : Sl Lead) (w : World) (hj : sj.OK 3 zAg zAt (fun _ => False) w) (hl : sl.OK 8 zAe zAx (fun _ => False) w) :
  Calls Tryz.prog 29 #[.agg #[.slice sj.a sj.val.length sj.cap, .slice sl.a sl.val.length sl.cap]] w fun e w' => e = .returned (.tuple #[.agg (zAL (zEZ sj.val sl.val)), .int .i64 (zAA sj.val sl.val).1]) ∧ Below w.heap.size w w' := by
 have HC := zz (zDR sj sl w hj hl);obtain ⟨L,hL⟩ : ∃ L,labA sj.val sl.val 0 0 = L := ⟨_,rfl⟩
 obtain ⟨H,hH⟩ : ∃ H : Nat → Nat,∀ k,hasL sj.val sl.val L k = H k := ⟨_,fun _ => rfl⟩
 obtain ⟨OL,hOL⟩ : ∃ OL : Int → List Side,∀ j,outA sj.val sl.val j = OL j := ⟨_,fun _ => rfl⟩
 obtain ⟨F0,hF0⟩ : ∃ F0,(zCG sj.val sl.val).length = F0 := ⟨_,rfl⟩
 obtain ⟨nc,hnc⟩ : ∃ n,zC7 L = n := ⟨_,rfl⟩
 have HX : Hid ((zAA sj.val sl.val).1 = 0 → (∀ W,Below w.heap.size w W → Calls Tryz.prog 91 #[.agg #[.slice sj.a sj.val.length sj.cap, .slice sl.a sl.val.length sl.cap], .int .i64 0, .int .i64 0] W fun e w' => ∃ v,e = .returned v ∧ OwnL zAu 1 w' W.heap.size 3 v L ∧ Below W.heap.size W w') ∧ L.length = sj.val.length ∧ sj.val.length ≤ 200 ∧ sl.val.length ≤ 400 ∧ F0 ≤ 800 ∧
   (∀ W,Below w.heap.size w W → Calls Tryz.prog 97 #[.agg #[.slice sj.a sj.val.length sj.cap, .slice sl.a sl.val.length sl.cap]] W fun e w' => ∃ a c,e = .returned (.slice a F0 c) ∧ Below W.heap.size W w') ∧
   (∀ W j,Below w.heap.size w W → Calls Tryz.prog 98 #[.agg #[.slice sj.a sj.val.length sj.cap, .slice sl.a sl.val.length sl.cap], .int .i64 j] W fun e w' => ∃ v,e = .returned v ∧ OwnL zAa 2 w' W.heap.size 59 v (OL j) ∧ Below W.heap.size W w') ∧
   (∀ W a c,Sl.OK 1 zAu (fun _ _ _ => True) (fun _ => False) W ⟨a,c,L⟩ → Det 99 #[.slice a L.length c] (.int .i64 (nc : Nat)) W) ∧
   zDy sj.val sl.val = ⟨sj.val.length,sl.val.length,1 + F0 - (H sj.val.length : Nat),nc⟩) := zz fun h => by
  have V := zBU h;obtain ⟨e1,e2⟩ := V.euler_ref;rw [hL] at e1 e2;refine ⟨fun W hW => by rw [← hL];exact zDS sj sl 0 0 W (hj.jmoved hW) (hl.lmoved hW) V,by rw [← hL];exact zCm _ _ _ _,V.nj,V.nl,by rw [← hF0];exact zDP V,fun W hW => ?_,fun W j hW => ?_,fun W a c hS => ?_, ?_⟩
  ·refine (rwalks_any sj sl W (hj.jmoved hW) (hl.lmoved hW) V).mono fun e w' => ?_;rintro ⟨v,rfl,⟨ss,h1,_,h3⟩,hb⟩;obtain ⟨a,c,rfl⟩ := h1.shape;exact ⟨a,c,by rw [← hF0,← h3,List.length_map],hb⟩
  ·have h := zGw sj sl j W (hj.jmoved hW) (hl.lmoved hW) V;rw [← hOL];rw [V.around_eq] at h;exact h
  ·have h := rdiff_det a c _ W hS (by rw [← hL,zCm];have := V.nj;omega);rw [hnc] at h;exact h
  ·unfold zDy;rw [e1,e2,hF0,hH,hnc]
 have HSUC : Hid (∀ k x,sj.val[k]? = some x → H (k + 1) = H k + if (L[k]? == some (k : Int) && decide (0 < (OL x.id).length)) = true then 1 else 0) := zz fun k x hx => by rw [← hH,← hH,hasL_succ hx,hOL]
 have HLE : Hid (∀ k,H k ≤ k) := zz fun k => by rw [← hH];exact hasL_le _ _ _ _
 have HH0 : Hid (H 0 = 0) := zz (by rw [← hH];rfl);have HJ := zz hj;obtain ⟨HB0,HWB,HR0⟩ := zP2 w #[.slice sj.a sj.val.length sj.cap, .slice sl.a sl.val.length sl.cap] 25 #[.int .i64 0, .int .i64 0, .int .i64 0, .int .i64 0] 54;obtain ⟨aj,cj,js⟩ := sj;obtain ⟨al,cl,ls⟩ := sl;obtain ⟨n,hn1⟩ : ∃ n,js.length = n := ⟨_,rfl⟩
 obtain ⟨nl,hn2⟩ : ∃ n,ls.length = n := ⟨_,rfl⟩
 have HNJ := zz hn1;obtain ⟨cn,hcn⟩ : ∃ r,zEZ js ls = r := ⟨_,rfl⟩
 obtain ⟨E,hE⟩ : ∃ E,(zAA js ls).1 = E := ⟨_,rfl⟩
 have HR2 : Hid (cn = if E = 0 then zDy js ls else zEm) := zz (by rw [← hcn,← hE];rfl);simp only [hE,hcn,hn1,hn2] at HC HX HB0 HWB HR0 HSUC ⊢;clear hE hcn hj hl hL hn1 hn2 hH hOL hF0 hnc;go_enter Tryz.func29,Tryz.ntmps29
 go_upto_region 1 with (fail)
 refine rgR [0,1,2] [] (fun _ => (0,#[])) [] ?_;refine zAi (v := _) rfl rfl (fun W hW => zAc _ (HWB.out.belowAll hW) rfl (zAh _) zuC) ?_;simp only [pT];refine zAI _ _ _ rfl rfl (fun W => by go_simp;try with_reducible rfl) (HC.out.moved HB0.out) ?_;simp only [pT]
 (refine wD rfl ?_;simp only [pT])
 intro f W1 HW1 h1 h2;simp only [zAJ];clear h1 h2 f;refine zAr [8,9] fun u => ?_;simp only [zAw,pT];simp only [wpS];replace HB0 := hTr HB0 HW1;replace HWB := zz (HWB.out.belowAll HW1);replace HR0 := zz (HR0.out.belowAll HW1);clear HW1
 by_cases h0 : E = 0
 case neg =>
  go_upto_region 3 with (fail)
  refine rgQ [0,1] [2,3] ?_;iterate 2 (refine wD rfl ?_;simp only [pT])
  intro W1 HW1;refine zB6 ((HR0.out).belowAll HW1) rfl rfl (.agg (zAL zEm)) rfl (by kernel_rfl) (by rfl) (zDt _) fun W2 hb2 ht2 => ?_;refine wpO_val rfl rfl (by go_simp;with_reducible rfl) ?_;simp only [pT];refine zBs ?_;go_wp2;have HBE : Below w.heap.size w W2 := (HB0.out.trans (HW1.mono HB0.out.size)).trans (ht2.below (by omega));refine bodyPost_ret (zBW (cs := zAL zEm) (.int .i64 E) (hb2.eqv (by simp [zAB,zAL,Value.cells])) rfl rfl rfl zuI) rfl ⟨?_,HBE⟩;rw [HR2.out,if_neg h0]
 obtain ⟨x1,x2,hnj,hnl,hf0,x6,x7,x8,x9⟩ := HX.out h0;have HLB := zz x1;have HLN := zz x2;have HWK := zz x6;have HAR := zz x7;have HDI := zz x8;have HCN : Hid (cn = ⟨n,nl,1 + F0 - (H n : Nat),nc⟩) := zz (by rw [HR2.out,if_pos h0,x9]);obtain ⟨T,hT⟩ : ∃ T : Nat → Int,∀ k,(1 + F0 : Int) - (H k : Nat) = T k := ⟨_,fun _ => rfl⟩
 have HT := zz hT;have HT0 : Hid (T 0 = 1 + (F0 : Int)) := zz (by rw [← hT,HH0.out];simp);have HTB : Hid (∀ k,k ≤ n → -200 ≤ T k ∧ T k ≤ 801) := zz fun k hk => by rw [← hT];have := HLE.out k;omega
 have K0 : IntKind.i64.wrap (1 + (F0 : Int)) = 1 + (F0 : Int) := IntWalk.i64_in _ (by omega);subst h0;clear HC HX x1 x2 x6 x7 x8 x9 hT HR2
 go_upto_region 6 with (first
  | (refine zLd 14 HWB.out #[.slice aj n cj, .slice al nl cl] zuC ?_)
  | (go_at_call 91;refine (HLB.out _ HB0.out).mono ?_;rintro e w2 ⟨v,rfl,ho1,hb2⟩;obtain ⟨so,rfl,hsv,hso,_⟩ := ho1.sl (fun _ => rfl) (fun _ _ _ => True) (fun _ => False) (fun _ _ => trivial) (fun _ _ h => h) (by rw [HLN.out];omega);obtain ⟨sa,sc,sv⟩ := so;simp only at hsv;subst hsv;simp only [Sl.v];replace HWB := zz (HWB.out.belowAll hb2);replace HR0 := zz (HR0.out.belowAll hb2);replace HB0 := hTr HB0 hb2;have HS0 := zz hso;clear ho1 hb2 hso)
  | (refine zLd 16 HWB.out #[.slice aj n cj, .slice al nl cl] zuC ?_)
  | (go_at_call 97;refine (HWK.out _ HB0.out).mono ?_;rintro e w5 ⟨va,vc,rfl,hb5⟩;replace HWB := zz (HWB.out.belowAll hb5);replace HR0 := zz (HR0.out.belowAll hb5);have HB2 := zz (HB0.out.trans (hb5.mono HB0.out.size));replace HS0 := zz (HS0.out.up hb5);clear hb5 HB0))
 obtain ⟨L,rfl⟩ : ∃ l,l = sv := ⟨_,rfl⟩
 obtain ⟨g0,o0,hc0⟩ := HS0.out.intAt;have HDF := zz (HDI.out w5 sa sc HS0.out);rw [HLN.out] at HDF ⊢;have HC0 := zz hc0;have HWA : Hid (∀ W,Below w5.heap.size w5 W → zAd W w.heap.size 25 #[.slice aj n cj, .slice al nl cl]) := zz fun W hW => HWB.out.belowAll hW;clear hc0 K0;go_wp2
 go_loopw [6,7] (fun fv i wr => ∃ k : Nat,k ≤ n ∧ i = .int .i64 k ∧ fv = .int .i64 (T k) ∧ Hid (Below w5.heap.size w5 wr)) (fun _ i _ => n - (intOf i).toNat)
 case atStart => exact ⟨0,Nat.zero_le _,rfl,by rw [HT0.out],zz (Below.refl _ _)⟩
 case round =>
  obtain ⟨k,hk,rfl,rfl,HW⟩ := hrel
  by_cases hlt : k < n
  ·obtain ⟨ak,hak⟩ : ∃ u,L[k]? = some u := ⟨_,List.getElem?_eq_getElem (by rw [HLN.out];exact hlt)⟩
   obtain ⟨x,hx⟩ : ∃ x,js[k]? = some x := ⟨_,List.getElem?_eq_getElem (by rw [HNJ.out];exact hlt)⟩
   obtain ⟨bb,o,e,hc⟩ := HJ.out.elemAt (fun _ => rfl) hx;simp only at e;subst e;have HX0 : Hid (∀ W,Below w.heap.size w W → W.cell? ⟨bb,o + k * 3,none⟩ = some (.int .i64 x.id)) := zz fun W hW => by
    have := hc W hW 0 (by show 0 < 3;decide);rw [Nat.add_zero] at this;exact this
   obtain ⟨e0,ck⟩ := HC0.out k ak hak;subst e0;have HCK := zz ck;have hst := HSUC.out k x hx;rw [hak] at hst;obtain ⟨t,ht⟩ : ∃ t,T k = t := ⟨_,rfl⟩
   have htb := HTB.out k hk;rw [ht] at htb;simp only [ht];have K1 : IntKind.i64.wrap (t - 1) = t - 1 := IntWalk.i64_in _ (by omega);have HNX : Hid (T (k + 1) = if (some ak == some (k : Int) && decide (0 < (OL x.id).length)) = true then t - 1 else t) := zz (by
    rw [← HT.out,hst,← ht,← HT.out]
    split <;> omega)
   clear hak hx hc ck hst ht htb
   go_upto_region 9 with (fail)
   by_cases hakk : ak = (k : Int)
   ·subst hakk;refine rgO [(0,true),(1,true),(2,true),(3,true),(4,true),(5,true),(6,true),(7,true),(8,true),(9,true),(10,true),(11,true),(12,true),(13,true),(14,false),(15,true),(16,true),(17,true)] ?_;iterate 3 (refine wB rfl ?_;simp only [pT])
    refine zAf (v := .int .i64 (k : Int)) rfl rfl (fun W hW => by have e := HCK.out W (HW.out.drew.trans (hW.mono HW.out.drew.size));go_simp) ?_;simp only [pT];refine wB rfl ?_;simp only [pT];refine zAf (v := .bool true) rfl rfl (fun W hW => by go_simp;try simp) ?_;simp only [pT];refine wB rfl ?_;simp only [pT];refine zAf (v := .agg #[.slice (some ⟨bb,o,none⟩) n cj, .slice al nl cl]) rfl rfl (fun W hW => zAc _ (HWA.out W (HW.out.drew.trans (hW.mono HW.out.drew.size))) rfl (zAh _) zuC) ?_;simp only [pT];refine wB rfl ?_;simp only [pT];refine zAf (v := .slice (some ⟨bb,o,none⟩) n cj) rfl rfl (fun W hW => by have e := (HWA.out W (HW.out.drew.trans (hW.mono HW.out.drew.size))).cell;go_simp) ?_;simp only [pT];iterate 3 (refine wB rfl ?_;simp only [pT])
    refine zAf (v := .int .i64 x.id) rfl rfl (fun W hW => by have e := HX0.out W (HB2.out.trans ((HW.out.drew.trans (hW.mono HW.out.drew.size)).mono HB2.out.size));go_simp) ?_;simp only [pT];refine zAC rfl rfl (fun K hK => ?_)
    go_simp
    refine (HAR.out _ x.id (HB2.out.trans (HW.out.drew.mono HB2.out.size))).mono ?_;rintro e w3 ⟨v,rfl,ho1,hb3⟩;obtain ⟨oa,oc,rfl⟩ := ho1.shape;refine hK _ _ hb3 ?_;clear hK K
    try simp only [pT]
    iterate 3 (refine wB rfl ?_;simp only [pT])
    simp only [wpB];have HWR := zz (HW.out.trans (((Below.refl wr.heap.size wr).drew.trans hb3).mono HW.out.size));obtain ⟨d,hd⟩ : ∃ d,decide (0 < (OL x.id).length) = d := ⟨_,rfl⟩
    rw [hd] at HNX;simp only [hd];clear hd
    cases d
    case true =>
     have HN1 : Hid (T (k + 1) = t - 1) := zz (by rw [HNX.out,if_pos (by simp)]);go_wp2;go_roundw
     case rel => exact ⟨k + 1,by omega,by go_num,by rw [HN1.out],HWR⟩
     case measure => simp [intOf];omega
    case false =>
     have HN1 : Hid (T (k + 1) = t) := zz (by rw [HNX.out,if_neg (by simp)]);go_wp2;go_roundw
     case rel => exact ⟨k + 1,by omega,by go_num,by rw [HN1.out],HWR⟩
     case measure => simp [intOf];omega
   ·have hne : (ak == (k : Int)) = false := by simpa using hakk
    have HNE := zz hne;have HN1 : Hid (T (k + 1) = t) := zz (by rw [HNX.out,if_neg (by simp [hakk])]);clear hne;refine rgO [(0,true),(1,true),(2,true),(3,true),(4,true),(5,true),(6,true),(7,true),(8,true),(9,true),(10,true),(11,true),(12,true),(13,true),(14,false),(15,true),(16,true),(17,true)] ?_;iterate 3 (refine wB rfl ?_;simp only [pT])
    refine zAf (v := .int .i64 ak) rfl rfl (fun W hW => by have e := HCK.out W (HW.out.drew.trans (hW.mono HW.out.drew.size));go_simp) ?_;simp only [pT];refine wB rfl ?_;simp only [pT];refine zAf (v := .bool false) rfl rfl (fun W hW => by go_simp;try exact HNE.out) ?_;simp only [pT];refine wB rfl ?_;simp only [pT];iterate 7 (refine wK rfl ?_;simp only [pT])
    refine wL rfl ?_;simp only [pT];iterate 2 (refine wK rfl ?_;simp only [pT])
    refine wB rfl ?_;simp only [pT];simp only [wpB];go_wp2;go_roundw
    case rel => exact ⟨k + 1,by omega,by go_num,by rw [HN1.out],zz HW.out.drew⟩
    case measure => simp [intOf];omega
  ·have hkn : k = n := by omega
   subst hkn;replace HWB := zz (HWA.out wr HW.out);replace HR0 := zz (HR0.out.belowAll HW.out);have HBW := zz (HB2.out.trans (HW.out.mono HB2.out.size));have HCV : Hid (zAL cn = #[.int .i64 k, .int .i64 nl, .int .i64 (T k), .int .i64 nc]) := zz (by rw [HCN.out,← HT.out];rfl)
   go_upto_region 11 with (fail)
   refine rgD [0,1,2,3,4,5,6,7,8,9] [] (fun _ => (0,#[])) [(10,false),(11,false)] ?_
   (refine wD rfl ?_;simp only [pT])
   refine zAi (v := _) rfl rfl (fun W hW => by have e := (HWB.out.drew.belowAll hW).cell;go_simp;with_reducible rfl) ?_;simp only [pT];iterate 2 (refine wD rfl ?_;simp only [pT])
   refine zAi (v := _) rfl rfl (fun W hW => by have e := (HWB.out.drew.belowAll hW).cell;go_simp;with_reducible rfl) ?_;simp only [pT];iterate 3 (refine wD rfl ?_;simp only [pT])
   refine zAI _ _ _ rfl rfl (fun W => by go_simp;try with_reducible rfl) (HDF.out.moved HW.out.drew) ?_;simp only [pT];refine zAi (v := .agg (zAL cn)) rfl rfl (fun W hW => by go_simp;rw [HCV.out]) ?_;simp only [pT];intro f W1 HW1 h1 h2;simp only [zAJ];clear h1 h2 f;refine zAr [46,47,48,49,50,51,52,53,54] fun u => ?_;simp only [zAw,pT];refine zBz (HR0.out.drew.belowAll HW1) rfl rfl (.agg (zAL cn)) rfl (by kernel_rfl) (by rfl) (zDt _) fun W2 hb2 ht2 => ?_;refine wpS_val rfl rfl (by go_simp;with_reducible rfl) ?_;simp only [pT];simp only [wpS];go_wp2;have HBE : Below w.heap.size w W2 := (HBW.out.drew.trans (HW1.mono HBW.out.drew.size)).trans (ht2.below (by omega));refine bodyPost_ret (zBW (cs := zAL cn) (.int .i64 0) (hb2.eqv (by simp [zAB,zAL,Value.cells])) rfl rfl rfl zuI) rfl ⟨?_,HBE⟩
   rfl
end Go.Proofs.YtbbblemfodpmaaaGreat
end
