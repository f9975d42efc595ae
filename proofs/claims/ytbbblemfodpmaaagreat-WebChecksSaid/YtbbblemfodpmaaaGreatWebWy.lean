/-The reference's pinches.-/
import Derived.Test.YtbbblemfodpmaaaGreatWebWx
import Derived.Test.YtbbblemfodpmaaaGreatWebPx
set_option linter.unusedVariables false
set_option linter.unusedSimpArgs false
set_option maxHeartbeats 16000000
set_option maxRecDepth 100000
section
namespace Go.Proofs.YtbbblemfodpmaaaGreat
open Go.RowKit
theorem Sl.OK.intAt {w : World} {a : Option Addr} {c : Nat} {L : List Int} (h : Sl.OK 1 zAC (fun _ _ _=>True) (fun _=>False) w ⟨a,c,L⟩) : ∃ b o,∀ k x,L[k]? = some x→a = some ⟨b,o,none⟩∧∀ W,Below w.heap.size w W→W.cell? ⟨b,o + k,none⟩ = some (.int .i64 x):=by
 cases L with
 | nil=>exact ⟨0,0,fun k x h=>by simp at h⟩
 | cons y r=>
  obtain ⟨b,o,e,_⟩:=h.elemAt (fun _=>rfl) (show (y :: r)[0]? = some y from rfl);refine ⟨b,o,fun k x hx=>?_⟩;obtain ⟨b',o',e',hc⟩:=h.elemAt (fun _=>rfl) hx;simp only at e e';rw [e] at e';simp only [Option.some.injEq,Addr.mk.injEq,and_true] at e';obtain ⟨rfl,rfl⟩:=e';refine ⟨e,fun W hW=>?_⟩;have:=hc W hW 0 (by show 0 < 1;decide);rw [Nat.mul_one,Nat.add_zero] at this;exact this
theorem pinR_succ (l rest : List Int) (i n : Nat) : pinR l rest i (n + 1) = zEJ l rest i (pinR l rest i n) n:=by
 unfold pinR;rw [List.range_succ,List.foldl_append];rfl
theorem rpinches_any (sj : Sl Joint) (sl : Sl Lead) (w : World) (hj : sj.OK 3 zAh zAs (fun _=>False) w) (hl : sl.OK 8 zAd zAA (fun _=>False) w) (V : ValidW sj.val sl.val) :
  Calls Tryz.prog 95 #[.agg #[.slice sj.a sj.val.length sj.cap, .slice sl.a sl.val.length sl.cap]] w fun e w'=>∃ v,e = .returned v∧OwnL zAC 1 w' w.heap.size 3 v (zCD sj.val sl.val)∧Below w.heap.size w w':=by
 obtain ⟨LB,hLB⟩ : ∃ LB : Int→List Int,∀ joint,labA sj.val sl.val joint 0 = LB joint:=⟨_,fun _=>rfl⟩
 have HLB : Hid (∀ (W : World) (joint : Int),Below w.heap.size w W→Calls Tryz.prog 91 #[.agg #[.slice sj.a sj.val.length sj.cap, .slice sl.a sl.val.length sl.cap], .int .i64 0, .int .i64 joint] W fun e w'=>∃ v,e = .returned v∧OwnL zAC 1 w' W.heap.size 3 v (LB joint)∧Below W.heap.size W w'):=zz fun W joint hW=>by
  have h:=zEG sj sl 0 joint W (hj.jmoved hW) (hl.lmoved hW) V;rw [hLB] at h;exact h
 have HLN : Hid (∀ joint,(LB joint).length = sj.val.length):=zz fun joint=>by rw [← hLB];exact zC4 _ _ _ _
 have hnj:=V.nj;have HPI : Hid (∀ i x,sj.val[i]? = some x→(pinR (LB 0) (LB x.id) i sj.val.length).2 = zCd sj.val sl.val x):=zz fun i x h=>by rw [← V.pinch h,hLB,hLB]
 have HJ:=zz hj;obtain ⟨HB0,HWB⟩:=zP1 w #[.slice sj.a sj.val.length sj.cap, .slice sl.a sl.val.length sl.cap] 25;obtain ⟨aj,cj,js⟩:=sj;obtain ⟨al,cl,ls⟩:=sl;obtain ⟨nj,hn1⟩ : ∃ n,js.length = n:=⟨_,rfl⟩
 obtain ⟨nl,hn2⟩ : ∃ n,ls.length = n:=⟨_,rfl⟩
 have HNJ:=zz hn1;obtain ⟨f,hf⟩ : ∃ f : Nat→List Int,∀ k,((js.take k).filter (zCd js ls)).map (·.id) = f k:=⟨_,fun _=>rfl⟩
 have HF:=zz hf;have HEND : Hid (zCD js ls = f nj):=zz (by rw [← hf,List.take_of_length_le (by omega),zCD]);have HFL : Hid (∀ k,(f k).length ≤ k):=zz fun k=>by rw [← hf,List.length_map];exact Nat.le_trans (List.length_filter_le _ _) (by rw [List.length_take];omega)
 simp only [hn1,hn2] at HLB HLN HB0 HWB HPI hnj ⊢;rw [HEND.out];clear hn1 hn2 V hj hl hLB hf;go_enter Tryz.func95,Tryz.ntmps95
 go_upto_region 2 with (first
  | (refine zLd 10 HWB.out #[.slice aj nj cj, .slice al nl cl] zuC ?_)
  | (go_at_call 91;refine (HLB.out _ 0 HB0.out).mono ?_;rintro e w2 ⟨v,rfl,ho1,hb2⟩;obtain ⟨so,rfl,hsv,hso,_⟩:=ho1.sl (fun _=>rfl) (fun _ _ _=>True) (fun _=>False) (fun _ _=>trivial) (fun _ _ h=>h) (by rw [HLN.out];omega);obtain ⟨sa,sc,sv⟩:=so;simp only at hsv;subst hsv;simp only [Sl.v];replace HWB:=zz (HWB.out.belowAll hb2);have HB2:=zz (HB0.out.trans (hb2.mono HB0.out.size));have HS0:=zz hso;clear ho1 hb2 hso HB0))
 rw [HLN.out];obtain ⟨g0,o0,hc0⟩:=HS0.out.intAt;have HC0:=zz hc0;have HWA : Hid (∀ W,Below w2.heap.size w2 W→zAe W w.heap.size 25 #[.slice aj nj cj, .slice al nl cl]):=zz fun W hW=>HWB.out.belowAll hW;clear hc0;go_wp2
 go_loopw [4,5] (fun v i wr=>∃ k : Nat,k ≤ nj∧i = .int .i64 k∧Hid (OwnL zAC 1 wr w2.heap.size 3 v (f k))∧Hid (Below w2.heap.size w2 wr)) (fun _ i _=>nj - (intOf i).toNat)
 case atStart=>exact ⟨0,Nat.zero_le _,rfl,zz (by rw [← HF.out];exact OwnL.nil _ _ _ _ _),zz (Below.refl _ _)⟩
 case round=>
  obtain ⟨k,hk,rfl,HOV,HW⟩:=hrel;have q0:=((HWA.out wr HW.out).cell 0).trans (show _ = some (.slice aj nj cj) from rfl)
  by_cases hlt : k < nj
  ·obtain ⟨x,hx⟩ : ∃ x,js[k]? = some x:=⟨_,List.getElem?_eq_getElem (by rw [HNJ.out];exact hlt)⟩
   obtain ⟨bb,o,e,hc⟩:=HJ.out.elemAt (fun _=>rfl) hx;simp only at e;subst e;have HX0 : Hid (∀ W,Below w.heap.size w W→W.cell? ⟨bb,o + k * 3,none⟩ = some (.int .i64 x.id)):=zz fun W hW=>by
    have:=hc W hW 0 (by show 0 < 3;decide);rw [Nat.add_zero] at this;exact this
   obtain ⟨p,hp⟩ : ∃ p,zCd js ls x = p:=⟨_,rfl⟩
   have HST : Hid (f (k + 1) = f k ++ if p = true then [x.id] else []):=zz (by rw [← HF.out,← HF.out,zB5 hx,hp,List.map_append];cases p <;> rfl);have HPX:=zz (HPI.out k x hx);rw [hp] at HPX;obtain ⟨ak,hak⟩ : ∃ u,(LB 0)[k]? = some u:=⟨_,List.getElem?_eq_getElem (by rw [HLN.out];exact hlt)⟩
   have HAK:=zz hak;clear hc hx hp hak
   go_upto_region 6 with (fail)
   clear q0;have S1 : (fun W=>Below w2.heap.size w2 W∧Below wr.drew.heap.size wr.drew W) wr.drew:=⟨HW.out.drew,Below.refl _ _⟩
   refine zCQ (fun W=>Below w2.heap.size w2 W∧Below wr.drew.heap.size wr.drew W) [(0,true),(1,true),(2,true),(3,true),(4,true),(5,true),(6,true),(7,false),(8,true)] rfl (by kernel_rfl) (by kernel_rfl) (fun d _ _ _ _ h=>by cases d <;> exact h) S1 ?_;refine zBw (v:=.agg #[.slice (some ⟨bb,o,none⟩) nj cj, .slice al nl cl]) rfl rfl (fun W hW=>zAc _ (HWA.out W hW.1) rfl (zAg _) zuC) ?_;simp only [pT];refine wS rfl ?_;simp only [pT];refine zBw (v:=.slice (some ⟨bb,o,none⟩) nj cj) rfl rfl (fun W hW=>by have e:=(HWA.out W hW.1).cell;go_simp) ?_;simp only [pT];iterate 3 (refine wS rfl ?_;simp only [pT])
   refine zBw (v:=.int .i64 x.id) rfl rfl (fun W hW=>by have e:=HX0.out W (HB2.out.trans (hW.1.mono HB2.out.size));go_simp) ?_;simp only [pT];refine zCo rfl rfl (fun K hK=>?_)
   go_simp
   refine (HLB.out _ _ (HB2.out.trans (S1.1.mono HB2.out.size))).mono ?_;rintro e w3 ⟨v,rfl,ho1,hb3⟩;have S2 : (fun W=>Below w2.heap.size w2 W∧Below wr.drew.heap.size wr.drew W) w3:=⟨S1.1.trans (hb3.mono S1.1.size),S1.2.trans (hb3.mono S1.2.size)⟩
   obtain ⟨so,rfl,hsv,hso,_⟩:=ho1.sl (fun _=>rfl) (fun _ _ _=>True) (fun _=>False) (fun _ _=>trivial) (fun _ _ h=>h) (by rw [HLN.out];omega);obtain ⟨ra,rc,rv⟩:=so;simp only at hsv;subst hsv;simp only [Sl.v];refine hK _ _ S2 ?_;clear hK K
   try simp only [pT]
   refine wS rfl ?_;simp only [pT];simp only [wpS];replace HOV:=zz (HOV.out.belowAll ((Below.refl wr.heap.size wr).drew.trans S2.2));have HW3:=zz S2.1;rw [HLN.out];obtain ⟨g1,o1,hc1⟩:=hso.intAt;have HC1:=zz hc1;clear S1 S2 hb3 ho1 hso hc1 HW;obtain ⟨P,hP⟩ : ∃ P : Nat→Int × Bool,∀ q,pinR (LB 0) (LB x.id) k q = P q:=⟨_,fun _=>rfl⟩
   have HP:=zz hP;rw [hP] at HPX;clear hP;go_wp2
   go_loopw [7,8,9] (fun fi pi kk wi=>∃ q : Nat,q ≤ nj∧kk = .int .i64 q∧fi = .int .i64 (P q).1∧pi = .bool (P q).2∧Hid (Below w3.heap.size w3 wi)) (fun _ _ kk _=>nj - (intOf kk).toNat)
   case atStart=>exact ⟨0,Nat.zero_le _,rfl,by rw [← HP.out];rfl,by rw [← HP.out];rfl,zz (Below.refl _ _)⟩
   case round=>
    obtain ⟨q,hq,rfl,rfl,rfl,HB3⟩:=hrel
    by_cases hlq : q < nj
    ·obtain ⟨aq,haq⟩ : ∃ u,(LB 0)[q]? = some u:=⟨_,List.getElem?_eq_getElem (by rw [HLN.out];exact hlq)⟩
     obtain ⟨rq,hrq⟩ : ∃ u,(LB x.id)[q]? = some u:=⟨_,List.getElem?_eq_getElem (by rw [HLN.out];exact hlq)⟩
     obtain ⟨t,ht⟩ : ∃ t,(P q).1 = t:=⟨_,rfl⟩
     obtain ⟨b,hb⟩ : ∃ t,(P q).2 = t:=⟨_,rfl⟩
     have HNX : Hid (P (q + 1) = if (decide (q = k) || !(decide (aq = ak))) = true then (t,b) else ((if t < 0 then rq else t),b || !decide (rq = (if t < 0 then rq else t)))):=zz (by
      rw [← HP.out,pinR_succ,HP.out];unfold zEJ;rw [haq,HAK.out,hrq,ht,hb];simp only [Option.getD_some];rw [← ht,← hb])
     obtain ⟨e0,cq⟩:=HC0.out q aq haq;obtain ⟨-,ck⟩:=HC0.out k ak HAK.out;obtain ⟨e1,cr⟩:=HC1.out q rq hrq;subst e0 e1;have CQ : Hid (∀ W,Below wr.drew.heap.size wr.drew W→W.cell? ⟨g0,o0 + q,none⟩ = some (.int .i64 aq)):=zz fun W hW=>cq W (HW3.out.trans ((HB3.out.drew.trans (hW.mono HB3.out.drew.size)).mono HW3.out.size));have CK : Hid (∀ W,Below wr.drew.heap.size wr.drew W→W.cell? ⟨g0,o0 + k,none⟩ = some (.int .i64 ak)):=zz fun W hW=>ck W (HW3.out.trans ((HB3.out.drew.trans (hW.mono HB3.out.drew.size)).mono HW3.out.size));have HCR:=zz cr;simp only [ht,hb];clear cq ck cr haq hrq ht hb
     go_upto_region 12 with (fail)
     refine rgD [0,1,2,3,4,5,6,7,8,9,10,11,12,13] [] (fun _=>(0,#[])) [] ?_;iterate 4 (refine wD rfl ?_;simp only [pT])
     iterate 3 (refine wI rfl ?_;simp only [pT])
     refine zAB (v:=.int .i64 aq) rfl rfl (fun hg W hW=>by (try simp only [Bool.and_eq_true] at hg);(try simp only [hg,Bool.and_self,zAz]);have e:=CQ.out W hW;go_simp) ?_;simp only [pT];iterate 3 (refine wI rfl ?_;simp only [pT])
     refine zAB (v:=.int .i64 ak) rfl rfl (fun hg W hW=>by (try simp only [Bool.and_eq_true] at hg);(try simp only [hg,Bool.and_self,zAz]);have e:=CK.out W hW;go_simp) ?_;simp only [pT]
     (refine wI rfl ?_;simp only [pT])
     refine zBX rfl rfl rfl ?_;simp only [pT];intro f W1 HW1 h1 h2;simp only [zAP];clear h1 h2 f;refine zAt [33,34,35,36,37,38,39,40,41,42,43,44,45] fun u=>?_;simp only [zAu,pT];simp only [wpS];replace HB3:=zz (HB3.out.trans ((Below.refl wr.heap.size wr).drew.trans HW1 |>.mono HB3.out.size));clear HW1;obtain ⟨cc,hcc⟩ : ∃ c,((q : Int) == (k : Int) || aq != ak) = c:=⟨_,rfl⟩
     have hcc2 : (decide (q = k) || !(decide (aq = ak))) = cc:=by
      rw [← hcc,Bool.eq_iff_iff];simp;omega
     rw [hcc2] at HNX;simp only [hcc];have CR : Hid (∀ W,Below W1.heap.size W1 W→W.cell? ⟨g1,o1 + q,none⟩ = some (.int .i64 rq)):=zz fun W hW=>HCR.out W (HB3.out.trans (hW.mono HB3.out.size));have qr:=CR.out W1 (Below.refl _ _);clear hcc hcc2 CQ CK HCR
     cases cc
     case true=>
      go_wp2;go_roundw
      case rel=>exact ⟨q + 1,by omega,by go_num,by rw [HNX.out];rfl,by rw [HNX.out];rfl,HB3⟩
      case measure=>simp [intOf];omega
     case false=>
      by_cases htn : t < 0
      ·have HN1 : Hid (P (q + 1) = (rq,b)):=zz (by rw [HNX.out,if_neg (by decide),if_pos htn];simp)
       go_upto_region 15 with (fail)
       clear qr;refine rgQ [0,1,2,3,4,5,6,7,8,9] [] ?_;iterate 2 (refine wD rfl ?_;simp only [pT])
       iterate 3 (refine wI rfl ?_;simp only [pT])
       refine zAB (v:=.int .i64 rq) rfl rfl (fun hg W hW=>by (try simp only [Bool.and_eq_true] at hg);(try simp only [hg,Bool.and_self,zAz]);have e:=CR.out W hW;go_simp) ?_;simp only [pT]
       (refine wI rfl ?_;simp only [pT])
       refine zAB (v:=.bool false) rfl rfl (fun hg W hW=>by (try simp only [Bool.and_eq_true] at hg);(try simp only [hg,Bool.and_self,zAz]);go_simp;try simp) ?_;simp only [pT];refine zBX rfl rfl rfl ?_;simp only [pT]
       (refine wD rfl ?_;simp only [pT])
       intro W1 HW1;refine zA1 [53,54,55,56,57,58,59,60,61] fun u=>?_;simp only [zAu,pT];refine zBe ?_;replace HB3:=zz (HB3.out.trans (HW1.mono HB3.out.size));clear HW1;go_wp2;go_roundw
       case rel=>exact ⟨q + 1,by omega,by go_num,by rw [HN1.out],by rw [HN1.out],HB3⟩
       case measure=>simp [intOf];omega
      ·obtain ⟨d2,hd⟩ : ∃ d,(rq != t) = d:=⟨_,rfl⟩
       have HD2:=zz hd;have HN1 : Hid (P (q + 1) = (t,b || d2)):=zz (by rw [HNX.out,if_neg (by decide),if_neg htn,← hd];cases h : decide (rq = t) <;> simp at h <;> simp [h]);clear hd
       go_upto_region 15 with (fail)
       clear qr;refine rgQ [0,1,2,3,4,5,6,7,8,9] [] ?_;iterate 2 (refine wD rfl ?_;simp only [pT])
       iterate 3 (refine wI rfl ?_;simp only [pT])
       refine zAB (v:=.int .i64 rq) rfl rfl (fun hg W hW=>by (try simp only [Bool.and_eq_true] at hg);(try simp only [hg,Bool.and_self,zAz]);have e:=CR.out W hW;go_simp) ?_;simp only [pT]
       (refine wI rfl ?_;simp only [pT])
       refine zAB (v:=.bool d2) rfl rfl (fun hg W hW=>by (try simp only [Bool.and_eq_true] at hg);(try simp only [hg,Bool.and_self,zAz]);go_simp;exact HD2.out) ?_;simp only [pT];refine zBX rfl rfl rfl ?_;simp only [pT]
       (refine wD rfl ?_;simp only [pT])
       intro W1 HW1;refine zA1 [53,54,55,56,57,58,59,60,61] fun u=>?_;simp only [zAu,pT];refine zBe ?_;replace HB3:=zz (HB3.out.trans (HW1.mono HB3.out.size));clear HW1;go_wp2;go_roundw
       case rel=>exact ⟨q + 1,by omega,by go_num,by rw [HN1.out],by rw [HN1.out],HB3⟩
       case measure=>simp [intOf];omega
    ·have hqn : q = nj:=by omega
     subst hqn;have HWI:=zz (HW3.out.trans (HB3.out.mono HW3.out.size));replace HOV:=zz (HOV.out.belowAll HB3.out);rw [HPX.out];have q1:=((HWA.out wr HWI.out).cell 0).trans (show _ = some (.slice (some ⟨bb,o,none⟩) q cj) from rfl);have q2:=HX0.out wr (HB2.out.trans (HWI.out.mono HB2.out.size));have hN:=HWI.out.size
     cases p
     case true=>
      go_wp2_with (first
       | ((with_reducible refine zAm 71 ?_);refine zAU rfl _ _ 50 rfl w2.heap.size zCm (fun _=>rfl) (by decide) zB4 (by decide) u4 (f k) rfl (HOV.out.belowAll ((Below.refl _ _).alloc (Nat.le_refl _) _)) wr.heap.size 0 1 x.id rfl (fun j hj=>by rw [Nat.zero_add];exact (zAe.new wr 3 (zAC x.id)).cell j) (by have:=HFL.out k;omega) (by rw [World.size_alloc];omega) ?_;intro v2 w4 ho2 hg2 hob2))
      have hW4 : Below w2.heap.size wr w4:=(((Below.refl wr.heap.size wr).alloc (Nat.le_refl _) (.cells (zAC x.id) 3)).mono hN).trans (Below.appended (HOV.out.belowAll ((Below.refl _ _).alloc (Nat.le_refl _) _)) hg2 (Nat.le_refl _) (by rw [World.size_alloc];omega));exact ⟨⟨k + 1,by omega,by go_num,zz (by rw [HST.out];exact ho2),zz (HWI.out.trans hW4)⟩,by simp [intOf];omega⟩
     case false=>
      go_wp2;go_roundw
      case rel=>exact ⟨k + 1,by omega,by go_num,zz (by rw [HST.out];simpa using HOV.out),HWI⟩
      case measure=>simp [intOf];omega
  ·have hkn : k = nj:=by omega
   subst hkn;go_wp2;go_ret;exact ⟨_,rfl,HOV.out.base_le (by have:=HB2.out.size;omega),HB2.out.trans (HW.out.mono HB2.out.size)⟩
end Go.Proofs.YtbbblemfodpmaaaGreat
end
section
namespace Go.Proofs.YtbbblemfodpmaaaGreat
open Go.RowKit
end Go.Proofs.YtbbblemfodpmaaaGreat
end
section
namespace Go.Proofs.YtbbblemfodpmaaaGreat
open Go.RowKit
end Go.Proofs.YtbbblemfodpmaaaGreat
end
section
namespace Go.Proofs.YtbbblemfodpmaaaGreat
open Go.RowKit
end Go.Proofs.YtbbblemfodpmaaaGreat
end
