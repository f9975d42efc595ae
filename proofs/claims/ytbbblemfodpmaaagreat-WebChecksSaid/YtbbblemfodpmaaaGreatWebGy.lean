/-The reference's around: the sides in order.-/
import Derived.Test.YtbbblemfodpmaaaGreatWebGx
import Derived.Test.YtbbblemfodpmaaaGreatWebGv
import Derived.Test.YtbbblemfodpmaaaGreatWebGm
set_option linter.unusedVariables false
set_option linter.unusedSimpArgs false
set_option maxHeartbeats 16000000
set_option maxRecDepth 100000
section
namespace Go.Proofs.YtbbblemfodpmaaaGreat
open Go.RowKit
theorem cutSide : CutT 62 2:=cutT (e := 59) (by kernel_rfl) (by kernel_rfl) (by kernel_rfl)
theorem insB_at {α : Type} {lt : α→α→Bool} {x : α} : ∀ {l : List α} {q : Nat},(l.take q).all (lt · x) = true→(∀ y,l[q]? = some y→lt y x = false)→insB lt x l = l.take q ++ [x] ++ l.drop q
 | [],q,_,_=>by simp [insB]
 | y :: r,0,_,h=>by
  have:=h y rfl;simp [insB,this]
 | y :: r,q + 1,h1,h2=>by
  simp only [List.take_succ_cons,List.all_cons,Bool.and_eq_true] at h1;have ih:=insB_at (lt:=lt) (x:=x) (l:=r) (q:=q) h1.2 (fun z hz=>h2 z (by simpa using hz));simp only [insB,h1.1,if_true,ih,List.take_succ_cons,List.drop_succ_cons,List.cons_append]
theorem ar_len (js : List Joint) (ls : List Lead) (j : Int) : ∀ (m : List Lead) (acc : List Side),(m.foldl (zBc js ls j) acc).length ≤ acc.length + m.length
 | [],acc=>by simp
 | x :: m,acc=>by
  have:=ar_len js ls j m (zBc js ls j acc x);have h : (zBc js ls j acc x).length ≤ acc.length + 1:=by
   unfold zBc
   split
   ·omega
   ·have:=(zDl (befR js ls) ⟨x.id,decide (x.b = j)⟩ acc).length_eq;simp only [List.length_cons] at this;omega
  simp only [List.foldl_cons,List.length_cons];omega
theorem ValidW.around_mem {js : List Joint} {ls : List Lead} (V : ValidW js ls) (j : Int) {k : Nat} {s : Side} (h : s ∈ (ls.take k).foldl (zBc js ls j) []) : s ∈ zAp j ls:=by
 have key : ∀ (m l : List Lead),l ++ m = ls→(l.foldl (zBc js ls j) []).Perm (zAp j l):=fun m=>by
  intro l e;have : ∀ (l2 l1 : List Lead),(∀ x ∈ l2,x ∈ ls)→(l1.foldl (zBc js ls j) []).Perm (zAp j l1)→((l1 ++ l2).foldl (zBc js ls j) []).Perm (zAp j (l1 ++ l2)):=fun l2=>by
   induction l2 with
   | nil=>intro l1 _ h;simpa using h
   | cons x l2 ih=>
    intro l1 hx h;have hab : x.a ≠ x.b:=by obtain ⟨_,_,_,_,_,_,h,_,_⟩:=V.ends (hx x (by simp));exact h
    have h2:=ih (l1 ++ [x]) (fun y hy=>hx y (by simp [hy])) (by
     rw [List.foldl_append,zCu,zFu hab]
     show (zBc js ls j _ x).Perm _
     generalize l1.foldl (zBc js ls j) [] = out at h ⊢;unfold zBc
     by_cases hc : x.a ≠ j∧x.b ≠ j
     ·rw [if_pos hc,if_pos hc,List.append_nil];exact h
     ·rw [if_neg hc,if_neg hc];exact (zDl _ _ _).trans ((List.perm_append_singleton _ _).symm.trans (h.append_right _)))
    rwa [List.append_assoc] at h2
  exact this l [] (fun x hx=>by rw [← e];exact List.mem_append_left _ hx) (.refl _)
 have h2:=(key (ls.drop k) (ls.take k) (List.take_append_drop k ls)).mem_iff.1 h;have : zAp j ls = zAp j (ls.take k) ++ zAp j (ls.drop k):=by rw [← zCu,List.take_append_drop]
 rw [this];exact List.mem_append_left _ h2
theorem ValidW.side_ok {js : List Joint} {ls : List Lead} (V : ValidW js ls) {s : Side} (h : zAM ls s) : (zBT ls s.lead).isSome = true∧(atA js (zAl ls s).1).isSome = true∧(atA js (zAl ls s).2).isSome = true:=by
 obtain ⟨l,hl,e⟩:=h;obtain ⟨a1,a2,_⟩:=zDa (V.lok l hl);obtain ⟨sl,sb⟩:=s;simp only at e;subst e;rw [V.sideEnds hl,V.lead hl]
 cases sb
 ·exact ⟨rfl,a1,a2⟩
 ·exact ⟨rfl,a2,a1⟩
theorem zGh {js : List Joint} {ls : List Lead} (h : ∀ id,zAy (ptA js id)) (s : Side) : smallD (dirR js ls s):=by
 obtain ⟨a1,a2,a3,a4⟩:=h (zAl ls s).1;obtain ⟨b1,b2,b3,b4⟩:=h (zAl ls s).2;unfold smallD dirR;simp only;omega
theorem zGi (sj : Sl Joint) (sl : Sl Lead) (j : Int) (w : World) (hj : sj.OK 3 zAh zAs (fun _=>False) w) (hl : sl.OK 8 zAd zAA (fun _=>False) w) (V : ValidW sj.val sl.val) :
  Calls Tryz.prog 98 #[.agg #[.slice sj.a sj.val.length sj.cap, .slice sl.a sl.val.length sl.cap], .int .i64 j] w fun e w'=>∃ v,e = .returned v∧OwnL zAa 2 w' w.heap.size 59 v (aroundR sj.val sl.val j)∧Below w.heap.size w w':=by
 have hsp : ∀ id,zAy (ptA sj.val id):=zEp fun j hm=>(V.jok j hm).2;have HSP:=zz hsp;have HV:=zz V;have HDT : Hid (∀ s,zAM sl.val s→Det 162 #[.agg #[.slice sj.a sj.val.length sj.cap, .slice sl.a sl.val.length sl.cap], .agg (zAa s)] (.agg (zAb (dirR sj.val sl.val s))) w):=zz fun s h=>rdir_det sj sl s w hj hl (V.side_ok h).1 (V.side_ok h).2.1 (V.side_ok h).2.2 hsp;have hnl:=V.nl;have HL:=zz hl;obtain ⟨HB0,HWB⟩:=zP1 w #[.slice sj.a sj.val.length sj.cap, .slice sl.a sl.val.length sl.cap] 25;clear hsp V hj hl;obtain ⟨aj,cj,js⟩:=sj;obtain ⟨al,cl,ls⟩:=sl;obtain ⟨n,hn⟩ : ∃ n,ls.length = n:=⟨_,rfl⟩
 obtain ⟨nj,hnj⟩ : ∃ n,js.length = n:=⟨_,rfl⟩
 have HN:=zz hn;simp only [hn,hnj] at hnl HB0 HWB HDT ⊢;clear hn hnj;obtain ⟨R,hR⟩ : ∃ R,aroundR js ls j = R:=⟨_,rfl⟩
 have HR : Hid (R = (ls.take n).foldl (zBc js ls j) []):=zz (by rw [← hR,List.take_of_length_le (by rw [HN.out];exact Nat.le_refl _)];rfl);simp only [hR];clear hR;go_enter Tryz.func98,Tryz.ntmps98;go_wp2
 go_loopw [5,6] (fun v i wr=>∃ k : Nat,k ≤ n∧i = .int .i64 k∧Hid (OwnL zAa 2 wr w.heap.size 59 v ((ls.take k).foldl (zBc js ls j) []))∧Hid (Below w.heap.size w wr∧zAe wr w.heap.size 25 #[.slice aj nj cj, .slice al n cl])) (fun _ i _=>n - (intOf i).toNat)
 case atStart=>exact ⟨0,Nat.zero_le _,rfl,zz (OwnL.nil _ _ _ _ _),zz ⟨HB0.out,HWB.out⟩⟩
 case round=>
  obtain ⟨k,hk,rfl,HOV,HW⟩:=hrel;have q0:=(HW.out.2.cell 1).trans (show _ = some (.slice al n cl) from rfl);have hlen : ((ls.take k).foldl (zBc js ls j) []).length ≤ k:=by have:=ar_len js ls j (ls.take k) [];simp only [List.length_nil,List.length_take] at this;omega
  have HMEM : Hid (∀ s ∈ (ls.take k).foldl (zBc js ls j) [],s ∈ zAp j ls):=zz fun s hs=>HV.out.around_mem j hs;have HSTEP : Hid (∀ x,ls[k]? = some x→(ls.take (k + 1)).foldl (zBc js ls j) [] = zBc js ls j ((ls.take k).foldl (zBc js ls j) []) x):=zz fun x hx=>by rw [List.take_add_one,hx,List.foldl_append];rfl
  by_cases hlt : k < n
  ·obtain ⟨x,hx⟩ : ∃ x,ls[k]? = some x:=⟨_,List.getElem?_eq_getElem (by rw [HN.out];exact hlt)⟩
   obtain ⟨bb,o,e,hc⟩:=HL.out.elemAt (fun _=>rfl) hx;simp only at e;subst e;have HEX:=zz hc;have HXM:=zz (List.mem_of_getElem? hx);have HST:=zz (HSTEP.out x hx);replace HB0:=zz HW.out.1;have HWB:=zz HW.out.2;obtain ⟨l,hl⟩ : ∃ l,(ls.take k).foldl (zBc js ls j) [] = l:=⟨_,rfl⟩
   simp only [hl] at HOV hlen HMEM HST;clear hc hx HW hl HSTEP;obtain ⟨b1,h1⟩ : ∃ b,(x.a != j) = b:=⟨_,rfl⟩
   obtain ⟨b2,h2⟩ : ∃ b,(x.b != j) = b:=⟨_,rfl⟩
   have E1:=zz h1;have E2:=zz h2;have HARS : Hid (zBc js ls j l x = if (b1 && b2) = true then l else insB (befR js ls) ⟨x.id,x.b == j⟩ l):=zz (by rw [← h1,← h2];unfold zBc;simp only [bne_iff_ne,ne_eq,Bool.and_eq_true];rfl);have hb12 : (b1 && b2) = false→(⟨x.id,x.b == j⟩ : Side) ∈ zAp j ls:=fun h=>by
    rw [← h1,← h2] at h;refine zCH.2 ⟨x,HXM.out, ?_⟩
    by_cases hb : x.b = j
    ·right;simp [hb]
    ·left
     have : x.a = j:=by simpa [hb] using h
     simp [this,hb]
   have HB12:=zz hb12;clear h1 h2 hb12
   go_upto_region 5 with (fail)
   refine zBo [0,1,2,3,4] [(5,7)] (fun _=>(31,#[.int .i64 0, .int .i64 0, .int .i64 0, .int .i64 0, .int .i64 0, .int .i64 0, .int .i64 0, .int .i64 0])) [(6,false)] (by kernel_rfl) (fun d _ _ _ _ h=>by cases d <;> exact h) (by intro k hk K a w h;simp only [List.mem_cons,List.not_mem_nil,or_false] at hk;rcases hk with rfl <;> exact zBR _ rfl (by kernel_rfl) h) ?_
   (refine wD rfl ?_;simp only [pT])
   refine zAi (v:=_) rfl rfl (fun W hW=>by have e:=(HWB.out.belowAll hW).cell;go_simp;with_reducible rfl) ?_;simp only [pT];iterate 2 (refine wD rfl ?_;simp only [pT])
   refine zAi (v:=_) rfl rfl (fun W hW=>zAE _ (HEX.out W (HB0.out.trans (hW.mono HB0.out.size))) rfl zuD) ?_;simp only [pT];intro f W1 HW1 hf hi;simp only [zAP,zBh,pT];have hf0:=hf (5,7) (by simp);simp only at hf0;obtain ⟨jx,hj⟩ : ∃ j,f 5 = j:=⟨_,rfl⟩
   simp only [hj] at hf0 ⊢;obtain ⟨hfl,hfb⟩:=hf0;clear hf hi hj f;refine zAt [18,19,20,21] fun u=>?_;simp only [zAu,pT];refine zBG hfb rfl rfl (.agg (zAd x)) rfl (by kernel_rfl) (by rfl) (zA9 _) fun W2 hb2 ht2=>?_;have HX:=zz (hb2.eqv (cs':=zAd x) (by simp [zAx,zAd,Value.cells]));have HW2:=HW1.trans (ht2.below hfl);simp only [wpS];clear hb2 ht2 hfl hfb HW1 W1;replace HB0:=hTr HB0 HW2;replace HWB:=zz (HWB.out.belowAll HW2);replace HOV:=zz (HOV.out.belowAll HW2);clear HW2
   go_upto_region 6 with (fail)
   refine rgR [0,1,2,3,4,5,6,7,8,9] [] (fun _=>(0,#[])) [] ?_
   (refine wD rfl ?_;simp only [pT])
   refine zAi (v:=_) rfl rfl (fun W hW=>by have e:=(HX.out.belowAll hW).cell;go_simp;with_reducible rfl) ?_;simp only [pT]
   (refine wD rfl ?_;simp only [pT])
   refine zAi (v:=.bool b1) rfl rfl (fun W hW=>by have e:=(HX.out.belowAll hW).cell;go_simp;exact E1.out) ?_;simp only [pT]
   (refine wD rfl ?_;simp only [pT])
   (refine wI rfl ?_;simp only [pT])
   refine zAB (v:=_) rfl rfl (fun hg W hW=>by (try simp only [Bool.and_eq_true] at hg);(try simp only [hg,Bool.and_self,zAz]);have e:=(HX.out.belowAll hW).cell;go_simp;with_reducible rfl) ?_;simp only [pT]
   (refine wI rfl ?_;simp only [pT])
   refine zAB (v:=.bool b2) rfl rfl (fun hg W hW=>by (try simp only [Bool.and_eq_true] at hg);(try simp only [hg,Bool.and_self,zAz]);have e:=(HX.out.belowAll hW).cell;go_simp;exact E2.out) ?_;simp only [pT];refine zB1 rfl rfl rfl ?_;simp only [pT];intro f W1 HW1 h1 h2;simp only [zAP];clear h1 h2 f;refine zAt [23,24,25,26,27,28,29,30,31] fun u=>?_;simp only [zAu,pT];simp only [wpS];replace HB0:=hTr HB0 HW1;replace HWB:=zz (HWB.out.belowAll HW1);replace HOV:=zz (HOV.out.belowAll HW1);replace HX:=zz (HX.out.belowAll HW1);clear HW1;obtain ⟨q,hq⟩ : ∃ q,(b1 && b2) = q:=⟨_,rfl⟩
   simp only [hq] at HARS HB12 ⊢;clear hq
   cases q
   case true=>
    rw [if_pos rfl] at HARS;go_wp2;go_roundw
    case rel=>exact ⟨k + 1,by omega,by go_num,zz (by rw [HST.out,HARS.out];exact HOV.out),zz ⟨HB0.out,HWB.out⟩⟩
    case measure=>simp [intOf];omega
   rw [if_neg (by decide)] at HARS;obtain ⟨s0,hs0⟩ : ∃ s : Side,(⟨x.id,x.b == j⟩ : Side) = s:=⟨_,rfl⟩
   simp only [hs0] at HARS HB12;have HS0:=zz hs0;have HS0M : Hid (s0 ∈ zAp j ls):=zz (by simpa using HB12.out);clear hs0
   go_upto_region 7 with (fail)
   refine zBo [0,1,2,3,4,5,6] [(7,8)] (fun _=>(59,#[.int .i64 0, .bool false])) [(8,false)] (by kernel_rfl) (fun d _ _ _ _ h=>by cases d <;> exact h) (by intro k hk K a w h;simp only [List.mem_cons,List.not_mem_nil,or_false] at hk;rcases hk with rfl <;> exact zBR _ rfl (by kernel_rfl) h) ?_
   (refine wD rfl ?_;simp only [pT])
   refine zAi (v:=_) rfl rfl (fun W hW=>by have e:=(HX.out.belowAll hW).cell;go_simp;with_reducible rfl) ?_;simp only [pT]
   (refine wD rfl ?_;simp only [pT])
   refine zAi (v:=_) rfl rfl (fun W hW=>by have e:=(HX.out.belowAll hW).cell;go_simp;with_reducible rfl) ?_;simp only [pT];iterate 2 (refine wD rfl ?_;simp only [pT])
   refine zAi (v:=.agg (zAa s0)) rfl rfl (fun W hW=>by go_simp;rw [← HS0.out];rfl) ?_;simp only [pT];intro f W1 HW1 hf hi;simp only [zAP,zBh,pT];have hf0:=hf (7,8) (by simp);simp only at hf0;obtain ⟨j0,hj⟩ : ∃ j,f 7 = j:=⟨_,rfl⟩
   simp only [hj] at hf0 ⊢;obtain ⟨hfl,hfb⟩:=hf0;clear hf hi hj f;refine zAt [33,34,35,36,37,38] fun u=>?_;simp only [zAu,pT];refine zBG hfb rfl rfl (.agg (zAa s0)) rfl (by kernel_rfl) (by rfl) (zAn _) fun W2 hb2 ht2=>?_;have HSB:=zz (hb2.eqv (cs':=zAa s0) (by simp [zAx,zAa,Value.cells]));have HW2:=HW1.trans (ht2.below hfl);simp only [wpS];clear hb2 ht2 hfl hfb HW1 W1;replace HB0:=hTr HB0 HW2;replace HWB:=zz (HWB.out.belowAll HW2);replace HOV:=zz (HOV.out.belowAll HW2);clear HW2;obtain ⟨so,rfl,hsv,hso,_⟩:=HOV.out.sl (fun _=>rfl) (fun _ _ _=>True) (fun _=>False) (fun _ _=>trivial) (fun _ _ h=>h) (by omega);have HSO:=zz hso;have HPP : ∃ pb po,0 < so.val.length→so.a = some ⟨pb,po,none⟩:=by
    cases h : so.a with
    | none=>exact ⟨0,0,fun h0=>by rw [(hso.isNil h).1] at h0;simp at h0⟩
    | some p=>
     obtain ⟨pb,po,sp⟩:=p;exact ⟨pb,po,fun h0=>by have:=(hso.place _ h h0).1;simp only at this;rw [this]⟩
   obtain ⟨pb,po,hpa⟩:=HPP;have hcap:=hso.le;obtain ⟨sa,sc,sv⟩:=so;simp only at hsv hpa hcap;subst hsv;obtain ⟨m,hm⟩ : ∃ m,sv.length = m:=⟨_,rfl⟩
   have HM:=zz hm;simp only [Sl.v,hm] at hpa hlen hcap ⊢;have HPA:=zz hpa;have HD0:=zz (HDT.out s0 (HV.out.of_leave HS0M.out).1);clear hso hpa hm q0;have HWQ : Hid (Below W2.heap.size W2 W2):=zz (Below.refl _ _);go_wp2
   go_loopw [9] (fun i wr=>∃ q : Nat,q ≤ m∧i = .int .i64 q∧Hid ((sv.take q).all (fun y=>befR js ls y s0) = true)∧Hid (Below W2.heap.size W2 wr)) (fun i _=>m - (intOf i).toNat)
   case atStart=>exact ⟨0,Nat.zero_le _,rfl,zz (by simp),HWQ⟩
   case round=>
    obtain ⟨q,hq,rfl,HALL,HWR⟩:=hrel;have HB2 : Hid (Below w.heap.size w wr.drew):=zz ((HB0.out.trans (HWR.out.mono HB0.out.size)).drew);have HWB2:=zz (HWB.out.belowAll HWR.out).drew;have HSB2:=zz (HSB.out.belowAll HWR.out).drew;obtain ⟨y,hy⟩ : ∃ y,(sv[q]?).getD default = y:=⟨_,rfl⟩
    have HY : Hid (q < m→sv[q]? = some y):=zz fun h=>by rw [← hy,List.getElem?_eq_getElem (by rw [HM.out];exact h)];rfl
    have HYC : Hid (q < m→∀ W,Below wr.drew.heap.size wr.drew W→∀ j,j < (zAa y).size→W.cell? ⟨pb,po + q * 2 + j,none⟩ = (zAa y)[j]?):=zz fun h W hW=>by
     obtain ⟨b3,o3,e,hc⟩:=HSO.out.elemAt (fun _=>rfl) (HY.out h);rw [HPA.out (by omega)] at e;simp only [Option.some.injEq,Addr.mk.injEq,and_true] at e;obtain ⟨rfl,rfl⟩:=e;exact hc W (HWR.out.drew.trans (hW.mono HWR.out.size))
    have HDY : Hid (q < m→Det 162 #[.agg #[.slice aj nj cj, .slice (some ⟨bb,o,none⟩) n cl], .agg (zAa y)] (.agg (zAb (dirR js ls y))) w):=zz fun h=>HDT.out y (HV.out.of_leave (HMEM.out y (List.mem_of_getElem? (HY.out h)))).1;clear hy;go_wp2;refine rgD [0,1,2,3,4,5,6,7,8,9,10,11,12,13,14,15] [] (fun _=>(0,#[])) [] ?_;iterate 5 (refine wD rfl ?_;simp only [pT])
    refine zAB (v:=_) rfl rfl (fun hg W hW=>zAc _ (HWB2.out.belowAll hW) rfl (zAg _) zuC) ?_;simp only [pT];iterate 2 (refine wI rfl ?_;simp only [pT])
    refine zAB (v:=.pointer (some ⟨pb,po + q * 2,none⟩)) rfl rfl (fun hg W hW=>by (try simp only [Bool.and_eq_true] at hg);(try simp only [hg,Bool.and_self,zAz]);have h0 : q < m:=(by simpa using hg);have h1:=HPA.out (by omega);simp only [h1];go_simp) ?_;simp only [pT];refine zAB (v:=.agg (zAa y)) rfl rfl (fun hg W hW=>by (try simp only [Bool.and_eq_true] at hg);(try simp only [hg,Bool.and_self,zAz]);exact zAE (zAa y) (HYC.out (by simpa using hg) W hW) rfl zuA) ?_;simp only [pT];refine zBl _ _ _ rfl rfl (fun hg W=>by go_simp;try with_reducible rfl) (fun hg=>(HDY.out (by simpa using hg)).moved HB2.out) ?_;simp only [pT];refine zAB (v:=_) rfl rfl (fun hg W hW=>zAc _ (HWB2.out.belowAll hW) rfl (zAg _) zuC) ?_;simp only [pT];refine zAB (v:=_) rfl rfl (fun hg W hW=>zAc _ (HSB2.out.belowAll hW) rfl (zAg _) zuA) ?_;simp only [pT];refine zBl _ _ _ rfl rfl (fun hg W=>by go_simp;try with_reducible rfl) (fun hg=>HD0.out.moved HB2.out) ?_;simp only [pT];refine zBl _ _ _ rfl rfl (fun hg W=>by go_simp;try with_reducible rfl) (fun hg=>rbefore_det _ _ (zGh (ls:=ls) HSP.out y) (zGh (ls:=ls) HSP.out s0) _) ?_;simp only [pT];refine zB1 rfl rfl rfl ?_;simp only [pT];intro f W1 HW1 h1 h2;simp only [zAP];clear h1 h2 f;refine zAt [40,41,42,43,44,45,46,47,48,49,50,51,52,53,54] fun u=>?_;simp only [zAu,pT];simp only [wpS];have HB3 : Hid (Below w.heap.size w W1):=zz (HB2.out.trans (HW1.mono HB2.out.size));have HSQ : Hid (Below W2.heap.size W2 W1):=zz (HWR.out.drew.trans (HW1.mono HWR.out.size));obtain ⟨c,hc⟩ : ∃ c,(decide (q < m) && zDn (dirR js ls y) (dirR js ls s0)) = c:=⟨_,rfl⟩
    have HC:=zz hc;simp only [hc];clear hc HD0 HDY HYC HW1 HB2 HWB2 HSB2
    cases c
    case true=>
     have hh:=HC.out;simp only [Bool.and_eq_true,decide_eq_true_eq] at hh;have hqm:=hh.1;have HBY:=zz hh.2;clear hh;go_wp2;go_roundw
     case rel=>exact ⟨q + 1,by omega,by go_num,zz (by rw [List.take_add_one,HY.out hqm,List.all_append,HALL.out];simp only [List.all_cons,List.all_nil,Bool.and_true,Bool.true_and,Option.toList_some];exact HBY.out),HSQ⟩
     case measure=>simp [intOf];omega
    case false=>
     have HNB : Hid (∀ z,sv[q]? = some z→befR js ls z s0 = false):=zz fun z hz=>by
      have hqm : q < m:=by rw [← HM.out];exact (List.getElem?_eq_some_iff.1 hz).1
      have e:=HY.out hqm;rw [hz] at e;cases e;have hh:=HC.out;rw [decide_eq_true hqm,Bool.true_and] at hh;exact hh
     have HSO1 : Hid (Sl.OK 2 zAa (fun _ _ _=>True) (fun _=>False) W1 ⟨sa,sc,sv⟩):=zz (HSO.out.ext (fun _ h=>h) (.of_below HSQ.out));have HSB1:=zz (HSB.out.belowAll HSQ.out);have HWB1:=zz (HWB.out.belowAll HSQ.out);clear HC HY HWR HSQ HSO;have HTK : Hid (Value.slice sa q sc = Sl.v (⟨sa,sc,sv.take q⟩ : Sl Side)):=zz (by simp only [Sl.v,List.length_take,HM.out,Nat.min_eq_left hq]);have HDR : Hid (Value.slice (if sc = q then sa else sa.map (·.add (q * 2))) (m - q) (sc - q) = Sl.v (⟨if sc = q then sa else sa.map (·.add (q * 2)),sc - q,sv.drop q⟩ : Sl Side)):=zz (by simp only [Sl.v,List.length_drop,HM.out]);have HLT : Hid ((sv.take q).length ≤ 400∧(sv.drop q).length ≤ 400):=zz (by simp only [List.length_take,List.length_drop,HM.out];omega);have HE1 : Hid (Below W1.heap.size W1 (W1.alloc (.cells #[] 59))):=zz ((Below.refl _ _).alloc (Nat.le_refl _) _)
     go_upto_region 12 with (first
      | ((with_reducible refine zAm 61 ?_);refine zCP rfl _ _ _ _ _ rfl _ (.slice sa q sc) rfl (run_tkN cutSide _ sa m sc q hq hcap) ?_)
      | ((with_reducible refine zAm 62 ?_);refine zFO rfl _ _ 62 rfl W1.heap.size zB3 (fun _=>rfl) (by decide) zAn (by decide) (.slice (some ⟨W1.heap.size,0,none⟩) 0 0) [] rfl (own_lit0 _ _) ⟨sa,sc,sv.take q⟩ HTK.out ((HSO1.out.tkN q).up HE1.out) (by have:=HLT.out;simp;omega) HE1.out.size ?_;intro v2 w2 ho2 hb2))
     have HO2 : Hid (OwnL zAa 2 w2 W1.heap.size 59 v2 (sv.take q)):=zz ho2;have HE2:=zz (HE1.out.trans hb2);have HSB2:=zz (HSB1.out.belowAll HE2.out);have HAL : Hid (Below W1.heap.size W1 (w2.alloc (.cells (zAa s0) 59))):=zz (HE2.out.alloc HE2.out.size _);clear ho2 hb2
     go_upto_region 13 with (first
      | (refine zLd 64 HSB2.out (zAa s0) zuA ?_)
      | ((with_reducible refine zAm 66 ?_);refine wpList_app1 rfl _ _ 62 rfl W1.heap.size zB3 (fun _=>rfl) (by decide) zAn (by decide) v2 (sv.take q) rfl (HO2.out.belowAll ((Below.refl _ _).alloc (Nat.le_refl _) _)) w2.heap.size 0 1 s0 rfl (fun j hj=>by rw [Nat.zero_add];exact (zAe.new w2 59 (zAa s0)).cell j) (by have:=HLT.out;omega) HAL.out.size ?_;intro v3 w3 ho3 hb3))
     have HO3:=zz ho3;have HE3:=zz (HAL.out.trans hb3);clear ho3 hb3
     go_wp2_with (first
      | ((with_reducible refine zAm 70 ?_);refine zCP rfl _ _ _ _ _ rfl _ (.slice (if sc = q then sa else sa.map (·.add (q * 2))) (m - q) (sc - q)) rfl (run_drN cutSide _ sa m sc q hq) ?_)
      | ((with_reducible refine zAm 71 ?_);refine zFO rfl _ _ 62 rfl W1.heap.size zB3 (fun _=>rfl) (by decide) zAn (by decide) v3 (sv.take q ++ [s0]) rfl HO3.out ⟨if sc = q then sa else sa.map (·.add (q * 2)),sc - q,sv.drop q⟩ HDR.out ((HSO1.out.drN (by rw [HM.out];exact hq)).up HE3.out) (by have:=HLT.out;simp only [List.length_append,List.length_cons,List.length_nil];omega) HE3.out.size ?_;intro v4 w4 ho4 hb4))
     have hE4:=HE3.out.trans hb4;have hlist : (ls.take (k + 1)).foldl (zBc js ls j) [] = sv.take q ++ [s0] ++ sv.drop q:=by rw [HST.out,HARS.out,insB_at HALL.out HNB.out]
     have hown : OwnL zAa 2 w4 w.heap.size 59 v4 ((ls.take (k + 1)).foldl (zBc js ls j) []):=by rw [hlist];exact ho4.base_le HB3.out.size
     exact ⟨⟨k + 1,by omega,by go_num,zz hown,zz ⟨HB3.out.trans (hE4.mono HB3.out.size),HWB1.out.belowAll hE4⟩⟩,by simp [intOf];omega⟩
  ·go_wp2;go_ret;have hkn : k = n:=by omega
   subst hkn;refine ⟨_,rfl, ?_,HW.out.1⟩;rw [HR.out];exact HOV.out
end Go.Proofs.YtbbblemfodpmaaaGreat
end
section
namespace Go.Proofs.YtbbblemfodpmaaaGreat
open Go.RowKit
end Go.Proofs.YtbbblemfodpmaaaGreat
end
section
namespace Go.Proofs.YtbbblemfodpmaaaGreat
open Go.RowKit
end Go.Proofs.YtbbblemfodpmaaaGreat
end
