/-The reference's points, Twice, Area.-/
import Derived.Test.YtbbblemfodpmaaaGreatWebHa
import Derived.Test.YtbbblemfodpmaaaGreatWebGj
import Derived.Test.YtbbblemfodpmaaaGreatWebGr
set_option linter.unusedVariables false
set_option linter.unusedSimpArgs false
set_option maxHeartbeats 16000000
set_option maxRecDepth 100000
section
namespace Go.Proofs.YtbbblemfodpmaaaGreat
open Go.RowKit
def ptsA (js : List Joint) (ls : List Lead) (L : List Side) : List Point:=L.map fun s=>ptA js (zAl ls s).1
theorem einfo_PointA : zBU Tryz.prog 80 27 2 16:=⟨Tryz.underlying80,by kernel_rfl⟩
theorem rpoints_any (sj : Sl Joint) (sl : Sl Lead) (a : Option Addr) (c : Nat) (L : List Side) (w : World) (hj : sj.OK 3 zAh zAs (fun _=>False) w) (hl : sl.OK 8 zAd zAA (fun _=>False) w) (V : ValidW sj.val sl.val) (hS : Sl.OK 2 zAa (fun _ _ _=>True) (fun _=>False) w ⟨a,c,L⟩) (hlen : L.length ≤ 800) (hs : ∀ y ∈ L,zAM sl.val y) :
  Calls Tryz.prog 110 #[.agg #[.slice sj.a sj.val.length sj.cap, .slice sl.a sl.val.length sl.cap], .slice a L.length c] w fun e w'=>∃ v,e = .returned v∧OwnL zAb 2 w' w.heap.size 27 v (ptsA sj.val sl.val L)∧Below w.heap.size w w':=by
 have HEN : Hid (∀ y e1 e2,zAM sl.val y→zAl sl.val y = (e1,e2)→Det 123 #[.agg #[.slice sj.a sj.val.length sj.cap, .slice sl.a sl.val.length sl.cap], .agg (zAa y)] (.tuple #[.int .i64 e1, .int .i64 e2]) w):=zz fun y e1 e2 hy he=>by have h:=zEy sj sl y w hl (V.side_ok hy).1;rw [he] at h;exact h
 have HAT : Hid (∀ y e1 e2 p,zAM sl.val y→zAl sl.val y = (e1,e2)→ptA sj.val e1 = p→Det 135 #[.agg #[.slice sj.a sj.val.length sj.cap, .slice sl.a sl.val.length sl.cap], .int .i64 e1] (.agg (zAb p)) w):=zz fun y e1 e2 p hy he hp=>by
  have h:=zDo sj sl e1 w hj (by have:=(V.side_ok hy).2.1;rw [he] at this;exact this);rw [hp] at h;exact h
 have HSS:=zz hs;have HSL:=zz hS;obtain ⟨HB0,HWB⟩:=zP1 w #[.slice sj.a sj.val.length sj.cap, .slice sl.a sl.val.length sl.cap] 25;obtain ⟨js,hjs⟩ : ∃ js,sj.val = js:=⟨_,rfl⟩
 obtain ⟨ls,hls⟩ : ∃ ls,sl.val = ls:=⟨_,rfl⟩
 obtain ⟨nj,hnj⟩ : ∃ n,js.length = n:=⟨_,rfl⟩
 obtain ⟨nl,hnl⟩ : ∃ n,ls.length = n:=⟨_,rfl⟩
 obtain ⟨aj,haj⟩ : ∃ a,sj.a = a:=⟨_,rfl⟩
 obtain ⟨al,hal⟩ : ∃ a,sl.a = a:=⟨_,rfl⟩
 obtain ⟨cj,hcj⟩ : ∃ c,sj.cap = c:=⟨_,rfl⟩
 obtain ⟨cl,hcl⟩ : ∃ c,sl.cap = c:=⟨_,rfl⟩
 simp only [hjs,hls,hnj,hnl,haj,hal,hcj,hcl] at HEN HAT HSS HB0 HWB ⊢;clear hjs hls hnj hnl haj hal hcj hcl V hs hS hj hl;obtain ⟨n,hn⟩ : ∃ n,L.length = n:=⟨_,rfl⟩
 have HN:=zz hn;simp only [hn] at hlen ⊢;clear hn;go_enter Tryz.func110,Tryz.ntmps110;go_wp2
 go_loopw [5,6] (fun v i wr=>∃ k : Nat,k ≤ n∧i = .int .i64 k∧Hid (OwnL zAb 2 wr (w.heap.size + 1) 27 v (ptsA js ls (L.take k)))∧Hid (Below w.heap.size w wr∧zAe wr w.heap.size 25 #[.slice aj nj cj, .slice al nl cl])) (fun _ i _=>n - (intOf i).toNat)
 case atStart=>exact ⟨0,Nat.zero_le _,rfl,zz (OwnL.nil _ _ _ _ _),zz ⟨HB0.out,HWB.out⟩⟩
 case round=>
  obtain ⟨k,hk,rfl,HOV,HW⟩:=hrel
  by_cases hlt : k < n
  ·obtain ⟨y,hy⟩ : ∃ y,L[k]? = some y:=⟨_,List.getElem?_eq_getElem (by rw [HN.out];exact hlt)⟩
   obtain ⟨bb,o,e,hc⟩:=HSL.out.elemAt (fun _=>rfl) hy;simp only at e;subst e;have HY:=zz hy;have HYS:=zz (HSS.out y (List.mem_of_getElem? hy));replace HB0:=zz HW.out.1;have HWB:=zz HW.out.2;have HYC : Hid (∀ W,Below wr.drew.heap.size wr.drew W→∀ j,j < (zAa y).size→W.cell? ⟨bb,o + k * 2 + j,none⟩ = (zAa y)[j]?):=zz fun W hW=>hc W (HB0.out.drew.trans (hW.mono HB0.out.drew.size));obtain ⟨e1,e2,he⟩ : ∃ e1 e2,zAl ls y = (e1,e2):=⟨_,_,rfl⟩
   have HE:=zz he;obtain ⟨p,hp⟩ : ∃ p,ptA js e1 = p:=⟨_,rfl⟩
   have HP:=zz hp;have HST : Hid (ptsA js ls (L.take (k + 1)) = ptsA js ls (L.take k) ++ [p]):=zz (by rw [List.take_add_one,hy,← hp];unfold ptsA;simp [he]);have HLK : Hid ((ptsA js ls (L.take k)).length ≤ 800):=zz (by unfold ptsA;rw [List.length_map,List.length_take,HN.out];omega);clear hc hy hp he HW
   go_upto_region 5 with (fail)
   refine rgD [0,1,2,3,4,5,6,7,8,9,10] [] (fun _=>(0,#[])) [] ?_;refine zAi (v:=_) rfl rfl (fun W hW=>zAc _ (HWB.out.drew.belowAll hW) rfl (zAg _) zuC) ?_;simp only [pT];iterate 3 (refine wD rfl ?_;simp only [pT])
   refine zAi (v:=.agg (zAa y)) rfl rfl (fun W hW=>zAE (zAa y) (HYC.out W hW) rfl zuA) ?_;simp only [pT];refine zAO _ _ _ rfl rfl (fun W=>by go_simp;try with_reducible rfl) ((HEN.out y e1 e2 HYS.out HE.out).moved HB0.out.drew) ?_;simp only [pT];iterate 5 (refine wD rfl ?_;simp only [pT])
   intro f W1 HW1 h1 h2;simp only [zAP];clear h1 h2 f;refine zAt [16,17,18,19,20,21,15,22,23,8] fun u=>?_;simp only [zAu,pT];simp only [wpS];replace HOV:=zz (HOV.out.belowAll ((Below.refl _ _).drew.trans HW1));replace HB0:=zz (HB0.out.drew.trans (HW1.mono HB0.out.drew.size));replace HWB:=zz (HWB.out.drew.belowAll HW1);clear HW1;have HAL : Hid (Below W1.heap.size W1 (W1.alloc (.cells (zAb p) 27))):=zz ((Below.refl _ _).alloc (Nat.le_refl _) _);have HATY:=zz ((HAT.out y e1 e2 p HYS.out HE.out HP.out).moved HB0.out);clear HAT HEN
   go_wp2_with (first
    | (refine zLd 25 HWB.out #[.slice aj nj cj, .slice al nl cl] zuC ?_)
    | (go_at_call 135;refine (HATY.out _ (Below.refl _ _)).mono ?_;rintro e w1 ⟨rfl,hb1⟩;replace HOV:=zz (HOV.out.belowAll hb1);replace HWB:=zz (HWB.out.belowAll hb1);replace HB0:=hTr HB0 hb1;clear hb1)
    | ((with_reducible refine zAm 29 ?_);refine zAU rfl _ _ 80 rfl (w.heap.size + 1) einfo_PointA (fun _=>rfl) (by decide) zAD (by decide) u5 _ rfl (HOV.out.belowAll ((Below.refl _ _).alloc (Nat.le_refl _) _)) w1.heap.size 0 1 p rfl (fun j hj=>by rw [Nat.zero_add];exact (zAe.new w1 27 (zAb p)).cell j) (by have:=HLK.out;omega) (Nat.le_trans HWB.out.lt (by rw [World.size_alloc];omega)) ?_;intro v2 w4 ho2 hg2 hob2))
   have hW4 : Below (w.heap.size + 1) w1 w4:=(((Below.refl w1.heap.size w1).alloc (Nat.le_refl _) (.cells (zAb p) 27)).mono HWB.out.lt).trans (Below.appended (HOV.out.belowAll ((Below.refl _ _).alloc (Nat.le_refl _) _)) hg2 (Nat.le_refl _) (Nat.le_trans HWB.out.lt (by rw [World.size_alloc];omega)));exact ⟨⟨k + 1,by omega,by go_num,zz (by rw [HST.out];exact ho2),zz ⟨HB0.out.trans (hW4.mono (by omega)),HWB.out.below hW4 (by omega)⟩⟩,by simp [intOf];omega⟩
  ·go_wp2;go_ret;have hkn : k = n:=by omega
   subst hkn;refine ⟨_,rfl, ?_,HW.out.1⟩;have h:=HOV.out;rw [List.take_of_length_le (by rw [HN.out];exact Nat.le_refl _)] at h;exact h.base_le (by omega)
def tw1 (l : List Point) (i : Nat) : Int:=((l[i]?).getD zAF).x * ((l[(i + 1) % l.length]?).getD zAF).y - ((l[i]?).getD zAF).y * ((l[(i + 1) % l.length]?).getD zAF).x
def twN (l : List Point) : Nat→Int
 | 0=>0
 | k + 1=>twN l k + tw1 l k
theorem tw1_small {l : List Point} (h : ∀ p ∈ l,zAy p) (i : Nat) : -33554432 ≤ tw1 l i∧tw1 l i ≤ 33554432:=by
 have hz : zAy zAF:=by unfold zAy zAF;decide
 have hs : ∀ j : Nat,zAy ((l[j]?).getD zAF):=fun j=>by
  cases e : l[j]? with
  | none=>exact hz
  | some p=>exact h p (List.mem_of_getElem? e)
 obtain ⟨a1,a2,a3,a4⟩:=hs i;obtain ⟨b1,b2,b3,b4⟩:=hs ((i + 1) % l.length);unfold tw1;generalize (l[i]?).getD zAF = p at *;generalize (l[(i + 1) % l.length]?).getD zAF = q at *;obtain ⟨p0,q0⟩:=zBt (x:=p.x) (y:=q.y) (by omega) (by omega) (by omega) (by omega);obtain ⟨p1,q1⟩:=zBt (x:=p.y) (y:=q.x) (by omega) (by omega) (by omega) (by omega);omega
theorem twN_small {l : List Point} (h : ∀ p ∈ l,zAy p) : ∀ k : Nat, -33554432 * (k : Int) ≤ twN l k∧twN l k ≤ 33554432 * (k : Int)
 | 0=>by simp [twN]
 | k + 1=>by
  have:=twN_small h k;have:=tw1_small h k;simp only [twN];omega
theorem rTwice_det (a : Option Addr) (c : Nat) (L : List Point) (w : World) (hS : Sl.OK 2 zAb (fun _ _ _=>True) (fun _=>False) w ⟨a,c,L⟩) (hlen : L.length ≤ 800) (hsm : ∀ p ∈ L,zAy p) :
  Det 109 #[.slice a L.length c] (.int .i64 (twN L L.length)) w:=fun w0 hw0=>by
 have HSL:=zz (hS.up hw0);have HB0 : Hid (Below w0.heap.size w0 w0):=zz (Below.refl _ _);clear hS hw0 w;obtain ⟨w,rfl⟩ : ∃ w,w = w0:=⟨_,rfl⟩
 have HSM:=zz hsm;have HTS:=zz (twN_small hsm);have HT1:=zz (tw1_small hsm);obtain ⟨n,hn⟩ : ∃ n,L.length = n:=⟨_,rfl⟩
 have HN:=zz hn;simp only [hn] at hlen ⊢;clear hn hsm;obtain ⟨f,hf⟩ : ∃ f : Nat→Int,twN L = f:=⟨_,rfl⟩
 have HF:=zz hf;simp only [hf] at HTS ⊢;clear hf;go_enter Tryz.func109,Tryz.ntmps109;go_wp2
 go_loopw [3,4] (fun v i wr=>∃ k : Nat,k ≤ n∧i = .int .i64 k∧v = .int .i64 (f k)∧Hid (Below w.heap.size w wr)) (fun _ i _=>n - (intOf i).toNat)
 case atStart=>exact ⟨0,Nat.zero_le _,rfl,by rw [← HF.out];rfl,HB0⟩
 case round=>
  obtain ⟨k,hk,rfl,rfl,HWR⟩:=hrel
  by_cases hlt : k < n
  ·obtain ⟨p,hp⟩ : ∃ y,L[k]? = some y:=⟨_,List.getElem?_eq_getElem (by rw [HN.out];exact hlt)⟩
   obtain ⟨bb,o,e,hc⟩:=HSL.out.elemAt (fun _=>rfl) hp;simp only at e;subst e;obtain ⟨m,hm⟩ : ∃ m,(k + 1) % n = m:=⟨_,rfl⟩
   have hmn : m < n:=by rw [← hm];exact Nat.mod_lt _ (by omega)
   obtain ⟨q,hq⟩ : ∃ y,L[m]? = some y:=⟨_,List.getElem?_eq_getElem (by rw [HN.out];exact hmn)⟩
   obtain ⟨b2,o2,e,hc2⟩:=HSL.out.elemAt (fun _=>rfl) hq;simp only [Option.some.injEq,Addr.mk.injEq,and_true] at e;obtain ⟨rfl,rfl⟩:=e;have HPC : Hid (∀ W,Below wr.heap.size wr W→∀ j,j < (zAb p).size→W.cell? ⟨bb,o + k * 2 + j,none⟩ = (zAb p)[j]?):=zz fun W hW=>hc W (HWR.out.trans (hW.mono HWR.out.size));have HQC : Hid (∀ W,Below wr.heap.size wr W→∀ j,j < (zAb q).size→W.cell? ⟨bb,o + m * 2 + j,none⟩ = (zAb q)[j]?):=zz fun W hW=>hc2 W (HWR.out.trans (hW.mono HWR.out.size));obtain ⟨t,ht⟩ : ∃ t,p.x * q.y - p.y * q.x = t:=⟨_,rfl⟩
   have htw : tw1 L k = t:=by unfold tw1;rw [HN.out,hm,hp,hq,← ht];rfl
   have hTT : f k + t = f (k + 1):=by rw [← HF.out,← htw];rfl
   obtain ⟨T,hT⟩ : ∃ T,f (k + 1) = T:=⟨_,rfl⟩
   have K0 : Hid (IntKind.i64.wrap ((k : Int) + 1) = ((k + 1 : Nat) : Int)):=zz (by rw [IntWalk.i64_in _ (by omega)];omega);have K3 : Hid (((k : Int) + 1).tmod (n : Int) = (m : Int)):=zz (by rw [← hm];rfl);have K5 : Hid (¬ n = 0):=zz (by omega);obtain ⟨a1,a2,a3,a4⟩:=HSM.out p (List.mem_of_getElem? hp);obtain ⟨b1,b2,b3,b4⟩:=HSM.out q (List.mem_of_getElem? hq);obtain ⟨p0,q0⟩:=zBt (x:=p.x) (y:=q.y) (by omega) (by omega) (by omega) (by omega);obtain ⟨p1,q1⟩:=zBt (x:=p.y) (y:=q.x) (by omega) (by omega) (by omega) (by omega);have hfs:=HTS.out (k + 1);have K1 : Hid (IntKind.i64.wrap (p.x * q.y) = p.x * q.y):=zz (IntWalk.i64_in _ (by omega));have K2 : Hid (IntKind.i64.wrap (p.y * q.x) = p.y * q.x):=zz (IntWalk.i64_in _ (by omega));have KS : Hid (IntKind.i64.wrap (p.x * q.y - p.y * q.x) = t):=zz (by rw [IntWalk.i64_in _ (by omega),ht]);have KT : Hid (IntKind.i64.wrap (f k + t) = T):=zz (by rw [hTT,IntWalk.i64_in _ (by omega),hT]);have HT:=zz hT;clear hc hc2 hm hp hq ht htw hTT hT a1 a2 a3 a4 b1 b3 b4 p0 q0 p1 q1 hfs HSL HSM HT1 HTS HF;replace HB0:=HWR
   go_upto_region 5 with (fail)
   refine rgQ [0,1,2,3] [4,5] ?_;iterate 3 (refine wD rfl ?_;simp only [pT])
   refine zAi (v:=.agg (zAb p)) rfl rfl (fun W hW=>zAE (zAb p) (HPC.out W hW) rfl zuB) ?_;simp only [pT];intro W1 HW1;refine zA1 [13,14,15] fun u=>?_;simp only [zAu,pT];refine zCU (T := 27) (cs:=#[.int .i64 0, .int .i64 0]) rfl (by kernel_rfl) ?_;simp only [zBh,pT];have hfb:=zAe.new W1 27 #[.int .i64 0, .int .i64 0];have HW3:=HW1.trans (((Below.refl W1.heap.size W1).alloc (Nat.le_refl _) (.cells #[.int .i64 0, .int .i64 0] 27)).mono HW1.size);have hfl:=HW1.size;obtain ⟨jp,hj⟩ : ∃ j,W1.heap.size = j:=⟨_,rfl⟩
   rw [hj] at hfb hfl;simp only [hj];refine zBN hfb rfl rfl (.agg (zAb p)) rfl (by kernel_rfl) (by rfl) (zAD _) fun W2 hb2 ht2=>?_;have HBP:=zz (hb2.eqv (cs':=zAb p) (by simp [zAx,zAb,Value.cells]));have HW2:=HW3.trans (ht2.below hfl);refine zBe ?_;clear hb2 ht2 hfl hfb HW1 HW3 hj W1;have HW2K:=zz HW2;replace HB0:=hTr HB0 HW2;clear HW2
   go_upto_region 6 with (fail)
   refine rgQ [0,1,2,3,4,5,6,7] [8,9] ?_;iterate 2 (refine wD rfl ?_;simp only [pT])
   refine zAi (v:=.int .i64 (((k + 1 : Nat)) : Int)) rfl rfl (fun W hW=>by go_simp;try exact K0.out) ?_;simp only [pT];iterate 2 (refine wD rfl ?_;simp only [pT])
   refine zAi (v:=.int .i64 (m : Int)) rfl rfl (fun W hW=>by go_simp;rw [if_neg K5.out,K3.out]) ?_;simp only [pT];refine zAi (v:=.pointer (some ⟨bb,o + m * 2,none⟩)) rfl rfl (fun W hW=>by go_simp) ?_;simp only [pT];refine zAi (v:=.agg (zAb q)) rfl rfl (fun W hW=>zAE (zAb q) (HQC.out W (HW2K.out.trans (hW.mono HW2K.out.size))) rfl zuB) ?_;simp only [pT];intro W1 HW1;refine zA1 [17,18,19,20,21,22,23] fun u=>?_;simp only [zAu,pT];refine zCU (T := 27) (cs:=#[.int .i64 0, .int .i64 0]) rfl (by kernel_rfl) ?_;simp only [zBh,pT];have hfb:=zAe.new W1 27 #[.int .i64 0, .int .i64 0];have HW3:=HW1.trans (((Below.refl W1.heap.size W1).alloc (Nat.le_refl _) (.cells #[.int .i64 0, .int .i64 0] 27)).mono HW1.size);have hfl:=HW1.size;obtain ⟨jq,hj⟩ : ∃ j,W1.heap.size = j:=⟨_,rfl⟩
   rw [hj] at hfb hfl;simp only [hj];refine zBN hfb rfl rfl (.agg (zAb q)) rfl (by kernel_rfl) (by rfl) (zAD _) fun W3 hb2 ht2=>?_;have HBQ:=zz (hb2.eqv (cs':=zAb q) (by simp [zAx,zAb,Value.cells]));have HW2:=HW3.trans (ht2.below hfl);refine zBe ?_;clear hb2 ht2 hfl hfb HW1 HW3 hj W1;replace HB0:=hTr HB0 HW2;replace HBP:=zz (HBP.out.belowAll HW2);clear HW2;clear HPC HQC HW2K K0 K3 K5
   go_upto_region 7 with (fail)
   refine rgQ [0,1,2,3,4,5,6,7,8,9,10,11,12,13] [] ?_;iterate 2 (refine wD rfl ?_;simp only [pT])
   refine zAi (v:=_) rfl rfl (fun W hW=>by have e:=(HBP.out.belowAll hW).cell;go_simp;with_reducible rfl) ?_;simp only [pT]
   (refine wD rfl ?_;simp only [pT])
   refine zAi (v:=_) rfl rfl (fun W hW=>by have e:=(HBQ.out.belowAll hW).cell;go_simp;with_reducible rfl) ?_;simp only [pT];refine zAi (v:=.int .i64 (p.x * q.y)) rfl rfl (fun W hW=>by have e:=(HBP.out.belowAll hW).cell;have e2:=(HBQ.out.belowAll hW).cell;go_simp;exact K1.out) ?_;simp only [pT]
   (refine wD rfl ?_;simp only [pT])
   refine zAi (v:=_) rfl rfl (fun W hW=>by have e:=(HBP.out.belowAll hW).cell;go_simp;with_reducible rfl) ?_;simp only [pT]
   (refine wD rfl ?_;simp only [pT])
   refine zAi (v:=_) rfl rfl (fun W hW=>by have e:=(HBQ.out.belowAll hW).cell;go_simp;with_reducible rfl) ?_;simp only [pT];refine zAi (v:=.int .i64 (p.y * q.x)) rfl rfl (fun W hW=>by go_simp;exact K2.out) ?_;simp only [pT];refine zAi (v:=.int .i64 t) rfl rfl (fun W hW=>by go_simp;exact KS.out) ?_;simp only [pT];refine zAi (v:=.int .i64 T) rfl rfl (fun W hW=>by go_simp;exact KT.out) ?_;simp only [pT]
   (refine wD rfl ?_;simp only [pT])
   intro W1 HW1;refine zA1 [25,26,27,28,29,30,31,32,33,34,35,36,37] fun u=>?_;simp only [zAu,pT];refine zBe ?_;have HBW : Hid (Below w.heap.size w W1):=zz (HB0.out.trans (HW1.mono HB0.out.size));clear HW1;go_wp2;go_roundw
   case rel=>exact ⟨k + 1,by omega,by go_num,by rw [HT.out],HBW⟩
   case measure=>simp [intOf];omega
  ·have hkn : k = n:=by omega
   subst hkn;go_wp2;go_ret;exact ⟨rfl,HWR.out⟩
end Go.Proofs.YtbbblemfodpmaaaGreat
end
section
namespace Go.Proofs.YtbbblemfodpmaaaGreat
open Go.RowKit
theorem zGj {js : List Joint} {ls : List Lead} (V : ValidW js ls) {s : Side} (hs : zAM ls s) : ∀ k : Nat,k ≤ (zAH js ls s).length→twN (ptsA js ls (zAH js ls s)) k = zBd js ls ((zAH js ls s).take k)
 | 0,_=>by simp [twN,zBd]
 | k + 1,hk=>by
  have ih:=zGj V hs k (by omega);obtain ⟨y,hy⟩ : ∃ y,(zAH js ls s)[k]? = some y:=⟨_,List.getElem?_eq_getElem (by omega)⟩
  have h1:=V.walk_step hs hy;have hys:=(V.walk_next hs (List.mem_of_getElem? hy)).1;have h2:=(V.next hys).2.1;rw [area_take hy];simp only [twN,ih]
  congr 1
  unfold tw1 zDh;have hl : (ptsA js ls (zAH js ls s)).length = (zAH js ls s).length:=by unfold ptsA;simp
  rw [hl];have e1 : (ptsA js ls (zAH js ls s))[k]? = some (ptA js (zAl ls y).1):=by unfold ptsA;rw [List.getElem?_map,hy];rfl
  have e2 : (ptsA js ls (zAH js ls s))[(k + 1) % (zAH js ls s).length]? = some (ptA js (zAl ls y).2):=by unfold ptsA;rw [List.getElem?_map,h1];simp only [Option.map_some,h2]
  rw [e1,e2];simp only [Option.getD_some];rw [Int.mul_comm (ptA js (zAl ls y).1).y]
theorem twice_areaA {js : List Joint} {ls : List Lead} (V : ValidW js ls) {s : Side} (hs : zAM ls s) : twN (ptsA js ls (zAH js ls s)) (ptsA js ls (zAH js ls s)).length = zBd js ls (zAH js ls s):=by
 have hl : (ptsA js ls (zAH js ls s)).length = (zAH js ls s).length:=by unfold ptsA;simp
 rw [hl,zGj V hs _ (Nat.le_refl _),List.take_of_length_le (Nat.le_refl _)]
end Go.Proofs.YtbbblemfodpmaaaGreat
end
section
namespace Go.Proofs.YtbbblemfodpmaaaGreat
open Go.RowKit
theorem rhas_det (a : Option Addr) (c : Nat) (L : List Side) (s : Side) (w : World) (hS : Sl.OK 2 zAa (fun _ _ _=>True) (fun _=>False) w ⟨a,c,L⟩) (hlen : L.length ≤ 800) :
  Det 160 #[.slice a L.length c, .agg (zAa s)] (.bool (L.contains s)) w:=fun w0 hw0=>by
 have HSL:=zz (hS.up hw0);clear hS hw0 w;obtain ⟨w,rfl⟩ : ∃ w,w = w0:=⟨_,rfl⟩
 obtain ⟨HB0,HSB⟩:=zP1 w (zAa s) 59;obtain ⟨n,hn⟩ : ∃ n,L.length = n:=⟨_,rfl⟩
 have HN:=zz hn;simp only [hn] at hlen ⊢;clear hn;obtain ⟨R,hR⟩ : ∃ R,L.contains s = R:=⟨_,rfl⟩
 have HR:=zz hR;rw [hR];clear hR;go_enter Tryz.func160,Tryz.ntmps160;go_wp2
 go_loopw [5] (fun i wr=>∃ k : Nat,k ≤ n∧i = .int .i64 k∧Hid ((L.take k).contains s = false)∧Hid (Below w.heap.size w wr∧zAe wr w.heap.size 59 (zAa s))) (fun i _=>n - (intOf i).toNat)
 case atStart=>exact ⟨0,Nat.zero_le _,rfl,zz (by simp),zz ⟨HB0.out,HSB.out⟩⟩
 case round=>
  obtain ⟨k,hk,rfl,HNO,HW⟩:=hrel
  by_cases hlt : k < n
  ·obtain ⟨y,hy⟩ : ∃ y,L[k]? = some y:=⟨_,List.getElem?_eq_getElem (by rw [HN.out];exact hlt)⟩
   obtain ⟨bb,o,e,hc⟩:=HSL.out.elemAt (fun _=>rfl) hy;simp only at e;subst e;replace HB0:=zz HW.out.1;have HSB:=zz HW.out.2;have HYC : Hid (∀ W,Below wr.drew.heap.size wr.drew W→∀ j,j < (zAa y).size→W.cell? ⟨bb,o + k * 2 + j,none⟩ = (zAa y)[j]?):=zz fun W hW=>hc W (HB0.out.drew.trans (hW.mono HB0.out.drew.size));have HST : Hid ((L.take (k + 1)).contains s = ((L.take k).contains s || (s == y))):=zz (by rw [List.take_add_one,hy];simp [List.contains_eq_any_beq];rfl);have HIN:=zz (List.mem_of_getElem? hy);obtain ⟨b,hb⟩ : ∃ b,zBp y s = b:=⟨_,rfl⟩
   have HEQ:=zz hb;clear hc hy hb HW
   go_upto_region 4 with (fail)
   refine rgD [0,1,2,3,4,5] [] (fun _=>(0,#[])) [] ?_;iterate 3 (refine wD rfl ?_;simp only [pT])
   refine zAi (v:=.agg (zAa y)) rfl rfl (fun W hW=>zAE (zAa y) (HYC.out W hW) rfl zuA) ?_;simp only [pT];refine zAi (v:=_) rfl rfl (fun W hW=>zAc _ (HSB.out.drew.belowAll hW) rfl (zAg _) zuA) ?_;simp only [pT];refine zAi (v:=.bool b) rfl rfl (fun W hW=>by go_simp;exact HEQ.out) ?_;simp only [pT];intro f W1 HW1 h1 h2;simp only [zAP];clear h1 h2 f;refine zAt [12,13,14,15,16] fun u=>?_;simp only [zAu,pT];simp only [wpS];replace HB0:=zz (HB0.out.drew.trans (HW1.mono HB0.out.drew.size));replace HSB:=zz (HSB.out.drew.belowAll HW1);clear HW1
   cases b
   case true=>
    have hys : y = s:=by simpa [zBp] using HEQ.out
    have HRT : Hid (R = true):=zz (by rw [← HR.out,← hys];simpa using HIN.out);clear hys;go_wp2;go_ret;rw [HRT.out];exact ⟨rfl,HB0.out⟩
   case false=>
    have hys : (s == y) = false:=by have:=HEQ.out;simp [zBp] at this;simpa using fun e : s = y=>this e.symm
    have HNX : Hid ((L.take (k + 1)).contains s = false):=zz (by rw [HST.out,HNO.out,hys];rfl);clear hys;go_wp2;go_roundw
    case rel=>exact ⟨k + 1,by omega,by go_num,HNX,zz ⟨HB0.out,HSB.out⟩⟩
    case measure=>simp [intOf];omega
  ·have hkn : k = n:=by omega
   subst hkn;go_wp2;go_ret;refine ⟨?_,HW.out.1⟩;have h:=HNO.out;rw [List.take_of_length_le (by rw [HN.out];exact Nat.le_refl _)] at h;rw [← HR.out,h]
   rfl
end Go.Proofs.YtbbblemfodpmaaaGreat
end
section
namespace Go.Proofs.YtbbblemfodpmaaaGreat
open Go.RowKit
theorem sides_at : ∀ (ls : List Lead) (k : Nat),k < 2 * ls.length→∃ x,ls[k / 2]? = some x∧(zBz ls)[k]? = some ⟨x.id,k % 2 == 1⟩
 | [],k,h=>by simp at h
 | l :: r,0,_=>⟨l,rfl,rfl⟩
 | l :: r,1,_=>⟨l,rfl,rfl⟩
 | l :: r,k + 2,h=>by
  obtain ⟨x,h1,h2⟩:=sides_at r k (by simp only [List.length_cons] at h;omega);refine ⟨x, ?_, ?_⟩
  ·rw [show (k + 2) / 2 = k / 2 + 1 by omega];simpa using h1
  ·rw [show (k + 2) % 2 = k % 2 by omega];simpa [zBz] using h2
theorem ValidW.walks_fd2 {js : List Joint} {ls : List Lead} (V : ValidW js ls) : ∀ (l : List Side) (acc : List (List Side)),(∀ s ∈ l,zAM ls s)→zC3 js ls acc→zC3 js ls (l.foldl (zA3 js ls) acc)
 | [],_,_,h=>h
 | s :: l,acc,hl,h=>V.walks_fd2 l _ (fun t ht=>hl t (by simp [ht])) (V.walksStep_inv h (hl s (by simp))).1
theorem ValidW.flat_len {js : List Joint} {ls : List Lead} (V : ValidW js ls) {acc : List (List Side)} (h : zC3 js ls acc) : acc.flatten.length ≤ 2 * ls.length:=by
 rw [← zB7 ls];refine zDj h.2 fun x hx=>?_;obtain ⟨l,hl,hxl⟩:=List.mem_flatten.1 hx;obtain ⟨s,hs,rfl⟩:=h.1 l hl;exact zCI.2 (V.walk_next hs hxl).1
def RWI (W : World) (N : Nat) (v sv : Value) (acc : List (List Side)) (fl : List Side) : Prop:=
 ∃ ss : List (Sl Side),OwnL zBV 1 W N 62 v ss∧(∀ s ∈ ss,OwnL zAa 2 W N 59 s.v s.val∧∀ g,sv.ownBlock = some g→s.v.ownBlock ≠ some g)∧ss.map Sl.val = acc∧OwnL zAa 2 W N 59 sv fl
theorem RWI.below {W W' : World} {N : Nat} {v sv : Value} {acc : List (List Side)} {fl : List Side} (h : RWI W N v sv acc fl) (hb : Below W.heap.size W W') : RWI W' N v sv acc fl:=by
 obtain ⟨ss,h1,h2,h3,h4⟩:=h;exact ⟨ss,h1.belowAll hb,fun s hs=>⟨(h2 s hs).1.belowAll hb,(h2 s hs).2⟩,h3,h4.belowAll hb⟩
theorem side_list {W : World} {N N' : Nat} {v u : Value} {ss : List (Sl Side)} {l : List Side} (h : OwnL zBV 1 W N 62 v ss) (k : OwnL zAa 2 W N' 59 u l) {g : Nat} (hg : v.ownBlock = some g) : u.ownBlock ≠ some g:=fun e=>by
 obtain ⟨_,cur,a⟩:=h.cellsAt hg;obtain ⟨_,cur2,b⟩:=k.cellsAt e;rw [a] at b;cases b
theorem RWI.seen {W W1 : World} {N : Nat} {v sv sv' lv : Value} {acc : List (List Side)} {fl l : List Side} (h : RWI W N v sv acc fl) (hl : OwnL zAa 2 W N 59 lv l) (hd : ∀ g,sv.ownBlock = some g→lv.ownBlock ≠ some g)
  (ho : OwnL zAa 2 W1 N 59 sv' (fl ++ l)) (hg : W.grownBy W1 sv.ownBlock) (hob : sv'.ownBlock = sv.ownBlock ∨ sv'.ownBlock = some W.heap.size) :
  RWI W1 N v sv' acc (fl ++ l)∧OwnL zAa 2 W1 N 59 lv l∧∀ g,sv'.ownBlock = some g→lv.ownBlock ≠ some g:=by
 obtain ⟨ss,h1,h2,h3,h4⟩:=h;have hne : ∀ u m,OwnL zAa 2 W N 59 u m→(∀ g,sv.ownBlock = some g→u.ownBlock ≠ some g)→OwnL zAa 2 W1 N 59 u m∧∀ g,sv'.ownBlock = some g→u.ownBlock ≠ some g:=fun u m hu hn=>by
  refine ⟨hu.kept fun g hgu=>hg.block g (hu.block g hgu).2 fun e=>hn g e.symm hgu,fun g hg' hgu=>?_⟩
  rcases hob with e | e
  ·exact hn g (by rw [← e];exact hg') hgu
  ·rw [e] at hg';cases hg';have:=(hu.block _ hgu).2;omega
 refine ⟨⟨ss,h1.kept fun g hgv=>hg.block g (h1.block g hgv).2 fun e=>side_list h1 h4 hgv e.symm,fun s hs=>hne _ _ (h2 s hs).1 (h2 s hs).2,h3,ho⟩,hne _ _ hl hd⟩
theorem RWI.two {W2 W3 : World} {N : Nat} {v v' sv : Value} {ss : List (Sl Side)} {t : Sl Side} {fl : List Side} (h1 : OwnL zBV 1 W2 N 62 v ss) (h2 : ∀ s ∈ ss,OwnL zAa 2 W2 N 59 s.v s.val∧∀ g,sv.ownBlock = some g→s.v.ownBlock ≠ some g)
  (ht : OwnL zAa 2 W2 N 59 t.v t.val) (hd : ∀ g,sv.ownBlock = some g→t.v.ownBlock ≠ some g) (hs : OwnL zAa 2 W2 N 59 sv fl) (ho : OwnL zBV 1 W3 N 62 v' (ss ++ [t])) (hg : W2.grownBy W3 v.ownBlock) : RWI W3 N v' sv (ss.map Sl.val ++ [t.val]) fl:=by
 have key : ∀ u m,OwnL zAa 2 W2 N 59 u m→OwnL zAa 2 W3 N 59 u m:=fun u m hu=>hu.kept fun g hgu=>hg.block g (hu.block g hgu).2 fun e=>side_list h1 hu e.symm hgu;refine ⟨ss ++ [t],ho,fun s hs'=>?_,by simp,key _ _ hs⟩
 rcases List.mem_append.1 hs' with h | h
 ·exact ⟨key _ _ (h2 s h).1,(h2 s h).2⟩
 ·obtain rfl : s = t:=by simpa using h
  exact ⟨key _ _ ht,hd⟩
theorem rwalks_any (sj : Sl Joint) (sl : Sl Lead) (w : World) (hj : sj.OK 3 zAh zAs (fun _=>False) w) (hl : sl.OK 8 zAd zAA (fun _=>False) w) (V : ValidW sj.val sl.val) :
  Calls Tryz.prog 97 #[.agg #[.slice sj.a sj.val.length sj.cap, .slice sl.a sl.val.length sl.cap]] w fun e w'=>∃ v,e = .returned v∧zAW w' w.heap.size v (zBv sj.val sl.val)∧Below w.heap.size w w':=by
 have HWK : Hid (∀ s W,zAM sl.val s→Below w.heap.size w W→Calls Tryz.prog 105 #[.agg #[.slice sj.a sj.val.length sj.cap, .slice sl.a sl.val.length sl.cap], .agg (zAa s)] W fun e w'=>∃ v,e = .returned v∧OwnL zAa 2 w' W.heap.size 59 v (zAH sj.val sl.val s)∧Below W.heap.size W w'):=zz fun s W h hW=>rwalk_any sj sl s W (hj.jmoved hW) (hl.lmoved hW) V h;have HV:=zz V;have hnl:=V.nl;have HL:=zz hl;obtain ⟨HB0,HWB⟩:=zP1 w #[.slice sj.a sj.val.length sj.cap, .slice sl.a sl.val.length sl.cap] 25;obtain ⟨js,hjs⟩ : ∃ js,sj.val = js:=⟨_,rfl⟩
 obtain ⟨nj,hnj⟩ : ∃ n,js.length = n:=⟨_,rfl⟩
 obtain ⟨aj,haj⟩ : ∃ a,sj.a = a:=⟨_,rfl⟩
 obtain ⟨cj,hcj⟩ : ∃ c,sj.cap = c:=⟨_,rfl⟩
 obtain ⟨al,cl,ls⟩:=sl;obtain ⟨nl,hnl2⟩ : ∃ n,ls.length = n:=⟨_,rfl⟩
 have HNL:=zz hnl2;simp only [hjs,hnj,haj,hcj,hnl2] at HWK HV HB0 HWB hnl ⊢;clear hjs hnj haj hcj hnl2 V hj hl;have HLN : Hid ((zBz ls).length = 2 * nl):=zz (by rw [zB7,HNL.out]);have HSA : Hid (∀ k,k < 2 * nl→∃ x,ls[k / 2]? = some x∧(zBz ls)[k]? = some ⟨x.id,k % 2 == 1⟩):=zz fun k h=>sides_at ls k (by rw [HNL.out];exact h);obtain ⟨f,hf⟩ : ∃ f : Nat→List (List Side),f = fun k=>((zBz ls).take k).foldl (zA3 js ls) []:=⟨_,rfl⟩
 have HF : Hid (∀ k,f k = ((zBz ls).take k).foldl (zA3 js ls) []):=zz fun k=>by rw [hf]
 have HINV : Hid (∀ k,zC3 js ls (f k)):=zz fun k=>by
  rw [HF.out];exact HV.out.walks_fd2 _ _ (fun s hs=>zCI.1 (List.mem_of_mem_take hs)) ⟨(fun x h=>by cases h),List.nodup_nil⟩
 have HFL : Hid (∀ k,(f k).flatten.length ≤ 800∧(f k).length ≤ k):=zz fun k=>⟨by
  have:=HV.out.flat_len (HINV.out k);rw [HNL.out] at this;omega,by
  rw [HF.out];have:=zDW HV.out ((zBz ls).take k) [];simp only [List.length_nil,List.length_take] at this;omega⟩
 have HEND : Hid (zBv js ls = f (2 * nl)):=zz (by rw [HF.out,List.take_of_length_le (by rw [HLN.out];exact Nat.le_refl _)];rfl);clear hf;rw [HEND.out];go_enter Tryz.func97,Tryz.ntmps97;go_wp2
 go_loopw [3,4,5] (fun v sv i wr=>∃ k : Nat,k ≤ 2 * nl∧i = .int .i64 k∧Hid (RWI wr (w.heap.size + 1) v sv (f k) (f k).flatten)∧Hid (Below w.heap.size w wr∧zAe wr w.heap.size 25 #[.slice aj nj cj, .slice al nl cl])) (fun _ _ i _=>2 * nl - (intOf i).toNat)
 case atStart=>exact ⟨0,Nat.zero_le _,rfl,zz ⟨[],OwnL.nil _ _ _ _ _,by simp,by rw [HF.out];rfl,by rw [HF.out];exact OwnL.nil _ _ _ _ _⟩,zz ⟨HB0.out,HWB.out⟩⟩
 case round=>
  obtain ⟨k,hk,rfl,HI,HW⟩:=hrel;replace HB0:=zz HW.out.1;have HWB:=zz HW.out.2;have KM : Hid (IntKind.i64.wrap (2 * (nl : Int)) = ((2 * nl : Nat) : Int)):=zz (by rw [IntWalk.i64_in _ (by omega)];omega);obtain ⟨q,hq⟩ : ∃ q,decide ((k : Int) < 2 * (nl : Int)) = q:=⟨_,rfl⟩
  have HQ:=zz hq;clear HW hq
  go_upto_region 4 with (fail)
  refine rgQ [0,1,2,3,4,5] [] ?_;iterate 2 (refine wD rfl ?_;simp only [pT])
  refine zAi (v:=_) rfl rfl (fun W hW=>by have e:=(HWB.out.belowAll hW).cell;go_simp;with_reducible rfl) ?_;simp only [pT]
  (refine wD rfl ?_;simp only [pT])
  refine zAi (v:=.int .i64 ((2 * nl : Nat) : Int)) rfl rfl (fun W hW=>by go_simp;try exact KM.out) ?_;simp only [pT];refine zAi (v:=.bool q) rfl rfl (fun W hW=>by go_simp;exact HQ.out) ?_;simp only [pT];intro W1 HW1;refine zA1 [8,9,10,11,12] fun u=>?_;simp only [zAu,pT];refine zBe ?_;replace HI:=zz (HI.out.below HW1);replace HB0:=hTr HB0 HW1;replace HWB:=zz (HWB.out.belowAll HW1);clear HW1
  cases q
  case false=>
   have hkk : k = 2 * nl:=by have:=HQ.out;simp only [decide_eq_false_iff_not] at this;omega
   have HRES : Hid (zAW W1 w.heap.size u3 (f (2 * nl))):=zz (by
    obtain ⟨ss,s1,s2,s3,_⟩:=HI.out;rw [← hkk];exact ⟨ss,s1.base_le (by omega),fun s hs=>(s2 s hs).1.base_le (by omega),s3⟩)
   clear hkk;go_wp2;go_ret;exact ⟨_,rfl,HRES.out,HB0.out⟩
  case true=>
   have hkk : k < 2 * nl:=by have:=HQ.out;simp only [decide_eq_true_eq] at this;omega
   obtain ⟨x,hx,hsx⟩:=HSA.out k hkk;obtain ⟨d,hd⟩ : ∃ d,k / 2 = d:=⟨_,rfl⟩
   obtain ⟨r,hr⟩ : ∃ r,k % 2 = r:=⟨_,rfl⟩
   have hdn : d < nl:=by omega
   have KD : Hid (IntKind.i64.wrap ((k : Int) / 2) = (d : Int)):=zz (by rw [IntWalk.i64_in _ (by omega)];omega);have KR : Hid (((k : Int)).tmod 2 = (r : Int)):=zz (by rw [← hr];rfl);rw [hd] at hx;rw [hr] at hsx;obtain ⟨bb,o,e,hc⟩:=HL.out.elemAt (fun _=>rfl) hx;simp only at e;subst e;obtain ⟨rb,hrb⟩ : ∃ b,((r : Int) == 1) = b:=⟨_,rfl⟩
   have KB:=zz hrb;have hrb2 : (r == 1) = rb:=by rw [← hrb];cases h : (r == 1) <;> simp at h ⊢ <;> omega
   rw [hrb2] at hsx;obtain ⟨t,ht⟩ : ∃ t,(⟨x.id,rb⟩ : Side) = t:=⟨_,rfl⟩
   have KT : Hid ((#[.int .i64 x.id, .bool rb] : Array Value) = zAa t):=zz (by rw [← ht];rfl);rw [ht] at hsx;have HX0 : Hid (∀ W,Below W1.heap.size W1 W→W.cell? ⟨bb,o + d * 8,none⟩ = some (.int .i64 x.id)):=zz fun W hW=>by
    have:=hc W (HB0.out.trans (hW.mono HB0.out.size)) 0 (by show 0 < 8;decide);rw [Nat.add_zero] at this;exact this
   have HTS : Hid (zAM ls t):=zz (zCI.1 (List.mem_of_getElem? hsx));obtain ⟨acc,hacc⟩ : ∃ a,f k = a:=⟨_,rfl⟩
   have HSTEP : Hid (f (k + 1) = zA3 js ls acc t):=zz (by rw [HF.out,List.take_add_one,hsx,List.foldl_append,← HF.out,hacc];rfl);obtain ⟨hfl1,hfl2⟩:=HFL.out k;rw [hacc] at HI hfl1 hfl2;obtain ⟨fl,hfl⟩ : ∃ l,acc.flatten = l:=⟨_,rfl⟩
   have HFLT:=zz hfl;rw [hfl] at HI hfl1;clear hx hsx hd hr hc hrb hrb2 ht hacc hfl
   go_upto_region 6 with (fail)
   refine rgQ [0,1,2,3,4,5,6,7,8,9,10] [11,12] ?_
   (refine wD rfl ?_;simp only [pT])
   refine zAi (v:=_) rfl rfl (fun W hW=>by have e:=(HWB.out.belowAll hW).cell;go_simp;with_reducible rfl) ?_;simp only [pT]
   (refine wD rfl ?_;simp only [pT])
   refine zAi (v:=.int .i64 (d : Int)) rfl rfl (fun W hW=>by go_simp;exact KD.out) ?_;simp only [pT];refine zAi (v:=.pointer (some ⟨bb,o + d * 8,none⟩)) rfl rfl (fun W hW=>by go_simp) ?_;simp only [pT]
   (refine wD rfl ?_;simp only [pT])
   refine zAi (v:=.int .i64 x.id) rfl rfl (fun W hW=>by have e:=HX0.out W hW;go_simp) ?_;simp only [pT]
   (refine wD rfl ?_;simp only [pT])
   refine zAi (v:=.int .i64 (r : Int)) rfl rfl (fun W hW=>by go_simp;try exact KR.out) ?_;simp only [pT];refine zAi (v:=.bool rb) rfl rfl (fun W hW=>by go_simp;exact KB.out) ?_;simp only [pT];refine zAi (v:=.agg (zAa t)) rfl rfl (fun W hW=>by go_simp;exact KT.out) ?_;simp only [pT];intro W1 HW1;refine zA1 [16,17,18,19,20,21,22,23,24,25] fun u=>?_;simp only [zAu,pT];refine zCU (T := 59) (cs:=#[.int .i64 0, .bool false]) rfl (by kernel_rfl) ?_;simp only [zBh,pT];have hfb:=zAe.new W1 59 #[.int .i64 0, .bool false];have HW3:=HW1.trans (((Below.refl W1.heap.size W1).alloc (Nat.le_refl _) (.cells #[.int .i64 0, .bool false] 59)).mono HW1.size);have hfl:=HW1.size;obtain ⟨jt,hj⟩ : ∃ j,W1.heap.size = j:=⟨_,rfl⟩
   rw [hj] at hfb hfl;simp only [hj];refine zBN hfb rfl rfl (.agg (zAa t)) rfl (by kernel_rfl) (by rfl) (zAn _) fun W2 hb2 ht2=>?_;have HTB:=zz (hb2.eqv (cs':=zAa t) (by simp [zAx,zAa,Value.cells]));have HW2:=HW3.trans (ht2.below hfl);refine zBe ?_;clear hb2 ht2 hfl hfb HW1 HW3 hj W1;replace HI:=zz (HI.out.below HW2);replace HB0:=hTr HB0 HW2;replace HWB:=zz (HWB.out.belowAll HW2);clear HW2;clear HX0 KD KR KB KT;obtain ⟨ss0,s1,s2,s3,s4⟩:=HI.out;obtain ⟨so,hso0,hsv,hso,_⟩:=s4.sl (fun _=>rfl) (fun _ _ _=>True) (fun _=>False) (fun _ _=>trivial) (fun _ _ h=>h) (by omega);subst hso0;obtain ⟨sa,sc,sv⟩:=so;simp only at hsv;subst hsv;obtain ⟨c,hc⟩ : ∃ c,sv.contains t = c:=⟨_,rfl⟩
   have HHAS:=zz (rhas_det sa sc sv t W2 hso hfl1);rw [hc] at HHAS;have HSL : Hid (Value.slice sa sv.length sc = Sl.v (⟨sa,sc,sv⟩ : Sl Side)):=zz rfl;have HSC : Hid (zA3 js ls acc t = if c = true then acc else acc ++ [zAH js ls t]):=zz (by unfold zA3;rw [HFLT.out,hc]);simp only [Sl.v] at HI ⊢;clear s1 s2 s3 s4 hso hc HSL
   cases c
   case true=>
    go_wp2_with (first
     | (refine zLd 28 HTB.out (zAa t) zuA ?_)
     | (go_at_call 160;refine (HHAS.out _ (Below.refl _ _)).mono ?_;rintro e w1 ⟨rfl,hb1⟩;replace HI:=zz (HI.out.below hb1);replace HWB:=zz (HWB.out.belowAll hb1);replace HB0:=hTr HB0 hb1;clear hb1))
    go_roundw
    case rel=>exact ⟨k + 1,by omega,by go_num,zz (by rw [HSTEP.out,HSC.out];simp only [if_true,HFLT.out];exact HI.out),zz ⟨HB0.out,HWB.out⟩⟩
    case measure=>simp [intOf];omega
   case false=>
    rw [if_neg (by decide)] at HSC;have hxl:=zDC HV.out HTS.out;have HWT:=zz (fun W=>HWK.out t W HTS.out);obtain ⟨xs,hxs⟩ : ∃ xs,zAH js ls t = xs:=⟨_,rfl⟩
    rw [hxs] at hxl HSC;simp only [hxs] at HWT;clear hxs HWK
    go_upto_region 9 with (first
     | (refine zLd 28 HTB.out (zAa t) zuA ?_)
     | (go_at_call 160;refine (HHAS.out _ (Below.refl _ _)).mono ?_;rintro e w1 ⟨rfl,hb1⟩;replace HI:=zz (HI.out.below hb1);replace HTB:=zz (HTB.out.belowAll hb1);replace HWB:=zz (HWB.out.belowAll hb1);replace HB0:=hTr HB0 hb1;clear hb1)
     | (refine zLd 30 HWB.out #[.slice aj nj cj, .slice (some ⟨bb,o,none⟩) nl cl] zuC ?_)
     | (refine zLd 31 HTB.out (zAa t) zuA ?_)
     | (go_at_call 105;refine (HWT.out _ HB0.out).mono ?_;rintro e w2 ⟨lv,rfl,ho2,hb2⟩))
    have hdj : ∀ g,(Value.slice sa sv.length sc).ownBlock = some g→lv.ownBlock ≠ some g:=fun g h1 h2=>by
     obtain ⟨_,_,_,_,s4⟩:=HI.out;have:=(s4.block g h1).2;have:=(ho2.block g h2).1;omega
    have HDJ:=zz hdj;replace HI:=zz (HI.out.below hb2);have HLV:=zz (ho2.base_le (show w.heap.size + 1 ≤ w1.heap.size from HWB.out.lt));replace HWB:=zz (HWB.out.belowAll hb2);replace HB0:=hTr HB0 hb2;obtain ⟨lo,hlo0,hlv,hlo,_⟩:=ho2.sl (fun _=>rfl) (fun _ _ _=>True) (fun _=>False) (fun _ _=>trivial) (fun _ _ h=>h) (by omega);subst hlo0;obtain ⟨la,lc,lv⟩:=lo;simp only at hlv;subst hlv;have HLO:=zz hlo;have HS4 : Hid (OwnL zAa 2 w2 (w.heap.size + 1) 59 (.slice sa sv.length sc) sv):=zz (by obtain ⟨_,_,_,_,s4⟩:=HI.out;exact s4);have HSZ : Hid (w.heap.size + 1 ≤ w2.heap.size):=zz HWB.out.lt;simp only [Sl.v] at HDJ HLV ⊢;clear hdj ho2 hb2 hlo HTB
    go_upto_region 10 with (first
     | ((with_reducible refine zAm 35 ?_);refine zDN rfl _ _ 62 rfl (w.heap.size + 1) zB3 (fun _=>rfl) (by decide) zAn (by decide) (.slice sa sv.length sc) sv rfl HS4.out ⟨la,lc,lv⟩ rfl HLO.out (by simp only;omega) HSZ.out ?_;intro v3 w3 ho3 hg3 hob3))
    obtain ⟨hI3,hL3,hd3⟩:=RWI.seen HI.out HLV.out HDJ.out ho3 hg3 hob3;have HBB : Hid (Below (w.heap.size + 1) w2 w3):=zz (Below.appended HS4.out hg3 (Nat.le_refl _) HSZ.out);replace HWB:=zz (HWB.out.below HBB.out (by omega));replace HB0:=zz (HB0.out.trans (HBB.out.mono (by omega)));obtain ⟨ss,s1,s2,s3,s4⟩:=hI3;have HBA : Hid (Below w3.heap.size w3 (w3.alloc (.cells #[.slice la lv.length lc] 62))):=zz ((Below.refl _ _).alloc (Nat.le_refl _) _);have S1:=zz (s1.belowAll HBA.out);have S2 : Hid (∀ s ∈ ss,OwnL zAa 2 (w3.alloc (.cells #[.slice la lv.length lc] 62)) (w.heap.size + 1) 59 s.v s.val∧∀ g,v3.ownBlock = some g→s.v.ownBlock ≠ some g):=zz fun s hs=>⟨(s2 s hs).1.belowAll HBA.out,(s2 s hs).2⟩
    have S3:=zz s3;have S4:=zz (s4.belowAll HBA.out);have SL:=zz (hL3.belowAll HBA.out);have SD:=zz hd3;have HLS : Hid (ss.length + 1 ≤ 4294967296):=zz (by
     have h:=congrArg List.length s3;rw [List.length_map] at h;omega)
    have HZ3 : Hid (w.heap.size + 1 ≤ (w3.alloc (.cells #[.slice la lv.length lc] 62)).heap.size):=zz (Nat.le_trans HWB.out.lt HBA.out.size);have HCL : Hid (∀ j,j < 1→(w3.alloc (.cells #[.slice la lv.length lc] 62)).cell? ⟨w3.heap.size,0 + j,none⟩ = (zBV ⟨la,lc,lv⟩)[j]?):=zz fun j hj=>by rw [Nat.zero_add];exact (zAe.new w3 62 #[.slice la lv.length lc]).cell j
    clear s1 s2 s3 s4 hL3 hd3 ho3 hg3 hob3 HI HLV HDJ HS4 HLO HSZ HBB
    go_wp2_with (first
     | ((with_reducible refine zAm 39 ?_);refine zAU rfl _ _ 67 rfl (w.heap.size + 1) zE0 (fun _=>rfl) (by decide) zEt (by decide) u3 ss rfl S1.out w3.heap.size 0 1 ⟨la,lc,lv⟩ rfl HCL.out HLS.out HZ3.out ?_;intro v6 w6 ho6 hg6 hv6))
    have hI6:=RWI.two (t:=⟨la,lc,lv⟩) S1.out S2.out SL.out SD.out S4.out ho6 hg6;have hB6 : Below (w.heap.size + 1) w3 w6:=(HBA.out.mono HWB.out.lt).trans (Below.appended S1.out hg6 (Nat.le_refl _) HZ3.out);rw [S3.out] at hI6;refine ⟨⟨k + 1,by omega,by go_num,zz ?_,zz ⟨HB0.out.trans (hB6.mono (by omega)),HWB.out.below hB6 (by omega)⟩⟩,by simp [intOf];omega⟩;rw [HSTEP.out,HSC.out,List.flatten_append,HFLT.out,List.flatten_cons,List.flatten_nil,List.append_nil];exact hI6
end Go.Proofs.YtbbblemfodpmaaaGreat
end
