/-The reference's reverse, next, side.-/
import Derived.Test.YtbbblemfodpmaaaGreatWebGy
set_option linter.unusedVariables false
set_option linter.unusedSimpArgs false
set_option maxHeartbeats 16000000
set_option maxRecDepth 100000
section
namespace Go.Proofs.YtbbblemfodpmaaaGreat
open Go.RowKit
theorem idx_le : ∀ (l : List Side) (k : Nat) (h : k < l.length),l.idxOf l[k] ≤ k
 | x :: l,0,_=>by simp [List.idxOf_cons]
 | x :: l,k + 1,h=>by
  rw [List.idxOf_cons];have:=idx_le l k (by simpa using h);simp only [List.getElem_cons_succ]
  cases hb : (x == l[k]'(by simpa using h))
  ·simp;omega
  ·simp
theorem rreverse_det (s : Side) (w : World) : Det 164 #[.agg (zAa s)] (.agg (zAa (revA s))) w:=fun w0 hw0=>by
 clear hw0 w;obtain ⟨w,rfl⟩ : ∃ w,w = w0:=⟨_,rfl⟩
 obtain ⟨HB0,HS,HR0⟩:=zP2 w (zAa s) 59 #[.int .i64 0, .bool false] 59;go_enter Tryz.func164,Tryz.ntmps164
 go_upto_region 1 with (fail)
 refine rgQ [0,1,2,3,4,5] [6] ?_
 (refine wD rfl ?_;simp only [pT])
 refine zAi (v:=_) rfl rfl (fun W hW=>by have e:=(HS.out.belowAll hW).cell;go_simp;with_reducible rfl) ?_;simp only [pT]
 (refine wD rfl ?_;simp only [pT])
 refine zAi (v:=_) rfl rfl (fun W hW=>by have e:=(HS.out.belowAll hW).cell;go_simp;with_reducible rfl) ?_;simp only [pT]
 (refine wD rfl ?_;simp only [pT])
 refine zAi (v:=.agg (zAa (revA s))) rfl rfl (fun W hW=>by go_simp;rfl) ?_;simp only [pT];intro W1 HW1;refine zA1 [3,4,5,6,7] fun u=>?_;simp only [zAu,pT];refine zBN (HR0.out.belowAll HW1) rfl rfl (.agg (zAa (revA s))) rfl (by kernel_rfl) (by rfl) (zAn _) fun W2 hb2 ht2=>?_;refine zBe ?_;go_wp2;exact bodyPost_ret (zBs (cs:=zAa (revA s)) (hb2.eqv (by simp [zAx,zAa,Value.cells])) rfl rfl zuA) rfl ⟨rfl,(HB0.out.trans (HW1.mono HB0.out.size)).trans (ht2.below (by omega))⟩
theorem rnext_det (sj : Sl Joint) (sl : Sl Lead) (s : Side) (w : World) (hj : sj.OK 3 zAh zAs (fun _=>False) w) (hl : sl.OK 8 zAd zAA (fun _=>False) w) (V : ValidW sj.val sl.val) (hs : zAM sl.val s) :
  Det 103 #[.agg #[.slice sj.a sj.val.length sj.cap, .slice sl.a sl.val.length sl.cap], .agg (zAa s)] (.agg (zAa (zAV sj.val sl.val s))) w:=fun w0 hw0=>by
 replace hl:=hl.lmoved hw0;replace hj:=hj.jmoved hw0;clear hw0 w;obtain ⟨w,rfl⟩ : ∃ w,w = w0:=⟨_,rfl⟩
 have HE:=zz (zEy sj sl s w hl (V.side_ok hs).1);obtain ⟨e1,h1⟩ : ∃ e,(zAl sl.val s).1 = e:=⟨_,rfl⟩
 obtain ⟨e2,h2⟩ : ∃ e,(zAl sl.val s).2 = e:=⟨_,rfl⟩
 have HA : Hid (∀ W,Below w.heap.size w W→Calls Tryz.prog 98 #[.agg #[.slice sj.a sj.val.length sj.cap, .slice sl.a sl.val.length sl.cap], .int .i64 e2] W fun e w'=>∃ v,e = .returned v∧OwnL zAa 2 w' W.heap.size 59 v (outA sj.val sl.val e2)∧Below W.heap.size W w'):=zz fun W hW=>by
  have:=zGi sj sl e2 W (hj.jmoved hW) (hl.lmoved hW) V
  rwa [V.around_eq] at this
 have hr:=V.rev_out hs;rw [h2] at hr;have hlen : (outA sj.val sl.val e2).length ≤ 800:=by
  have h1:=(zB2 (ltAt sj.val sl.val e2) (zAp e2 sl.val)).length_eq;have h2:=zDV e2 sl.val;have h3:=V.nl;unfold outA;omega
 have hnx : zAV sj.val sl.val s = zDp (outA sj.val sl.val e2) (revA s):=by unfold zAV;rw [h2]
 simp only [h1,h2] at HE;obtain ⟨r,hrv⟩ : ∃ r,revA s = r:=⟨_,rfl⟩
 obtain ⟨l,hll⟩ : ∃ l,outA sj.val sl.val e2 = l:=⟨_,rfl⟩
 have HRV:=zz hrv;have HRD : Hid (∀ W,Det 164 #[.agg (zAa s)] (.agg (zAa r)) W):=zz fun W=>by rw [← hrv];exact rreverse_det s W
 simp only [hrv,hll] at hr hlen hnx HA;have HR:=zz hr;obtain ⟨HB0,HWB,HSB,HR0⟩:=zP3 w #[.slice sj.a sj.val.length sj.cap, .slice sl.a sl.val.length sl.cap] 25 (zAa s) 59 #[.int .i64 0, .bool false] 59;rw [hnx];obtain ⟨nx,hnxv⟩ : ∃ x,zDp l r = x:=⟨_,rfl⟩
 have HNX:=zz hnxv;rw [hnxv];clear hrv hr hll hnx hnxv h1 h2 V hs hj hl;go_enter Tryz.func103,Tryz.ntmps103
 go_upto_region 1 with (fail)
 refine rgQ [0,1,2,3,4,5,6,7] [] ?_;refine zAi (v:=_) rfl rfl (fun W hW=>zAc _ (HWB.out.belowAll hW) rfl (zAg _) zuC) ?_;simp only [pT];refine zAi (v:=_) rfl rfl (fun W hW=>zAc _ (HSB.out.belowAll hW) rfl (zAg _) zuA) ?_;simp only [pT];refine zAO _ _ _ rfl rfl (fun W=>by go_simp;try with_reducible rfl) (HE.out.moved HB0.out) ?_;simp only [pT];iterate 5 (refine wD rfl ?_;simp only [pT])
 intro W1 HW1;refine zA1 [11,12,13,10,14,15,5] fun u=>?_;simp only [zAu,pT];refine zBe ?_;replace HB0:=hTr HB0 HW1;replace HWB:=zz (HWB.out.belowAll HW1);replace HSB:=zz (HSB.out.belowAll HW1);replace HR0:=zz (HR0.out.belowAll HW1);clear HW1
 go_upto_region 3 with (first
  | (refine zLd 16 HWB.out #[.slice sj.a sj.val.length sj.cap, .slice sl.a sl.val.length sl.cap] zuC ?_)
  | (go_at_call 98;refine (HA.out _ HB0.out).mono ?_;rintro e w1 ⟨v,rfl,ho1,hb1⟩;have HO:=zz ho1;replace HSB:=zz (HSB.out.belowAll hb1);replace HR0:=zz (HR0.out.belowAll hb1);replace HB0:=hTr HB0 hb1;clear ho1 hb1))
 clear HA HE HWB;refine rgQ [0,1] [2,3] ?_;refine zAi (v:=_) rfl rfl (fun W hW=>zAc _ (HSB.out.belowAll hW) rfl (zAg _) zuA) ?_;simp only [pT];refine zAO _ _ _ rfl rfl (fun W=>by go_simp;try with_reducible rfl) (HRD.out _) ?_;simp only [pT];intro W1 HW1;refine zA1 [19] fun u=>?_;simp only [zAu,pT];refine zCU (T := 59) (cs:=#[.int .i64 0, .bool false]) rfl (by kernel_rfl) ?_;simp only [zBh,pT];have hfb:=zAe.new W1 59 #[.int .i64 0, .bool false];have HW3:=HW1.trans (((Below.refl W1.heap.size W1).alloc (Nat.le_refl _) (.cells #[.int .i64 0, .bool false] 59)).mono HW1.size);have hfl:=HW1.size;obtain ⟨jr,hj⟩ : ∃ j,W1.heap.size = j:=⟨_,rfl⟩
 rw [hj] at hfb hfl;simp only [hj];refine zBN hfb rfl rfl (.agg (zAa r)) rfl (by kernel_rfl) (by rfl) (zAn _) fun W2 hb2 ht2=>?_;have HRB:=zz (hb2.eqv (cs':=zAa r) (by simp [zAx,zAa,Value.cells]));have HW2:=HW3.trans (ht2.below hfl);refine zBe ?_;clear hb2 ht2 hfl hfb HW1 HW3 hj W1;have HW2K:=HW2;replace HB0:=hTr HB0 HW2;replace HR0:=zz (HR0.out.belowAll HW2);clear HW2;clear HRD HSB;replace HO:=zz (HO.out.belowAll HW2K);clear HW2K;obtain ⟨so,rfl,hsv,hso,_⟩:=HO.out.sl (fun _=>rfl) (fun _ _ _=>True) (fun _=>False) (fun _ _=>trivial) (fun _ _ h=>h) (by omega);obtain ⟨sa,sc,sv⟩:=so;simp only at hsv;subst hsv;have HSO:=zz hso;have hpos : 0 < sv.length:=List.length_pos_of_mem HR.out;obtain ⟨i0,hi0⟩ : ∃ i0,i0 = sv.idxOf r:=⟨_,rfl⟩
 have hlt0 : i0 < sv.length:=by rw [hi0];exact List.idxOf_lt_length_of_mem HR.out
 obtain ⟨x0,hx0⟩ : ∃ x,sv[0]? = some x:=⟨_,List.getElem?_eq_getElem hpos⟩
 obtain ⟨bb,o,e,_⟩:=HSO.out.elemAt (fun _=>rfl) hx0;simp only at e;subst e;obtain ⟨n,hn⟩ : ∃ n,sv.length = n:=⟨_,rfl⟩
 have HN:=zz hn;have HI0:=zz hi0;simp only [Sl.v,hn] at hlen hpos hlt0 ⊢;clear hso hx0 hn hi0 HO;have HST : Hid (Below W2.heap.size W2 W2):=zz (Below.refl _ _);go_wp2
 go_loopw [9] (fun i wr=>∃ k : Nat,k ≤ i0∧i = .int .i64 k∧Hid (Below W2.heap.size W2 wr)) (fun i _=>n - (intOf i).toNat)
 case atStart=>exact ⟨0,Nat.zero_le _,rfl,HST⟩
 case round=>
  obtain ⟨k,hk,rfl,HWR⟩:=hrel;have hkn : k < n:=by omega
  obtain ⟨y,hy⟩ : ∃ y,sv[k]? = some y:=⟨_,List.getElem?_eq_getElem (by rw [HN.out];exact hkn)⟩
  obtain ⟨b2,o2,e,hc⟩:=HSO.out.elemAt (fun _=>rfl) hy;simp only [Option.some.injEq,Addr.mk.injEq,and_true] at e;obtain ⟨rfl,rfl⟩:=e;have HYC : Hid (∀ W,Below wr.drew.heap.size wr.drew W→∀ j,j < (zAa y).size→W.cell? ⟨bb,o + k * 2 + j,none⟩ = (zAa y)[j]?):=zz fun W hW=>hc W (HWR.out.drew.trans (hW.mono HWR.out.size));have HRB2:=zz (HRB.out.belowAll HWR.out).drew;have HYK:=zz hy;obtain ⟨b,hb⟩ : ∃ b,zBp y r = b:=⟨_,rfl⟩
  have HEQ:=zz hb;clear hy hc hb
  go_upto_region 7 with (fail)
  refine rgD [0,1,2,3,4,5] [] (fun _=>(0,#[])) [] ?_;iterate 3 (refine wD rfl ?_;simp only [pT])
  refine zAi (v:=.agg (zAa y)) rfl rfl (fun W hW=>zAE (zAa y) (HYC.out W hW) rfl zuA) ?_;simp only [pT];refine zAi (v:=_) rfl rfl (fun W hW=>zAc _ (HRB2.out.belowAll hW) rfl (zAg _) zuA) ?_;simp only [pT];refine zAi (v:=.bool b) rfl rfl (fun W hW=>by go_simp;exact HEQ.out) ?_;simp only [pT];intro f W1 HW1 h1 h2;simp only [zAP];clear h1 h2 f;refine zAt [27,28,29,30,31] fun u=>?_;simp only [zAu,pT];simp only [wpS];have HB3 : Hid (Below W2.heap.size W2 W1):=zz (HWR.out.drew.trans (HW1.mono HWR.out.size));clear HW1 HYC HRB2
  cases b
  case false=>
   have hne : k ≠ i0:=fun e=>by
    have h1:=HYK.out;rw [e,HI0.out,List.getElem?_eq_getElem (by rw [HN.out];rw [HI0.out] at hlt0;exact hlt0),List.getElem_idxOf] at h1;have h2:=HEQ.out;rw [← Option.some.inj h1] at h2;simp [zBp] at h2
   go_wp2;go_roundw
   case rel=>exact ⟨k + 1,by omega,by go_num,HB3⟩
   case measure=>simp [intOf];omega
  case true=>
   have hke : k = i0:=by
    have h2:=HEQ.out;have hyr : y = r:=by simpa [zBp] using h2
    have h3 : sv.idxOf r ≤ k:=by
     have h1:=HYK.out;rw [hyr] at h1;obtain ⟨hlt,he⟩:=List.getElem?_eq_some_iff.1 h1;rw [← he];exact idx_le sv k hlt
    rw [HI0.out];rw [HI0.out] at hk;omega
   have HKE:=zz hke;clear hke;have K1 : Hid (IntKind.i64.wrap ((k : Int) + (n : Int)) = ((k + n : Nat) : Int)):=zz (by rw [IntWalk.i64_in _ (by omega)];omega);obtain ⟨q,hq⟩ : ∃ q,k + n - 1 = q:=⟨_,rfl⟩
   obtain ⟨m,hm⟩ : ∃ m,q % n = m:=⟨_,rfl⟩
   have K2 : Hid (IntKind.i64.wrap ((k : Int) + (n : Int) - 1) = (q : Int)):=zz (by rw [IntWalk.i64_in _ (by omega)];omega);have hmod : m < n:=by rw [← hm];exact Nat.mod_lt _ hpos
   have K3 : Hid ((q : Int).tmod (n : Int) = (m : Int)):=zz (by rw [← hm];rfl);have K5 : Hid (¬ n = 0):=zz (by omega);obtain ⟨z,hz⟩ : ∃ z,sv[m]? = some z:=⟨_,List.getElem?_eq_getElem (by rw [HN.out];exact hmod)⟩
   obtain ⟨b2,o2,e,hc⟩:=HSO.out.elemAt (fun _=>rfl) hz;simp only [Option.some.injEq,Addr.mk.injEq,and_true] at e;obtain ⟨rfl,rfl⟩:=e;have HZC : Hid (∀ W,Below W1.heap.size W1 W→∀ j,j < (zAa z).size→W.cell? ⟨bb,o + m * 2 + j,none⟩ = (zAa z)[j]?):=zz fun W hW=>hc W (HB3.out.trans (hW.mono HB3.out.size));have HNZ : Hid (nx = z):=zz (by
    rw [← HNX.out];unfold zDp;rw [← HI0.out,HN.out,← HKE.out,hq,hm,hz];rfl)
   have HRW:=zz (HR0.out.belowAll HB3.out);clear hz hc
   go_upto_region 8 with (fail)
   refine rgQ [0,1,2,3,4,5,6,7,8,9,10] [11] ?_;iterate 4 (refine wD rfl ?_;simp only [pT])
   refine zAi (v:=.int .i64 ((k + n : Nat) : Int)) rfl rfl (fun W hW=>by go_simp;exact K1.out) ?_;simp only [pT];refine zAi (v:=.int .i64 (q : Int)) rfl rfl (fun W hW=>by go_simp;exact K2.out) ?_;simp only [pT];iterate 2 (refine wD rfl ?_;simp only [pT])
   refine zAi (v:=.int .i64 (m : Int)) rfl rfl (fun W hW=>by go_simp;rw [if_neg K5.out,K3.out]) ?_;simp only [pT];refine zAi (v:=.pointer (some ⟨bb,o + m * 2,none⟩)) rfl rfl (fun W hW=>by go_simp) ?_;simp only [pT];refine zAi (v:=.agg (zAa z)) rfl rfl (fun W hW=>zAE (zAa z) (HZC.out W hW) rfl zuA) ?_;simp only [pT];intro W1 HW1;refine zA1 [33,34,35,36,37,38,39,40,41,42] fun u=>?_;simp only [zAu,pT];refine zBN (HRW.out.belowAll HW1) rfl rfl (.agg (zAa z)) rfl (by kernel_rfl) (by rfl) (zAn _) fun W3 hb3 ht3=>?_;refine zBe ?_;go_wp2;rw [HNZ.out];exact bodyPost_ret (zBs (cs:=zAa z) (hb3.eqv (by simp [zAx,zAa,Value.cells])) rfl rfl zuA) rfl ⟨rfl,(HB0.out.trans ((HB3.out.trans (HW1.mono HB3.out.size)).mono HB0.out.size)).trans (ht3.below (by omega))⟩
end Go.Proofs.YtbbblemfodpmaaaGreat
end
section
namespace Go.Proofs.YtbbblemfodpmaaaGreat
open Go.RowKit
theorem own_lit1 {α : Type} {enc : α→Array Value} {sz : Nat} (w : World) (e : TypeId) (x : α) (hsz : (enc x).size = sz) : OwnL enc sz (w.alloc (.cells (enc x) e)) w.heap.size e (.slice (some ⟨w.heap.size,0,none⟩) 1 1) [x]:=by
 refine ⟨by simp [flat,hsz], .inr ⟨w.heap.size,1,enc x,rfl,Nat.le_refl _, ?_,Nat.le_refl _,by first | omega | simp [hsz] | decide,by first | omega | simp [hsz] | (rw [hsz];omega) | trace_state,by rw [← hsz];simp [flat];exact List.take_of_length_le (by simp)⟩⟩;exact (zAe.new w e (enc x))
theorem zAe.grownO {b : Nat} {o : Option Nat} {w w' : World} {T : TypeId} {cs : Array Value} (hb : zAe w b T cs) (h : w.grownBy w' o) (hn : o ≠ some b) : zAe w' b T cs:=hb.of_block (h.block _ hb.lt (fun e=>hn e.symm))
def lnV : Value→Nat
 | .slice _ n _=>n
 | _=>0
theorem rwalk_any (sj : Sl Joint) (sl : Sl Lead) (s : Side) (w : World) (hj : sj.OK 3 zAh zAs (fun _=>False) w) (hl : sl.OK 8 zAd zAA (fun _=>False) w) (V : ValidW sj.val sl.val) (hs : zAM sl.val s) :
  Calls Tryz.prog 105 #[.agg #[.slice sj.a sj.val.length sj.cap, .slice sl.a sl.val.length sl.cap], .agg (zAa s)] w fun e w'=>∃ v,e = .returned v∧OwnL zAa 2 w' w.heap.size 59 v (zAH sj.val sl.val s)∧Below w.heap.size w w':=by
 have HND : Hid (∀ y z,zAM sl.val y→zAV sj.val sl.val y = z→Det 103 #[.agg #[.slice sj.a sj.val.length sj.cap, .slice sl.a sl.val.length sl.cap], .agg (zAa y)] (.agg (zAa z)) w):=zz fun y z hy hz=>by rw [← hz];exact rnext_det sj sl y w hj hl V hy
 have HV:=zz V;have hlen:=zDC V hs;obtain ⟨t0,ht0⟩ : ∃ t,zAV sj.val sl.val s = t:=⟨_,rfl⟩
 have HS0:=zz hs;have HT0:=zz ht0;have h0 : (zAH sj.val sl.val s)[0]? = some s:=by unfold zAH;rfl
 have HGO : Hid (∀ k y,(zAH sj.val sl.val s)[k]? = some y→zAV sj.val sl.val y ≠ s→k + 1 < (zAH sj.val sl.val s).length∧(zAH sj.val sl.val s)[k + 1]? = some (zAV sj.val sl.val y)):=zz fun k y h1 h2=>V.walk_fwd hs h1 h2;have HEND : Hid (∀ k y,(zAH sj.val sl.val s)[k]? = some y→zAV sj.val sl.val y = s→k + 1 = (zAH sj.val sl.val s).length):=zz fun k y h1 h2=>V.walk_end hs h1 h2;obtain ⟨HB0,HWB,HSB⟩:=zP2 w #[.slice sj.a sj.val.length sj.cap, .slice sl.a sl.val.length sl.cap] 25 (zAa s) 59;obtain ⟨js,hjs⟩ : ∃ js,sj.val = js:=⟨_,rfl⟩
 obtain ⟨ls,hls⟩ : ∃ ls,sl.val = ls:=⟨_,rfl⟩
 obtain ⟨nj,hnj⟩ : ∃ n,js.length = n:=⟨_,rfl⟩
 obtain ⟨nl,hnl⟩ : ∃ n,ls.length = n:=⟨_,rfl⟩
 obtain ⟨aj,haj⟩ : ∃ a,sj.a = a:=⟨_,rfl⟩
 obtain ⟨al,hal⟩ : ∃ a,sl.a = a:=⟨_,rfl⟩
 obtain ⟨cj,hcj⟩ : ∃ c,sj.cap = c:=⟨_,rfl⟩
 obtain ⟨cl,hcl⟩ : ∃ c,sl.cap = c:=⟨_,rfl⟩
 simp only [hjs,hls,hnj,hnl,haj,hal,hcj,hcl] at HND HV hlen HS0 HT0 h0 HGO HEND HB0 HWB HSB ⊢;clear hjs hls hnj hnl haj hal hcj hcl V hs ht0 hj hl;obtain ⟨L,hL⟩ : ∃ L,zAH js ls s = L:=⟨_,rfl⟩
 simp only [hL] at hlen h0 HGO HEND ⊢;have HL0:=zz h0;have hone : L.take 1 = [s]:=by rw [List.take_add_one,h0];rfl
 have HONE:=zz hone;clear hone;clear hL h0;go_enter Tryz.func105,Tryz.ntmps105
 go_upto_region 2 with (first
  | (refine zLd 7 HSB.out (zAa s) zuA ?_))
 obtain ⟨w1,hw1⟩ : ∃ x,x = ((w.alloc (.cells #[.slice aj nj cj, .slice al nl cl] 25)).alloc (.cells (zAa s) 59)):=⟨_,rfl⟩
 rw [← hw1] at HB0 HWB HSB ⊢;have HO : Hid (OwnL zAa 2 (w1.alloc (.cells (zAa s) 59)) (w.heap.size + 2) 59 (.slice (some ⟨w1.heap.size,0,none⟩) 1 1) [s]):=zz ((own_lit1 (enc:=zAa) w1 59 s rfl).base_le (by rw [hw1];simp));have hs1 : w1.heap.size = w.heap.size + 1 + 1:=by rw [hw1];simp only [World.size_alloc]
 rw [hs1] at HO;clear hw1;have hb1 : Below w1.heap.size w1 (w1.alloc (.cells (zAa s) 59)):=(Below.refl _ _).alloc (Nat.le_refl _) _;have hs2 : (w1.alloc (.cells (zAa s) 59)).heap.size = w.heap.size + 3:=by rw [World.size_alloc,hs1]
 change Code.wp _ _ _ _ (w1.alloc (.cells (zAa s) 59))
 obtain ⟨w2,hw2⟩ : ∃ x,w1.alloc (.cells (zAa s) 59) = x:=⟨_,rfl⟩
 rw [hw2] at HO hb1 hs2 ⊢;replace HB0:=hTr HB0 hb1;replace HWB:=zz (HWB.out.belowAll hb1);replace HSB:=zz (HSB.out.belowAll hb1);clear hb1;clear hw2 hs1;have HLE:=zz (Nat.le_of_eq hs2.symm);clear hs2;refine rgQ [0,1,2] [3,4] ?_;refine zAi (v:=_) rfl rfl (fun W hW=>zAc _ (HWB.out.belowAll hW) rfl (zAg _) zuC) ?_;simp only [pT];refine zAi (v:=_) rfl rfl (fun W hW=>zAc _ (HSB.out.belowAll hW) rfl (zAg _) zuA) ?_;simp only [pT];refine zAO _ _ _ rfl rfl (fun W=>by go_simp;try with_reducible rfl) ((HND.out s t0 HS0.out HT0.out).moved HB0.out) ?_;simp only [pT];intro W1 HW1;refine zA1 [9,10] fun u=>?_;simp only [zAu,pT];refine zCU (T := 59) (cs:=#[.int .i64 0, .bool false]) rfl (by kernel_rfl) ?_;simp only [zBh,pT];have hfb:=zAe.new W1 59 #[.int .i64 0, .bool false];have HW3:=HW1.trans (((Below.refl W1.heap.size W1).alloc (Nat.le_refl _) (.cells #[.int .i64 0, .bool false] 59)).mono HW1.size);have hfl:=HW1.size;obtain ⟨jt,hj⟩ : ∃ j,W1.heap.size = j:=⟨_,rfl⟩
 rw [hj] at hfb hfl;simp only [hj];refine zBN hfb rfl rfl (.agg (zAa t0)) rfl (by kernel_rfl) (by rfl) (zAn _) fun W2 hb2 ht2=>?_;have HTB:=zz (hb2.eqv (cs':=zAa t0) (by simp [zAx,zAa,Value.cells]));have HW2:=HW3.trans (ht2.below hfl);refine zBe ?_;have HJT:=zz hfl;clear hb2 ht2 hfl hfb HW1 HW3 hj W1;have HW2K:=HW2;replace HB0:=hTr HB0 HW2;replace HWB:=zz (HWB.out.belowAll HW2);replace HSB:=zz (HSB.out.belowAll HW2);clear HW2;have HJ : Hid (w.heap.size + 3 ≤ jt):=zz (Nat.le_trans HLE.out HJT.out);replace HO:=zz (HO.out.belowAll HW2K);clear HLE HJT HW2K;have HSZ : Hid (∀ wr,Below w.heap.size w wr→zAe wr (w.heap.size + 1) 59 (zAa s)→w.heap.size + 2 ≤ wr.heap.size):=zz fun wr _ h=>h.lt;go_wp2
 go_loopw [5,6] (fun v p wr=>∃ (k : Nat) (y t : Side) (b : Nat),p = .pointer (some ⟨b,0,none⟩)∧Hid (L[k]? = some y∧zAM ls y∧zAV js ls y = t)∧Hid (OwnL zAa 2 wr (w.heap.size + 2) 59 v (L.take (k + 1)))∧Hid (zAe wr b 59 (zAa t)∧v.ownBlock ≠ some b∧w.heap.size + 3 ≤ b)∧Hid (Below w.heap.size w wr∧zAe wr w.heap.size 25 #[.slice aj nj cj, .slice al nl cl]∧zAe wr (w.heap.size + 1) 59 (zAa s))) (fun v _ _=>1000 - lnV v)
 case atStart=>exact ⟨0,s,t0,jt,rfl,zz ⟨HL0.out,HS0.out,HT0.out⟩,zz (by rw [HONE.out];exact HO.out),zz ⟨HTB.out,by simp [Value.ownBlock];have:=HJ.out;omega,HJ.out⟩,zz ⟨HB0.out,HWB.out,HSB.out⟩⟩
 case round=>
  obtain ⟨k,y,t,b,rfl,HY,HOV,HT,HW⟩:=hrel;have HTB:=zz HT.out.1;have HWB:=zz HW.out.2.1;have HSB:=zz HW.out.2.2;replace HB0:=zz HW.out.1;have HNE:=zz HT.out.2;obtain ⟨q,hq⟩ : ∃ q,zBp t s = !q:=⟨!zBp t s,by simp⟩
  have HQ:=zz hq;clear HT HW hq
  go_upto_region 3 with (fail)
  refine rgQ [0,1,2] [] ?_;refine zAi (v:=_) rfl rfl (fun W hW=>zAc _ (HTB.out.belowAll hW) rfl (zAg _) zuA) ?_;simp only [pT];refine zAi (v:=_) rfl rfl (fun W hW=>zAc _ (HSB.out.belowAll hW) rfl (zAg _) zuA) ?_;simp only [pT];refine zAi (v:=.bool q) rfl rfl (fun W hW=>by go_simp;exact HQ.out) ?_;simp only [pT];intro W1 HW1;refine zA1 [12,13] fun u=>?_;simp only [zAu,pT];refine zBe ?_;have HW1K:=zz HW1;replace HOV:=zz (HOV.out.belowAll HW1);replace HB0:=hTr HB0 HW1;replace HWB:=zz (HWB.out.belowAll HW1);replace HSB:=zz (HSB.out.belowAll HW1);replace HTB:=zz (HTB.out.belowAll HW1);clear HW1
  cases q
  case false=>
   have hts : t = s:=by have:=HQ.out;simpa [zBp] using this
   have hk:=HEND.out k y HY.out.1 (by rw [HY.out.2.2,hts]);have HFIN : Hid (OwnL zAa 2 W1 w.heap.size 59 u5 L):=zz (by have h:=HOV.out;rw [List.take_of_length_le (by omega)] at h;exact h.base_le (by omega));clear hts hk;go_wp2;go_ret;exact ⟨_,rfl,HFIN.out,HB0.out⟩
  case true=>
   have hts : t ≠ s:=by
    intro h;have:=HQ.out;rw [h] at this;simp [zBp] at this
   obtain ⟨hk,hk1⟩:=HGO.out k y HY.out.1 (by rw [HY.out.2.2];exact hts);rw [HY.out.2.2] at hk1;have HK1:=zz hk1;clear hts hk1;have HLN : Hid (lnV u5 = k + 1):=zz (by
    obtain ⟨a1,c1,e⟩:=HOV.out.shape;rw [e];simp only [lnV,List.length_take];omega)
   have HAL : Hid (Below W1.heap.size W1 (W1.alloc (.cells (zAa t) 59))):=zz ((Below.refl _ _).alloc (Nat.le_refl _) _)
   go_upto_region 7 with (first
    | (refine zLd 19 HTB.out (zAa t) zuA ?_)
    | ((with_reducible refine zAm 21 ?_);refine zAU rfl _ _ 62 rfl (w.heap.size + 2) zB3 (fun _=>rfl) (by decide) zAn (by decide) u5 (L.take (k + 1)) rfl (HOV.out.belowAll HAL.out) W1.heap.size 0 1 t rfl (fun j hj=>by rw [Nat.zero_add];exact (zAe.new W1 59 (zAa t)).cell j) (by simp only [List.length_take];omega) (Nat.le_trans (HSZ.out _ HB0.out HSB.out) HAL.out.size) ?_;intro v2 w4 ho2 hg2 hob2;have HTB4:=zz (zAe.grownO (HTB.out.belowAll HAL.out) hg2 HNE.out.1))
    | (refine zLd 22 HTB4.out (zAa t) zuA ?_))
   simp only [pT];have HN4 : Hid (Below (w.heap.size + 2) W1 w4):=zz ((HAL.out.mono (HSZ.out _ HB0.out HSB.out)).trans (Below.appended (HOV.out.belowAll HAL.out) hg2 (Nat.le_refl _) (Nat.le_trans (HSZ.out _ HB0.out HSB.out) HAL.out.size)));replace HWB:=zz (HWB.out.below HN4.out (by omega));replace HSB:=zz (HSB.out.below HN4.out (by omega));replace HB0:=zz (HB0.out.trans (HN4.out.mono (by omega)));replace HOV:=zz ho2;have HTS : Hid (zAM ls t):=zz (by rw [← HY.out.2.2];exact (HV.out.next HY.out.2.1).1);have HTK : Hid (L.take (k + 1) ++ [t] = L.take (k + 1 + 1)):=zz (by rw [List.take_add_one (i:=k + 1),HK1.out];rfl);rw [HTK.out] at HOV;obtain ⟨z,hz⟩ : ∃ z,zAV js ls t = z:=⟨_,rfl⟩
   have HZ:=zz hz;have HS4 : Hid (w.heap.size + 3 ≤ w4.heap.size):=zz (by have:=HTB4.out.lt;have:=HNE.out.2;omega);clear hz HN4 ho2 hg2 hob2 HAL HTB HTB4 HNE HTK HW1K;refine rgQ [] [0,1] ?_;intro W1 HW1;refine zCU (T := 59) (cs:=#[.int .i64 0, .bool false]) rfl (by kernel_rfl) ?_;simp only [zBh,pT];have hfb:=zAe.new W1 59 #[.int .i64 0, .bool false];have HW3:=HW1.trans (((Below.refl W1.heap.size W1).alloc (Nat.le_refl _) (.cells #[.int .i64 0, .bool false] 59)).mono HW1.size);have hfl:=HW1.size;obtain ⟨jb,hj⟩ : ∃ j,W1.heap.size = j:=⟨_,rfl⟩
   rw [hj] at hfb hfl;simp only [hj];refine zBN hfb rfl rfl (.agg (zAa t)) rfl (by kernel_rfl) (by rfl) (zAn _) fun W5 hb2 ht2=>?_;have HTB:=zz (hb2.eqv (cs':=zAa t) (by simp [zAx,zAa,Value.cells]));have HW2:=HW3.trans (ht2.below hfl);refine zBe ?_;have HJN:=zz hfl;clear hb2 ht2 hfl hfb HW1 HW3 hj W1;have HNJ : Hid (v2.ownBlock ≠ some jb∧w.heap.size + 3 ≤ jb):=zz ⟨fun h=>by have:=(HOV.out.block _ h).2;have:=HJN.out;omega,by have:=HS4.out;have:=HJN.out;omega⟩;replace HOV:=zz (HOV.out.belowAll HW2);replace HB0:=hTr HB0 HW2;replace HWB:=zz (HWB.out.belowAll HW2);replace HSB:=zz (HSB.out.belowAll HW2);clear HW2
   go_upto_region 4 with (fail)
   refine rgQ [0,1,2] [3] ?_;refine zAi (v:=_) rfl rfl (fun W hW=>zAc _ (HWB.out.belowAll hW) rfl (zAg _) zuC) ?_;simp only [pT];refine zAi (v:=_) rfl rfl (fun W hW=>zAc _ (HTB.out.belowAll hW) rfl (zAg _) zuA) ?_;simp only [pT];refine zAO _ _ _ rfl rfl (fun W=>by go_simp;try with_reducible rfl) ((HND.out t z HTS.out HZ.out).moved HB0.out) ?_;simp only [pT];intro W1 HW1;refine zA1 [15,16] fun u=>?_;simp only [zAu,pT];refine zBN (HTB.out.belowAll HW1) rfl rfl (.agg (zAa z)) rfl (by kernel_rfl) (by rfl) (zAn _) fun W6 hb3 ht3=>?_;refine zBe ?_;have HTZ : Hid (zAe W6 jb 59 (zAa z)):=zz (hb3.eqv (by simp [zAx,zAa,Value.cells]));have HOF : Hid (OwnL zAa 2 W6 (w.heap.size + 2) 59 v2 (L.take (k + 1 + 1))):=zz ((HOV.out.belowAll HW1).turn ht3 HNJ.out.1);have HWF : Hid (Below w.heap.size w W6∧zAe W6 w.heap.size 25 #[.slice aj nj cj, .slice al nl cl]∧zAe W6 (w.heap.size + 1) 59 (zAa s)):=zz ⟨(HB0.out.trans (HW1.mono HB0.out.size)).trans (ht3.below (by have:=HNJ.out.2;omega)),(HWB.out.belowAll HW1).turn ht3 (by have:=HNJ.out.2;omega),(HSB.out.belowAll HW1).turn ht3 (by have:=HNJ.out.2;omega)⟩;have HM1 : Hid (lnV v2 = k + 1 + 1):=zz (by
    obtain ⟨a1,c1,e⟩:=HOF.out.shape;rw [e];simp only [lnV,List.length_take];omega)
   have HM0 : Hid (lnV u5 = k + 1):=HLN;clear hb3 ht3 HW1 HOV HWB HSB HB0 HTB;go_wp2;go_roundw
   case rel=>exact ⟨k + 1,t,z,jb,rfl,zz ⟨HK1.out,HTS.out,HZ.out⟩,HOF,zz ⟨HTZ.out,HNJ.out⟩,HWF⟩
   case measure=>rw [HM1.out,HM0.out];omega
end Go.Proofs.YtbbblemfodpmaaaGreat
end
section
namespace Go.Proofs.YtbbblemfodpmaaaGreat
open Go.RowKit
end Go.Proofs.YtbbblemfodpmaaaGreat
end
