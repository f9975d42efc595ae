/-The reference's badMeeting: what cmA says.-/
import Derived.Test.YtbbblemfodpmaaaGreatWebGw
import Derived.Test.YtbbblemfodpmaaaGreatWebGc
set_option linter.unusedVariables false
set_option linter.unusedSimpArgs false
set_option maxHeartbeats 16000000
set_option maxRecDepth 100000
section
namespace Go.Proofs.YtbbblemfodpmaaaGreat
open Go.RowKit
theorem Sl.OK.elemAt {α : Type} {sz : Nat} {e : α→Array Value} {ok : (Nat→Prop)→World→α→Prop} {w : World} {s : Sl α} (h : Sl.OK sz e ok (fun _=>False) w s) (hs : ∀ x,(e x).size = sz) {i : Nat} {x : α} (hi : s.val[i]? = some x) :
  ∃ b o,s.a = some ⟨b,o,none⟩∧∀ W,Below w.heap.size w W→∀ j,j < (e x).size→W.cell? ⟨b,o + i * sz + j,none⟩ = (e x)[j]?:=by
 obtain ⟨b,o,h1,h2,_,_,h3⟩:=h.at hi;exact ⟨b,o,h1,fun W hW j hj=>(hW.cell (p:=⟨b,o + i * sz + j,none⟩) h2).trans (h3 j (by rwa [hs] at hj))⟩
theorem rmeets_det (sj : Sl Joint) (sl : Sl Lead) (l o : Lead) (w : World) (hj : sj.OK 3 zAh zAs (fun _=>False) w) (hsp : ∀ id,zAy (ptA sj.val id)) (h1 : (atA sj.val l.a).isSome = true) (h2 : (atA sj.val l.b).isSome = true) (h3 : (atA sj.val o.a).isSome = true) (h4 : (atA sj.val o.b).isSome = true) :
  Det 151 #[.agg #[.slice sj.a sj.val.length sj.cap, .slice sl.a sl.val.length sl.cap], .agg (zAd l), .agg (zAd o)] (.bool (zDf sj.val l o)) w:=fun W hW=>rmeets_any sj sl l o W (hj.jmoved hW) hsp h1 h2 h3 h4
def touchB (js : List Joint) (l : Lead) (j : Joint) : Bool:=j.id != l.a && j.id != l.b && onP (ptA js l.a) (ptA js l.b) j.at_
theorem touch_any (js : List Joint) (l : Lead) : zDb js l = js.any (touchB js l):=rfl
theorem any_take {α : Type} {p : α→Bool} {l : List α} {q : Nat} {y : α} (hy : l[q]? = some y) : (l.take (q + 1)).any p = ((l.take q).any p || p y):=by
 rw [List.take_add_one,hy,List.any_append];simp
theorem any_hit {α : Type} {p : α→Bool} {l : List α} {q : Nat} {y : α} (hy : l[q]? = some y) (h : p y = true) : l.any p = true:=List.any_eq_true.2 ⟨y,List.mem_of_getElem? hy,h⟩
theorem any_hitT {α : Type} {p : α→Bool} {l : List α} {q k : Nat} {y : α} (hq : q < k) (hy : l[q]? = some y) (h : p y = true) : (l.take k).any p = true:=any_hit (q:=q) (by rw [List.getElem?_take_of_lt hq];exact hy) h
theorem zGs (sj : Sl Joint) (sl : Sl Lead) (w : World) (hj : sj.OK 3 zAh zAs (fun _=>False) w) (hl : sl.OK 8 zAd zAA (fun _=>False) w) (V : ValidJL sj.val sl.val) :
  Calls Tryz.prog 85 #[.agg #[.slice sj.a sj.val.length sj.cap, .slice sl.a sl.val.length sl.cap]] w fun e w'=>e = .returned (.tuple #[.int .i64 (cmA sj.val [] sl.val).2, .bool (decide ((cmA sj.val [] sl.val).1 ≠ 0))])∧Below w.heap.size w w':=by
 have hsp : ∀ id,zAy (ptA sj.val id):=zEp fun j hm=>(V.jok j hm).2;have HSP:=zz hsp;have HV:=zz V;have HPT : Hid (∀ id,(atA sj.val id).isSome = true→Det 135 #[.agg #[.slice sj.a sj.val.length sj.cap, .slice sl.a sl.val.length sl.cap], .int .i64 id] (.agg (zAb (ptA sj.val id))) w):=zz fun id h=>zDo sj sl id w hj h;have HMT : Hid (∀ l o,l ∈ sl.val→o ∈ sl.val→Det 151 #[.agg #[.slice sj.a sj.val.length sj.cap, .slice sl.a sl.val.length sl.cap], .agg (zAd l), .agg (zAd o)] (.bool (zDf sj.val l o)) w):=zz fun l o h1 h2=>by
  obtain ⟨a1,a2,_⟩:=zDa (V.lok l h1);obtain ⟨b1,b2,_⟩:=zDa (V.lok o h2);exact rmeets_det sj sl l o w hj hsp a1 a2 b1 b2
 have hrj:=hj.room;have hrl:=hl.room;have HJ:=zz hj;have HL:=zz hl;have HB0 : Hid (Below w.heap.size w (w.alloc (.cells #[.slice sj.a sj.val.length sj.cap, .slice sl.a sl.val.length sl.cap] 25))):=zz ((Below.refl _ _).alloc (Nat.le_refl _) _);have HX0:=zz (zAe.new w 25 #[.slice sj.a sj.val.length sj.cap, .slice sl.a sl.val.length sl.cap]);clear hsp V hj hl;obtain ⟨aj,cj,js⟩:=sj;obtain ⟨al,cl,ls⟩:=sl;obtain ⟨n,hn⟩ : ∃ n,ls.length = n:=⟨_,rfl⟩
 obtain ⟨nj,hnj⟩ : ∃ n,js.length = n:=⟨_,rfl⟩
 have HN:=zz hn;have HNJ:=zz hnj;simp only [hn,hnj] at hrj hrl HB0 HX0 HPT HMT ⊢;clear hn hnj;obtain ⟨R,hR⟩ : ∃ R,cmA js [] ls = R:=⟨_,rfl⟩
 have HR:=zz hR;simp only [hR];clear hR;go_enter Tryz.func85,Tryz.ntmps85;go_wp2
 go_loopw [4] (fun i wr=>∃ k : Nat,k ≤ n∧i = .int .i64 k∧Hid (R = cmA js (ls.take k) (ls.drop k))∧Hid (Below w.heap.size w wr∧zAe wr w.heap.size 25 #[.slice aj nj cj, .slice al n cl])) (fun i _=>n - (intOf i).toNat)
 case atStart=>exact ⟨0,Nat.zero_le _,rfl,zz HR.out.symm,zz ⟨HB0.out,HX0.out⟩⟩
 case round=>
  obtain ⟨k,hk,rfl,HRK,HW⟩:=hrel;have q0:=(HW.out.2.cell 1).trans (show _ = some (.slice al n cl) from rfl)
  by_cases hlt : k < n
  ·obtain ⟨x,hx⟩ : ∃ x,ls[k]? = some x:=⟨_,List.getElem?_eq_getElem (by rw [HN.out];exact hlt)⟩
   obtain ⟨bb,o,e,hc⟩:=HL.out.elemAt (fun _=>rfl) hx;simp only at e;subst e;have HEX:=zz hc;have HXM:=zz (List.mem_of_getElem? hx);have HXA : Hid ((atA js x.a).isSome = true∧(atA js x.b).isSome = true):=zz (by have:=zDa (HV.out.lok x HXM.out);exact ⟨this.1,this.2.1⟩);have HRS : Hid (R = if zDb js x || (ls.take k).any (fun m=>zBO js x m || zBH js x m) then (22,x.id) else cmA js (ls.take (k + 1)) (ls.drop (k + 1))):=zz (by have:=cm_step hx (HR.out.trans HRK.out);rwa [HR.out] at this);have HXK:=zz hx;replace HB0:=zz HW.out.1;have HWB:=zz HW.out.2;obtain ⟨pa,hpa⟩ : ∃ p,ptA js x.a = p:=⟨_,rfl⟩
   obtain ⟨pb,hpb⟩ : ∃ p,ptA js x.b = p:=⟨_,rfl⟩
   have HTB : Hid (∀ y : Joint,touchB js x y = (y.id != x.a && y.id != x.b && onR pa pb y.at_)):=zz fun y=>by rw [onR_onP,← hpa,← hpb];rfl
   have HPTa:=zz (HPT.out x.a HXA.out.1);have HPTb:=zz (HPT.out x.b HXA.out.2);rw [hpa] at HPTa;rw [hpb] at HPTb;have HPA0:=zz hpa;have HPB0:=zz hpb;have spa:=HSP.out x.a;have spb:=HSP.out x.b;rw [hpa] at spa;rw [hpb] at spb;clear hc hx HX0 HW hpa hpb
   go_upto_region 4 with (fail)
   refine zBo [0,1,2,3,4] [(5,5)] (fun _=>(31,#[.int .i64 0, .int .i64 0, .int .i64 0, .int .i64 0, .int .i64 0, .int .i64 0, .int .i64 0, .int .i64 0])) [(6,false)] (by kernel_rfl) (fun d _ _ _ _ h=>by cases d <;> exact h) (by intro k hk K a w h;simp only [List.mem_cons,List.not_mem_nil,or_false] at hk;rcases hk with rfl <;> exact zBR _ rfl (by kernel_rfl) h) ?_
   (refine wD rfl ?_;simp only [pT])
   refine zAi (v:=_) rfl rfl (fun W hW=>by have e:=(HWB.out.belowAll hW).cell;go_simp;with_reducible rfl) ?_;simp only [pT];iterate 2 (refine wD rfl ?_;simp only [pT])
   refine zAi (v:=_) rfl rfl (fun W hW=>zAE _ (HEX.out W (HB0.out.trans (hW.mono HB0.out.size))) rfl zuD) ?_;simp only [pT];intro f W1 HW1 hf hi;simp only [zAP,zBh,pT];have hf0:=hf (5,5) (by simp);simp only at hf0;obtain ⟨jx,hj⟩ : ∃ j,f 5 = j:=⟨_,rfl⟩
   simp only [hj] at hf0 ⊢;obtain ⟨hfl,hfb⟩:=hf0;clear hf hi hj f;refine zAt [18,19,20,21] fun u=>?_;simp only [zAu,pT];refine zBG hfb rfl rfl (.agg (zAd x)) rfl (by kernel_rfl) (by rfl) (zA9 _) fun W2 hb2 ht2=>?_;have HX:=zz (hb2.eqv (cs':=zAd x) (by simp [zAx,zAd,Value.cells]));have HW2:=HW1.trans (ht2.below hfl);simp only [wpS];clear hb2 ht2 hfl hfb HW1 W1;replace HB0:=hTr HB0 HW2;replace HWB:=zz (HWB.out.belowAll HW2);clear HW2
   go_upto_region 5 with (fail)
   refine zBo [0,1,2,3] [(4,6)] (fun _=>(27,#[.int .i64 0, .int .i64 0])) [(5,false)] (by kernel_rfl) (fun d _ _ _ _ h=>by cases d <;> exact h) (by intro k hk K a w h;simp only [List.mem_cons,List.not_mem_nil,or_false] at hk;rcases hk with rfl <;> exact zBR _ rfl (by kernel_rfl) h) ?_;refine zAi (v:=_) rfl rfl (fun W hW=>zAc _ (HWB.out.belowAll hW) rfl (zAg _) zuC) ?_;simp only [pT]
   (refine wD rfl ?_;simp only [pT])
   refine zAi (v:=_) rfl rfl (fun W hW=>by have e:=(HX.out.belowAll hW).cell;go_simp;with_reducible rfl) ?_;simp only [pT];refine zAO _ _ _ rfl rfl (fun W=>by go_simp;try with_reducible rfl) (HPTa.out.moved HB0.out) ?_;simp only [pT];intro f W1 HW1 hf hi;simp only [zAP,zBh,pT];have hf0:=hf (4,6) (by simp);simp only at hf0;obtain ⟨ja,hj⟩ : ∃ j,f 4 = j:=⟨_,rfl⟩
   simp only [hj] at hf0 ⊢;obtain ⟨hfl,hfb⟩:=hf0;clear hf hi hj f;refine zAt [23,24,25] fun u=>?_;simp only [zAu,pT];refine zBG hfb rfl rfl (.agg (zAb pa)) rfl (by kernel_rfl) (by rfl) (zAD _) fun W2 hb2 ht2=>?_;have HPA:=zz (hb2.eqv (cs':=zAb pa) (by simp [zAx,zAb,Value.cells]));have HW2:=HW1.trans (ht2.below hfl);simp only [wpS];clear hb2 ht2 hfl hfb HW1 W1;replace HB0:=hTr HB0 HW2;replace HWB:=zz (HWB.out.belowAll HW2);replace HX:=zz (HX.out.belowAll HW2);clear HW2
   go_upto_region 6 with (fail)
   refine zBo [0,1,2,3] [(4,7)] (fun _=>(27,#[.int .i64 0, .int .i64 0])) [(5,false)] (by kernel_rfl) (fun d _ _ _ _ h=>by cases d <;> exact h) (by intro k hk K a w h;simp only [List.mem_cons,List.not_mem_nil,or_false] at hk;rcases hk with rfl <;> exact zBR _ rfl (by kernel_rfl) h) ?_;refine zAi (v:=_) rfl rfl (fun W hW=>zAc _ (HWB.out.belowAll hW) rfl (zAg _) zuC) ?_;simp only [pT]
   (refine wD rfl ?_;simp only [pT])
   refine zAi (v:=_) rfl rfl (fun W hW=>by have e:=(HX.out.belowAll hW).cell;go_simp;with_reducible rfl) ?_;simp only [pT];refine zAO _ _ _ rfl rfl (fun W=>by go_simp;try with_reducible rfl) (HPTb.out.moved HB0.out) ?_;simp only [pT];intro f W1 HW1 hf hi;simp only [zAP,zBh,pT];have hf0:=hf (4,7) (by simp);simp only at hf0;obtain ⟨jb,hj⟩ : ∃ j,f 4 = j:=⟨_,rfl⟩
   simp only [hj] at hf0 ⊢;obtain ⟨hfl,hfb⟩:=hf0;clear hf hi hj f;refine zAt [27,28,29] fun u=>?_;simp only [zAu,pT];refine zBG hfb rfl rfl (.agg (zAb pb)) rfl (by kernel_rfl) (by rfl) (zAD _) fun W2 hb2 ht2=>?_;have HPB:=zz (hb2.eqv (cs':=zAb pb) (by simp [zAx,zAb,Value.cells]));have HW2:=HW1.trans (ht2.below hfl);simp only [wpS];clear hb2 ht2 hfl hfb HW1 W1;replace HB0:=hTr HB0 HW2;replace HWB:=zz (HWB.out.belowAll HW2);replace HX:=zz (HX.out.belowAll HW2);replace HPA:=zz (HPA.out.belowAll HW2);clear HW2;clear HPTa HPTb;have HW4 : Hid (Below w.heap.size w W2∧zAe W2 w.heap.size 25 #[.slice aj nj cj, .slice (some ⟨bb,o,none⟩) n cl]∧zAe W2 jx 31 (zAd x)∧zAe W2 ja 27 (zAb pa)∧zAe W2 jb 27 (zAb pb)):=zz ⟨HB0.out,HWB.out,HX.out,HPA.out,HPB.out⟩;clear HWB HX HPA HPB q0;go_wp2
   go_loopw [8] (fun i wr=>∃ q : Nat,q ≤ nj∧i = .int .i64 q∧Hid ((js.take q).any (touchB js x) = false)∧Hid (Below w.heap.size w wr∧zAe wr w.heap.size 25 #[.slice aj nj cj, .slice (some ⟨bb,o,none⟩) n cl]∧zAe wr jx 31 (zAd x)∧zAe wr ja 27 (zAb pa)∧zAe wr jb 27 (zAb pb))) (fun i _=>nj - (intOf i).toNat)
   case atStart=>exact ⟨0,Nat.zero_le _,rfl,zz (by simp),HW4⟩
   case round=>
    obtain ⟨q,hq,rfl,HTQ,HW5⟩:=hrel;have q1:=(HW5.out.2.1.cell 0).trans (show _ = some (.slice aj nj cj) from rfl);replace HB0:=zz HW5.out.1;have HWB:=zz HW5.out.2.1;have HX:=zz HW5.out.2.2.1;have HPA:=zz HW5.out.2.2.2.1;have HPB:=zz HW5.out.2.2.2.2;clear HW4
    by_cases hqj : q < nj
    ·obtain ⟨y,hy⟩ : ∃ y,js[q]? = some y:=⟨_,List.getElem?_eq_getElem (by rw [HNJ.out];exact hqj)⟩
     obtain ⟨b2,o2,e,hc⟩:=HJ.out.elemAt (fun _=>rfl) hy;simp only at e;subst e;have HEY:=zz hc;have HYQ:=zz hy;have HON : Hid (∀ W,Det 134 #[.agg (zAb pa), .agg (zAb pb), .agg (zAb y.at_)] (.bool (onR pa pb y.at_)) W):=zz fun W=>zCs pa pb y.at_ spa spb (small_of (HV.out.jok y (List.mem_of_getElem? hy)).2) W;have HTY:=zz (HTB.out y);obtain ⟨b1,h1⟩ : ∃ b,(y.id != x.a) = b:=⟨_,rfl⟩
     obtain ⟨b2,h2⟩ : ∃ b,(y.id != x.b) = b:=⟨_,rfl⟩
     obtain ⟨b3,h3⟩ : ∃ b,onR pa pb y.at_ = b:=⟨_,rfl⟩
     simp only [h1,h2,h3] at HTY HON;have E1:=zz h1;have E2:=zz h2;clear hc hy h1 h2 h3 HW5
     go_upto_region 10 with (fail)
     refine zBo [0,1,2,3,4] [(5,9)] (fun _=>(29,#[.int .i64 0, .int .i64 0, .int .i64 0])) [(6,false)] (by kernel_rfl) (fun d _ _ _ _ h=>by cases d <;> exact h) (by intro k hk K a w h;simp only [List.mem_cons,List.not_mem_nil,or_false] at hk;rcases hk with rfl <;> exact zBR _ rfl (by kernel_rfl) h) ?_
     (refine wD rfl ?_;simp only [pT])
     refine zAi (v:=_) rfl rfl (fun W hW=>by have e:=(HWB.out.belowAll hW).cell;go_simp;with_reducible rfl) ?_;simp only [pT];iterate 2 (refine wD rfl ?_;simp only [pT])
     refine zAi (v:=_) rfl rfl (fun W hW=>zAE _ (HEY.out W (HB0.out.trans (hW.mono HB0.out.size))) rfl zuG) ?_;simp only [pT];intro f W1 HW1 hf hi;simp only [zAP,zBh,pT];have hf0:=hf (5,9) (by simp);simp only at hf0;obtain ⟨jy,hj⟩ : ∃ j,f 5 = j:=⟨_,rfl⟩
     simp only [hj] at hf0 ⊢;obtain ⟨hfl,hfb⟩:=hf0;clear hf hi hj f;refine zAt [38,39,40,41] fun u=>?_;simp only [zAu,pT];refine zBG hfb rfl rfl (.agg (zAh y)) rfl (by kernel_rfl) (by rfl) (zBj _) fun W2 hb2 ht2=>?_;have HY:=zz (hb2.eqv (cs':=zAh y) (by simp [zAx,zAh,Value.cells]));have HW2:=HW1.trans (ht2.below hfl);simp only [wpS];clear hb2 ht2 hfl hfb HW1 W1;replace HB0:=hTr HB0 HW2;replace HWB:=zz (HWB.out.belowAll HW2);replace HX:=zz (HX.out.belowAll HW2);replace HPA:=zz (HPA.out.belowAll HW2);replace HPB:=zz (HPB.out.belowAll HW2);clear HW2
     go_upto_region 11 with (fail)
     refine rgR [0,1,2,3,4,5,6,7,8,9,10,11,12,13,14,15,16,17,18] [] (fun _=>(0,#[])) [] ?_
     (refine wD rfl ?_;simp only [pT])
     refine zAi (v:=_) rfl rfl (fun W hW=>by have e:=(HY.out.belowAll hW).cell;go_simp;with_reducible rfl) ?_;simp only [pT]
     (refine wD rfl ?_;simp only [pT])
     refine zAi (v:=_) rfl rfl (fun W hW=>by have e:=(HX.out.belowAll hW).cell;go_simp;with_reducible rfl) ?_;simp only [pT];refine zAi (v:=.bool b1) rfl rfl (fun W hW=>by go_simp;exact E1.out) ?_;simp only [pT]
     (refine wD rfl ?_;simp only [pT])
     (refine wI rfl ?_;simp only [pT])
     refine zAB (v:=_) rfl rfl (fun hg W hW=>by (try simp only [Bool.and_eq_true] at hg);(try simp only [hg,Bool.and_self,zAz]);have e:=(HY.out.belowAll hW).cell;go_simp;with_reducible rfl) ?_;simp only [pT]
     (refine wI rfl ?_;simp only [pT])
     refine zAB (v:=_) rfl rfl (fun hg W hW=>by (try simp only [Bool.and_eq_true] at hg);(try simp only [hg,Bool.and_self,zAz]);have e:=(HX.out.belowAll hW).cell;go_simp;with_reducible rfl) ?_;simp only [pT];refine zAB (v:=.bool b2) rfl rfl (fun hg W hW=>by (try simp only [Bool.and_eq_true] at hg);(try simp only [hg,Bool.and_self,zAz]);go_simp;exact E2.out) ?_;simp only [pT];refine zB1 rfl rfl rfl ?_;simp only [pT]
     (refine wD rfl ?_;simp only [pT])
     refine zAB (v:=_) rfl rfl (fun hg W hW=>zAc _ (HPA.out.belowAll hW) rfl (zAg _) zuB) ?_;simp only [pT];refine zAB (v:=_) rfl rfl (fun hg W hW=>zAc _ (HPB.out.belowAll hW) rfl (zAg _) zuB) ?_;simp only [pT]
     (refine wI rfl ?_;simp only [pT])
     refine zAB (v:=_) rfl rfl (fun hg W hW=>by (try simp only [Bool.and_eq_true] at hg);(try simp only [hg,Bool.and_self,zAz]);exact zAc (zAb y.at_) (HY.out.belowAll hW) rfl (fun j hj=>jpt y j hj) zuB) ?_;simp only [pT];refine zBl _ _ _ rfl rfl (fun hg W=>by go_simp;try with_reducible rfl) (fun hg=>HON.out _) ?_;simp only [pT];refine zB1 rfl rfl rfl ?_;simp only [pT];intro f W1 HW1 h1 h2;simp only [zAP];clear h1 h2 f;refine zAt [43,44,45,46,47,48,49,50,51,52,53,54,55,56,57,58,59,60] fun u=>?_;simp only [zAu,pT];simp only [wpS];replace HB0:=hTr HB0 HW1;replace HWB:=zz (HWB.out.belowAll HW1);replace HX:=zz (HX.out.belowAll HW1);replace HPA:=zz (HPA.out.belowAll HW1);replace HPB:=zz (HPB.out.belowAll HW1);clear HW1;obtain ⟨bt,hbt⟩ : ∃ b,(b1 && b2 && b3) = b:=⟨_,rfl⟩
     simp only [hbt] at HTY ⊢;clear hbt E1 E2 HON
     cases bt
     case true=>
      have qx:=(HX.out.cell 0).trans (show _ = some (.int .i64 x.id) from rfl);have h:=HRS.out;rw [touch_any,any_hit HYQ.out HTY.out,if_pos (by simp)] at h;have HRX:=zz h;clear h;go_wp2;go_ret2;rw [HRX.out];exact ⟨rfl,HB0.out⟩
     case false=>
      go_wp2;go_roundw
      case rel=>exact ⟨q + 1,by omega,by go_num,zz (by rw [any_take HYQ.out,HTQ.out,HTY.out];rfl),zz ⟨HB0.out,HWB.out,HX.out,HPA.out,HPB.out⟩⟩
      case measure=>simp [intOf];omega
    ·have hqe : nj = q:=by omega
     subst hqe;have HTQ : Hid (zDb js x = false):=zz (by have:=HTQ.out;rwa [List.take_of_length_le (by rw [HNJ.out];exact Nat.le_refl _)] at this);have HRS : Hid (R = if (ls.take k).any (fun m=>zBO js x m || zBH js x m) = true then (22,x.id) else cmA js (ls.take (k + 1)) (ls.drop (k + 1))):=zz (by have:=HRS.out;rwa [HTQ.out,Bool.false_or] at this);have HW6 : Hid (Below w.heap.size w wr∧zAe wr w.heap.size 25 #[.slice aj nj cj, .slice (some ⟨bb,o,none⟩) n cl]∧zAe wr jx 31 (zAd x)):=zz ⟨HB0.out,HWB.out,HX.out⟩;clear HW5 HTB HPA HPB HTQ HWB HX;go_wp2
     go_loopw [10] (fun i wr=>∃ q : Nat,q ≤ k∧i = .int .i64 q∧Hid ((ls.take q).any (fun m=>zBO js x m || zBH js x m) = false)∧Hid (Below w.heap.size w wr∧zAe wr w.heap.size 25 #[.slice aj nj cj, .slice (some ⟨bb,o,none⟩) n cl]∧zAe wr jx 31 (zAd x))) (fun i _=>k - (intOf i).toNat)
     case atStart=>exact ⟨0,Nat.zero_le _,rfl,zz (by simp),HW6⟩
     case round=>
      obtain ⟨q,hq,rfl,HTQ,HW7⟩:=hrel;have qz:=(HW7.out.2.1.cell 1).trans (show _ = some (.slice (some ⟨bb,o,none⟩) n cl) from rfl);replace HB0:=zz HW7.out.1;have HWB:=zz HW7.out.2.1;have HX:=zz HW7.out.2.2;clear HW6 HW7
      by_cases hqk : q < k
      ·obtain ⟨z,hz⟩ : ∃ z,ls[q]? = some z:=⟨_,List.getElem?_eq_getElem (by rw [HN.out];omega)⟩
       obtain ⟨b2,o2,e,hc⟩:=HL.out.elemAt (fun _=>rfl) hz;simp only [Option.some.injEq,Addr.mk.injEq,and_true] at e;obtain ⟨rfl,rfl⟩:=e;have HEZ:=zz hc;have HZQ:=zz hz;have hme:=HV.out.meets HXK.out hz hqk;have HME:=zz (HMT.out x z HXM.out (List.mem_of_getElem? hz));rw [hme] at HME;have hqn : q < n:=by omega
       obtain ⟨bt,hbt⟩ : ∃ b,(zBO js x z || zBH js x z) = b:=⟨_,rfl⟩
       simp only [hbt] at HME;have HBT:=zz hbt;clear hc hz hme hbt
       go_upto_region 16 with (fail)
       refine rgD [0,1,2,3,4,5,6,7] [] (fun _=>(0,#[])) [] ?_;refine zAi (v:=_) rfl rfl (fun W hW=>zAc _ (HWB.out.drew.belowAll hW) rfl (zAg _) zuC) ?_;simp only [pT];refine zAi (v:=_) rfl rfl (fun W hW=>zAc _ (HX.out.drew.belowAll hW) rfl (zAg _) zuD) ?_;simp only [pT]
       (refine wD rfl ?_;simp only [pT])
       refine zAi (v:=_) rfl rfl (fun W hW=>by have e:=(HWB.out.drew.belowAll hW).cell;go_simp;with_reducible rfl) ?_;simp only [pT];iterate 2 (refine wD rfl ?_;simp only [pT])
       refine zAi (v:=_) rfl rfl (fun W hW=>zAE _ (HEZ.out W (HB0.out.drew.trans (hW.mono HB0.out.drew.size))) rfl zuD) ?_;simp only [pT];refine zAO _ _ _ rfl rfl (fun W=>by go_simp;try with_reducible rfl) (HME.out.moved HB0.out.drew) ?_;simp only [pT];intro f W1 HW1 h1 h2;simp only [zAP];clear h1 h2 f;refine zAt [69,70,71,72,73,74,75] fun u=>?_;simp only [zAu,pT];simp only [wpS];replace HB0:=zz (HB0.out.drew.trans (HW1.mono HB0.out.drew.size));replace HWB:=zz (HWB.out.drew.belowAll HW1);replace HX:=zz (HX.out.drew.belowAll HW1);clear HW1
       cases bt
       case true=>
        have qx:=(HX.out.cell 0).trans (show _ = some (.int .i64 x.id) from rfl);have h:=HRS.out;rw [any_hitT hqk HZQ.out HBT.out,if_pos rfl] at h;have HRX:=zz h;clear h;go_wp2;go_ret2;rw [HRX.out];exact ⟨rfl,HB0.out⟩
       case false=>
        go_wp2;go_roundw
        case rel=>exact ⟨q + 1,by omega,by go_num,zz (by rw [any_take HZQ.out,HTQ.out,HBT.out];rfl),zz ⟨HB0.out,HWB.out,HX.out⟩⟩
        case measure=>simp [intOf];omega
      ·have hqe : q = k:=by omega
       subst hqe;have HRX : Hid (R = cmA js (ls.take (q + 1)) (ls.drop (q + 1))):=zz (by have h:=HRS.out;rwa [HTQ.out,if_neg (by decide)] at h);go_wp2;go_roundw
       case rel=>exact ⟨q + 1,by omega,by go_num,HRX,zz ⟨HB0.out,HWB.out⟩⟩
       case measure=>simp [intOf];omega
  ·go_wp2;go_ret2;have hkn : k = n:=by omega
   subst hkn;have h:=HRK.out;rw [List.drop_of_length_le (by rw [HN.out];exact Nat.le_refl _)] at h;rw [h];exact ⟨rfl,HW.out.1⟩
end Go.Proofs.YtbbblemfodpmaaaGreat
end
section
namespace Go.Proofs.YtbbblemfodpmaaaGreat
open Go.RowKit
theorem cm_22 (js : List Joint) : ∀ (l acc : List Lead),(cmA js acc l).1 = 22 ∨ cmA js acc l = (0,0)
 | [],_=>.inr rfl
 | x :: l,acc=>by
  unfold cmA
  split
  ·exact .inl rfl
  ·exact cm_22 js l _
theorem zGf (sj : Sl Joint) (sl : Sl Lead) (w : World) (hj : sj.OK 3 zAh zAs (fun _=>False) w) (hl : sl.OK 8 zAd zAA (fun _=>False) w) :
  Calls Tryz.prog 19 #[.agg #[.slice sj.a sj.val.length sj.cap, .slice sl.a sl.val.length sl.cap]] w fun e w'=>e = .returned (.tuple #[.int .i64 (zAK sj.val sl.val).1, .int .i64 (zAK sj.val sl.val).2])∧Below w.heap.size w w':=by
 have HJ : Hid (Det 83 #[.agg #[.slice sj.a sj.val.length sj.cap, .slice sl.a sl.val.length sl.cap]] _ w):=zz fun W hW=>badJoint_any sj sl W (hj.jmoved hW);have HL : Hid (Det 84 #[.agg #[.slice sj.a sj.val.length sj.cap, .slice sl.a sl.val.length sl.cap]] _ w):=zz fun W hW=>badLead_any sj sl W (hj.jmoved hW) (hl.lmoved hW);have HM : Hid ((cjA [] none sj.val).2 = true→(clA sj.val [] none sl.val).2 = true→Det 85 #[.agg #[.slice sj.a sj.val.length sj.cap, .slice sl.a sl.val.length sl.cap]] _ w):=zz fun h1 h2 W hW=>zGs sj sl W (hj.jmoved hW) (hl.lmoved hW) (validJL h1 h2);have HCM:=zz (cm_22 sj.val sl.val []);obtain ⟨HB0,HWB⟩:=zP1 w #[.slice sj.a sj.val.length sj.cap, .slice sl.a sl.val.length sl.cap] 25;have HR : Hid (zAK sj.val sl.val = if (decide ((200 : Int) < (sj.val.length : Int)) || decide ((400 : Int) < (sl.val.length : Int))) = true then (2,0) else if (!(cjA [] none sj.val).2) = true then (20,(cjA [] none sj.val).1) else if (!(clA sj.val [] none sl.val).2) = true then (21,(clA sj.val [] none sl.val).1) else cmA sj.val [] sl.val):=zz (by
  unfold zAK;have e1 : (200 : Int) < (sj.val.length : Int) ↔ 200 < sj.val.length:=by omega
  have e2 : (400 : Int) < (sl.val.length : Int) ↔ 400 < sl.val.length:=by omega
  simp only [Bool.or_eq_true,decide_eq_true_eq,Bool.not_eq_true',e1,e2])
 have hrj:=hj.room;have hrl:=hl.room;clear hj hl;obtain ⟨R,hR⟩ : ∃ R,zAK sj.val sl.val = R:=⟨_,rfl⟩
 obtain ⟨⟨j1,j2⟩,h1⟩ : ∃ R,cjA [] none sj.val = R:=⟨_,rfl⟩
 obtain ⟨⟨l1,l2⟩,h2⟩ : ∃ R,clA sj.val [] none sl.val = R:=⟨_,rfl⟩
 obtain ⟨⟨m1,m2⟩,h3⟩ : ∃ R,cmA sj.val [] sl.val = R:=⟨_,rfl⟩
 obtain ⟨nj,hnj⟩ : ∃ n,sj.val.length = n:=⟨_,rfl⟩
 obtain ⟨nl,hnl⟩ : ∃ n,sl.val.length = n:=⟨_,rfl⟩
 simp only [hR,h1,h2,h3,hnj,hnl] at HJ HL HM HR HWB HB0 HCM hrj hrl ⊢;clear hR h1 h2 h3 hnj hnl;go_enter Tryz.func19,Tryz.ntmps19
 go_upto_region 1 with (fail)
 refine rgR [0,1,2,3,4,5,6,7,8,9] [] (fun _=>(0,#[])) [] ?_
 (refine wD rfl ?_;simp only [pT])
 refine zAi (v:=_) rfl rfl (fun W hW=>by have e:=(HWB.out.belowAll hW).cell;go_simp;with_reducible rfl) ?_;simp only [pT];iterate 3 (refine wD rfl ?_;simp only [pT])
 (refine wI rfl ?_;simp only [pT])
 refine zAB (v:=_) rfl rfl (fun hg W hW=>by (try simp only [Bool.and_eq_true] at hg);(try simp only [hg,Bool.and_self,zAz]);have e:=(HWB.out.belowAll hW).cell;go_simp;with_reducible rfl) ?_;simp only [pT];iterate 2 (refine wI rfl ?_;simp only [pT])
 refine zBX rfl rfl rfl ?_;simp only [pT];intro f W1 HW1 h1 h2;simp only [zAP];clear h1 h2 f;refine zAt [6,7,8,9,10,11,12,13,14] fun u=>?_;simp only [zAu,pT];simp only [wpS];replace HB0:=hTr HB0 HW1;replace HWB:=zz (HWB.out.belowAll HW1);clear HW1;obtain ⟨q,hq⟩ : ∃ q,(decide ((200 : Int) < (nj : Int)) || decide ((400 : Int) < (nl : Int))) = q:=⟨_,rfl⟩
 simp only [hq] at HR ⊢;clear hq
 cases q
 case true=>
  rw [if_pos rfl] at HR;go_wp2;go_ret2;rw [HR.out];exact ⟨rfl,HB0.out⟩
 rw [if_neg (by decide)] at HR
 go_upto_region 3 with (fail)
 refine rgR [0,1,2,3,4,5,6] [] (fun _=>(0,#[])) [] ?_;refine zAi (v:=_) rfl rfl (fun W hW=>zAc _ (HWB.out.belowAll hW) rfl (zAg _) zuC) ?_;simp only [pT];refine zAO _ _ _ rfl rfl (fun W=>by go_simp;try with_reducible rfl) (HJ.out.moved HB0.out) ?_;simp only [pT];iterate 5 (refine wD rfl ?_;simp only [pT])
 intro f W1 HW1 h1 h2;simp only [zAP];clear h1 h2 f;refine zAt [17,18,16,19,20] fun u=>?_;simp only [zAu,pT];simp only [wpS];replace HB0:=hTr HB0 HW1;replace HWB:=zz (HWB.out.belowAll HW1);clear HW1;have hj2 : j2 = true ∨ j2 = false:=by cases j2 <;> simp
 rcases hj2 with rfl | rfl
 case inr=>
  simp only [Bool.not_false,if_true] at HR ⊢;go_wp2;go_ret2;rw [HR.out];exact ⟨rfl,HB0.out⟩
 simp only [Bool.not_true,Bool.false_eq_true,if_false] at HR ⊢
 go_upto_region 6 with (fail)
 refine rgR [0,1,2,3,4,5,6] [] (fun _=>(0,#[])) [] ?_;refine zAi (v:=_) rfl rfl (fun W hW=>zAc _ (HWB.out.belowAll hW) rfl (zAg _) zuC) ?_;simp only [pT];refine zAO _ _ _ rfl rfl (fun W=>by go_simp;try with_reducible rfl) (HL.out.moved HB0.out) ?_;simp only [pT];iterate 5 (refine wD rfl ?_;simp only [pT])
 intro f W1 HW1 h1 h2;simp only [zAP];clear h1 h2 f;refine zAt [24,25,23,26,27] fun u=>?_;simp only [zAu,pT];simp only [wpS];replace HB0:=hTr HB0 HW1;replace HWB:=zz (HWB.out.belowAll HW1);clear HW1;have hl2 : l2 = true ∨ l2 = false:=by cases l2 <;> simp
 rcases hl2 with rfl | rfl
 case inr=>
  simp only [Bool.not_false,if_true] at HR ⊢;go_wp2;go_ret2;rw [HR.out];exact ⟨rfl,HB0.out⟩
 simp only [Bool.not_true,Bool.false_eq_true,if_false] at HR ⊢;have HM:=HM.out rfl rfl
 go_upto_region 9 with (fail)
 refine rgR [0,1,2,3,4,5,6] [] (fun _=>(0,#[])) [] ?_;refine zAi (v:=_) rfl rfl (fun W hW=>zAc _ (HWB.out.belowAll hW) rfl (zAg _) zuC) ?_;simp only [pT];refine zAO _ _ _ rfl rfl (fun W=>by go_simp;try with_reducible rfl) (HM.moved HB0.out) ?_;simp only [pT];iterate 5 (refine wD rfl ?_;simp only [pT])
 intro f W1 HW1 h1 h2;simp only [zAP];clear h1 h2 f;refine zAt [31,32,30,33,34] fun u=>?_;simp only [zAu,pT];simp only [wpS];replace HB0:=hTr HB0 HW1;replace HWB:=zz (HWB.out.belowAll HW1);clear HW1;have hcm:=HCM.out;simp only [Prod.mk.injEq] at hcm
 rcases hcm with rfl | ⟨rfl,rfl⟩
 ·have e : (!decide ((22 : Int) = 0)) = true:=rfl;simp only [e];clear e;go_wp2;go_ret2;rw [HR.out];exact ⟨rfl,HB0.out⟩
 ·have e : (!decide ((0 : Int) = 0)) = false:=rfl;simp only [e];clear e;go_wp2;go_ret2;rw [HR.out];exact ⟨rfl,HB0.out⟩
theorem rvalidw_det (sj : Sl Joint) (sl : Sl Lead) (w : World) (hj : sj.OK 3 zAh zAs (fun _=>False) w) (hl : sl.OK 8 zAd zAA (fun _=>False) w) :
  Det 90 #[.agg #[.slice sj.a sj.val.length sj.cap, .slice sl.a sl.val.length sl.cap]] (.int .i64 (zAK sj.val sl.val).1) w:=fun w0 hw0=>by
 have HC : Hid (Det 19 #[.agg #[.slice sj.a sj.val.length sj.cap, .slice sl.a sl.val.length sl.cap]] _ w0):=zz fun W hW=>zGf sj sl W ((hj.jmoved hw0).jmoved hW) ((hl.lmoved hw0).lmoved hW);clear hj hl hw0 w;obtain ⟨w,rfl⟩ : ∃ w,w = w0:=⟨_,rfl⟩
 obtain ⟨HB0,HWB⟩:=zP1 w #[.slice sj.a sj.val.length sj.cap, .slice sl.a sl.val.length sl.cap] 25;go_enter Tryz.func90,Tryz.ntmps90
 go_upto_region 1 with (fail)
 refine rgR [0,1,2,3,4,5,6] [] (fun _=>(0,#[])) [] ?_;refine zAi (v:=_) rfl rfl (fun W hW=>zAc _ (HWB.out.belowAll hW) rfl (zAg _) zuC) ?_;simp only [pT];refine zAO _ _ _ rfl rfl (fun W=>by go_simp;try with_reducible rfl) (HC.out.moved HB0.out) ?_;simp only [pT];iterate 5 (refine wD rfl ?_;simp only [pT])
 intro f W1 HW1 h1 h2;simp only [zAP];clear h1 h2 f;refine zAt [6,7,5,8,9,4] fun u=>?_;simp only [zAu,pT];simp only [wpS];replace HB0:=hTr HB0 HW1;replace HWB:=zz (HWB.out.belowAll HW1);clear HW1;go_wp2;go_ret;exact ⟨rfl,HB0.out⟩
end Go.Proofs.YtbbblemfodpmaaaGreat
end
section
namespace Go.Proofs.YtbbblemfodpmaaaGreat
open Go.RowKit
theorem idx_find {α : Type} {p : α→Bool} {l : List α} {x : α} (h : l.find? p = some x) : ∃ k : Nat,idxI p l = (k : Int)∧k < l.length∧l[k]? = some x∧p x = true:=by
 have h2:=List.find?_some h;obtain ⟨_,k,hk,e,hno⟩:=List.find?_eq_some_iff_getElem.1 h;have hx : l[k]? = some x:=by rw [List.getElem?_eq_getElem hk,e]
 refine ⟨k,zCg hx (fun j y hj hy=>?_) h2,hk,hx,h2⟩;have hjl:=Nat.lt_trans hj hk;rw [List.getElem?_eq_getElem hjl] at hy
 cases hy;simpa using hno j hj
theorem zGg (sj : Sl Joint) (sl : Sl Lead) (id : Int) (w : World) (h : sj.OK 3 zAh zAs (fun _=>False) w) : Det 121 #[.agg #[.slice sj.a sj.val.length sj.cap, .slice sl.a sl.val.length sl.cap], .int .i64 id] (.int .i64 (idxI (fun x=>decide (x.id = id)) sj.val)) w:=fun W hW=>zE9 sj sl id W (h.jmoved hW)
theorem rlead_det (sj : Sl Joint) (sl : Sl Lead) (id : Int) (w : World) (h : sl.OK 8 zAd zAA (fun _=>False) w) : Det 122 #[.agg #[.slice sj.a sj.val.length sj.cap, .slice sl.a sl.val.length sl.cap], .int .i64 id] (.int .i64 (idxI (fun x=>decide (x.id = id)) sl.val)) w:=fun W hW=>rlead_any sj sl id W (h.lmoved hW)
theorem zEy (sj : Sl Joint) (sl : Sl Lead) (s : Side) (w : World) (hl : sl.OK 8 zAd zAA (fun _=>False) w) (hs : (zBT sl.val s.lead).isSome = true) :
  Det 123 #[.agg #[.slice sj.a sj.val.length sj.cap, .slice sl.a sl.val.length sl.cap], .agg (zAa s)] (.tuple #[.int .i64 (zAl sl.val s).1, .int .i64 (zAl sl.val s).2]) w:=fun w0 hw0=>by
 replace hl:=hl.lmoved hw0;clear hw0 w;obtain ⟨w,rfl⟩ : ∃ w,w = w0:=⟨_,rfl⟩
 obtain ⟨x,hx⟩:=Option.isSome_iff_exists.1 hs;obtain ⟨k,e1,hk,hxk,_⟩:=idx_find hx;have HI:=zz (rlead_det sj sl s.lead w hl);rw [e1] at HI;have HR : Hid (zAl sl.val s = if s.back = true then (x.b,x.a) else (x.a,x.b)):=zz (by unfold zAl;rw [hx];rfl);obtain ⟨bb,o,ha,hc⟩:=hl.elemAt (fun _=>rfl) hxk;have HEX:=zz hc;have hrl:=hl.room;obtain ⟨HB0,HWB,HSB⟩:=zP2 w #[.slice sj.a sj.val.length sj.cap, .slice sl.a sl.val.length sl.cap] 25 (zAa s) 59;obtain ⟨R,hR⟩ : ∃ R,zAl sl.val s = R:=⟨_,rfl⟩
 obtain ⟨al,cl,ls⟩:=sl;simp only at ha;subst ha;obtain ⟨nl,hnl⟩ : ∃ n,ls.length = n:=⟨_,rfl⟩
 obtain ⟨sb,hsb⟩ : ∃ b,s.back = b:=⟨_,rfl⟩
 simp only [hR,hnl,hsb] at HI HR HWB HSB HB0 hk hrl ⊢;have HS:=zz hsb;clear hR hnl e1 hxk hx hs hl hc hsb;go_enter Tryz.func123,Tryz.ntmps123
 go_upto_region 1 with (fail)
 refine zFf [0,1,2,3,4,5,6,7] [(8,6)] (fun _=>(31,#[.int .i64 0, .int .i64 0, .int .i64 0, .int .i64 0, .int .i64 0, .int .i64 0, .int .i64 0, .int .i64 0])) [(9,false)] rfl (by kernel_rfl) (fun d _ _ _ _ h=>by cases d <;> exact h) (by intro k hk K a w h;simp only [List.mem_cons,List.not_mem_nil,or_false] at hk;rcases hk with rfl <;> exact zBR _ rfl (by kernel_rfl) h) ?_
 (refine wD rfl ?_;simp only [pT])
 refine zAi (v:=_) rfl rfl (fun W hW=>by have e:=(HWB.out.drew.belowAll hW).cell;go_simp;with_reducible rfl) ?_;simp only [pT];refine zAi (v:=_) rfl rfl (fun W hW=>zAc _ (HWB.out.drew.belowAll hW) rfl (zAg _) zuC) ?_;simp only [pT]
 (refine wD rfl ?_;simp only [pT])
 refine zAi (v:=_) rfl rfl (fun W hW=>by have e:=(HSB.out.drew.belowAll hW).cell;go_simp;with_reducible rfl) ?_;simp only [pT];refine zAO _ _ _ rfl rfl (fun W=>by go_simp;try with_reducible rfl) (HI.out.moved HB0.out.drew) ?_;simp only [pT]
 (refine wD rfl ?_;simp only [pT])
 refine zAi (v:=_) rfl rfl (fun W hW=>zAE _ (HEX.out W (HB0.out.drew.trans (hW.mono HB0.out.drew.size))) rfl zuD) ?_;simp only [pT];intro f W1 HW1 hf hi;simp only [zAP,zBh,pT];have hf0:=hf (8,6) (by simp);simp only at hf0;obtain ⟨jx,hj⟩ : ∃ j,f 8 = j:=⟨_,rfl⟩
 simp only [hj] at hf0 ⊢;obtain ⟨hfl,hfb⟩:=hf0;clear hf hi hj f;refine zAt [7,8,9,10,11,12,13] fun u=>?_;simp only [zAu,pT];refine zBG hfb rfl rfl (.agg (zAd x)) rfl (by kernel_rfl) (by rfl) (zA9 _) fun W2 hb2 ht2=>?_;have HX:=zz (hb2.eqv (cs':=zAd x) (by simp [zAx,zAd,Value.cells]));have HW2:=HW1.trans (ht2.below hfl);simp only [wpS];clear hb2 ht2 hfl hfb HW1 W1;replace HB0:=zz (HB0.out.drew.trans (HW2.mono HB0.out.drew.size));replace HSB:=zz (HSB.out.drew.belowAll HW2);clear HW2
 go_upto_region 2 with (fail)
 refine rgR [0,1] [] (fun _=>(0,#[])) [] ?_
 (refine wD rfl ?_;simp only [pT])
 refine zAi (v:=_) rfl rfl (fun W hW=>by have e:=(HSB.out.belowAll hW).cell;go_simp;with_reducible rfl) ?_;simp only [pT];intro f W1 HW1 h1 h2;simp only [zAP];clear h1 h2 f;refine zAt [15] fun u=>?_;simp only [zAu,pT];simp only [wpS];replace HB0:=hTr HB0 HW1;replace HX:=zz (HX.out.belowAll HW1);clear HW1;simp only [HS.out];clear HS
 cases sb
 ·rw [if_neg (by decide)] at HR
  go_upto_region 4 with (fail)
  refine rgD [0,1,2,3,4,5] [] (fun _=>(0,#[])) [] ?_
  (refine wD rfl ?_;simp only [pT])
  refine zAi (v:=_) rfl rfl (fun W hW=>by have e:=(HX.out.drew.belowAll hW).cell;go_simp;with_reducible rfl) ?_;simp only [pT]
  (refine wD rfl ?_;simp only [pT])
  refine zAi (v:=_) rfl rfl (fun W hW=>by have e:=(HX.out.drew.belowAll hW).cell;go_simp;with_reducible rfl) ?_;simp only [pT];iterate 2 (refine wD rfl ?_;simp only [pT])
  intro f W1 HW1 h1 h2;simp only [zAP];clear h1 h2 f;refine zAt [21,22,23,24] fun u=>?_;simp only [zAu,pT];simp only [wpS];replace HB0:=zz (HB0.out.drew.trans (HW1.mono HB0.out.drew.size));clear HW1;go_wp2;go_ret2;rw [HR.out];exact ⟨rfl,HB0.out⟩
 ·rw [if_pos rfl] at HR
  go_upto_region 3 with (fail)
  refine rgD [0,1,2,3,4,5] [] (fun _=>(0,#[])) [] ?_
  (refine wD rfl ?_;simp only [pT])
  refine zAi (v:=_) rfl rfl (fun W hW=>by have e:=(HX.out.drew.belowAll hW).cell;go_simp;with_reducible rfl) ?_;simp only [pT]
  (refine wD rfl ?_;simp only [pT])
  refine zAi (v:=_) rfl rfl (fun W hW=>by have e:=(HX.out.drew.belowAll hW).cell;go_simp;with_reducible rfl) ?_;simp only [pT];iterate 2 (refine wD rfl ?_;simp only [pT])
  intro f W1 HW1 h1 h2;simp only [zAP];clear h1 h2 f;refine zAt [17,18,19,20] fun u=>?_;simp only [zAu,pT];simp only [wpS];replace HB0:=zz (HB0.out.drew.trans (HW1.mono HB0.out.drew.size));clear HW1;go_wp2;go_ret2;rw [HR.out];exact ⟨rfl,HB0.out⟩
theorem half_bool (d : Point) : zCx d = if (decide (0 < d.y) || (d.y == 0 && decide (0 < d.x))) = true then 0 else 1:=by
 unfold zCx
 by_cases h1 : 0 < d.y
 ·simp [h1]
 ·by_cases h2 : d.y = 0 <;> simp [h1,h2]
theorem zEz (d : Point) (w : World) : Det 189 #[.agg (zAb d)] (.int .i64 (zCx d)) w:=fun w0 hw0=>by
 clear hw0 w;obtain ⟨w,rfl⟩ : ∃ w,w = w0:=⟨_,rfl⟩
 have HR:=zz (half_bool d);obtain ⟨HB0,HD⟩:=zP1 w (zAb d) 27;obtain ⟨R,hR⟩ : ∃ R,zCx d = R:=⟨_,rfl⟩
 simp only [hR] at HR ⊢;clear hR;go_enter Tryz.func189,Tryz.ntmps189
 go_upto_region 1 with (fail)
 refine rgR [0,1,2,3,4,5,6,7,8,9,10,11,12] [] (fun _=>(0,#[])) [] ?_
 (refine wD rfl ?_;simp only [pT])
 refine zAi (v:=_) rfl rfl (fun W hW=>by have e:=(HD.out.belowAll hW).cell;go_simp;with_reducible rfl) ?_;simp only [pT];iterate 2 (refine wD rfl ?_;simp only [pT])
 (refine wI rfl ?_;simp only [pT])
 refine zAB (v:=_) rfl rfl (fun hg W hW=>by (try simp only [Bool.and_eq_true] at hg);(try simp only [hg,Bool.and_self,zAz]);have e:=(HD.out.belowAll hW).cell;go_simp;with_reducible rfl) ?_;simp only [pT];iterate 2 (refine wI rfl ?_;simp only [pT])
 (refine wJ rfl ?_;simp only [pT])
 refine zCe (v:=_) rfl rfl (fun hg W hW=>by (try simp only [Bool.and_eq_true] at hg);(try simp only [hg,Bool.and_self,zAz]);have e:=(HD.out.belowAll hW).cell;go_simp;with_reducible rfl) ?_;simp only [pT]
 (refine wJ rfl ?_;simp only [pT])
 refine zEk rfl (zC2 rfl) rfl rfl ?_;simp only [pT];refine zBX rfl rfl rfl ?_;simp only [pT];intro f W1 HW1 h1 h2;simp only [zAP];clear h1 h2 f;refine zAt [3,4,5,6,7,8,9,10,11,12,13,14] fun u=>?_;simp only [zAu,pT];simp only [wpS];replace HB0:=hTr HB0 HW1;clear HW1;obtain ⟨q,hq⟩ : ∃ q,(decide (0 < d.y) || (d.y == 0 && decide (0 < d.x))) = q:=⟨_,rfl⟩
 simp only [hq] at HR ⊢;clear hq
 cases q
 ·go_wp2;go_ret;rw [HR.out];exact ⟨rfl,HB0.out⟩
 ·go_wp2;go_ret;rw [HR.out];exact ⟨rfl,HB0.out⟩
def smallD (d : Point) : Prop:=-4096 ≤ d.x∧d.x ≤ 4096∧-4096 ≤ d.y∧d.y ≤ 4096
theorem rbefore_det (a b : Point) (ha : smallD a) (hb : smallD b) (w : World) : Det 161 #[.agg (zAb a), .agg (zAb b)] (.bool (zDn a b)) w:=fun w0 hw0=>by
 clear hw0 w;obtain ⟨w,rfl⟩ : ∃ w,w = w0:=⟨_,rfl⟩
 obtain ⟨a1,a2,a3,a4⟩:=ha;obtain ⟨b1,b2,b3,b4⟩:=hb;obtain ⟨p0,q0⟩:=zBt (x:=a.x) (y:=b.y) (by omega) (by omega) (by omega) (by omega);obtain ⟨p1,q1⟩:=zBt (x:=a.y) (y:=b.x) (by omega) (by omega) (by omega) (by omega);have K1 : Hid (IntKind.i64.wrap (a.x * b.y) = a.x * b.y):=zz (IntWalk.i64_in _ (by omega));have K2 : Hid (IntKind.i64.wrap (a.y * b.x) = a.y * b.x):=zz (IntWalk.i64_in _ (by omega));have K3 : Hid (IntKind.i64.wrap (a.x * b.y - a.y * b.x) = a.x * b.y - a.y * b.x):=zz (IntWalk.i64_in _ (by omega));have HR : Hid (zDn a b = if (zCx a != zCx b) = true then decide (zCx a < zCx b) else decide (0 < a.x * b.y - a.y * b.x)):=zz (by unfold zDn;simp);clear a1 a2 a3 a4 b1 b2 b3 b4 p0 q0 p1 q1;obtain ⟨HB0,HA,HB⟩:=zP2 w (zAb a) 27 (zAb b) 27;obtain ⟨R,hR⟩ : ∃ R,zDn a b = R:=⟨_,rfl⟩
 simp only [hR] at HR ⊢;clear hR;go_enter Tryz.func161,Tryz.ntmps161
 go_upto_region 1 with (fail)
 refine rgD [0,1,2,3,4] [] (fun _=>(0,#[])) [] ?_;refine zAi (v:=_) rfl rfl (fun W hW=>zAc _ (HA.out.drew.belowAll hW) rfl (zAg _) zuB) ?_;simp only [pT];refine zAO _ _ _ rfl rfl (fun W=>by go_simp;try with_reducible rfl) (zEz a _) ?_;simp only [pT];refine zAi (v:=_) rfl rfl (fun W hW=>zAc _ (HB.out.drew.belowAll hW) rfl (zAg _) zuB) ?_;simp only [pT];refine zAO _ _ _ rfl rfl (fun W=>by go_simp;try with_reducible rfl) (zEz b _) ?_;simp only [pT]
 (refine wD rfl ?_;simp only [pT])
 intro f W1 HW1 h1 h2;simp only [zAP];clear h1 h2 f;refine zAt [5,6,7,8] fun u=>?_;simp only [zAu,pT];simp only [wpS];replace HB0:=zz (HB0.out.drew.trans (HW1.mono HB0.out.drew.size));replace HA:=zz (HA.out.drew.belowAll HW1);replace HB:=zz (HB.out.drew.belowAll HW1);clear HW1;obtain ⟨q,hq⟩ : ∃ q,(zCx a != zCx b) = q:=⟨_,rfl⟩
 simp only [hq] at HR ⊢;clear hq
 cases q
 ·rw [if_neg (by decide)] at HR
  go_upto_region 3 with (fail)
  refine rgR [0,1,2,3,4,5,6,7,8,9,10,11,12] [] (fun _=>(0,#[])) [] ?_
  (refine wD rfl ?_;simp only [pT])
  refine zAi (v:=_) rfl rfl (fun W hW=>by have e:=(HA.out.belowAll hW).cell;go_simp;with_reducible rfl) ?_;simp only [pT]
  (refine wD rfl ?_;simp only [pT])
  refine zAi (v:=_) rfl rfl (fun W hW=>by have e:=(HB.out.belowAll hW).cell;go_simp;with_reducible rfl) ?_;simp only [pT];refine zAi (v:=.int .i64 (a.x * b.y)) rfl rfl (fun W hW=>by go_simp;rw [K1.out]) ?_;simp only [pT]
  (refine wD rfl ?_;simp only [pT])
  refine zAi (v:=_) rfl rfl (fun W hW=>by have e:=(HA.out.belowAll hW).cell;go_simp;with_reducible rfl) ?_;simp only [pT]
  (refine wD rfl ?_;simp only [pT])
  refine zAi (v:=_) rfl rfl (fun W hW=>by have e:=(HB.out.belowAll hW).cell;go_simp;with_reducible rfl) ?_;simp only [pT];refine zAi (v:=.int .i64 (a.y * b.x)) rfl rfl (fun W hW=>by go_simp;rw [K2.out]) ?_;simp only [pT];refine zAi (v:=.int .i64 (a.x * b.y - a.y * b.x)) rfl rfl (fun W hW=>by go_simp;rw [K3.out]) ?_;simp only [pT];iterate 2 (refine wD rfl ?_;simp only [pT])
  intro f W1 HW1 h1 h2;simp only [zAP];clear h1 h2 f;refine zAt [15,16,17,18,19,20,21,22,23,24,25,26] fun u=>?_;simp only [zAu,pT];simp only [wpS];replace HB0:=hTr HB0 HW1;clear HW1;go_wp2;go_ret;rw [HR.out];exact ⟨by simp,HB0.out⟩
 ·rw [if_pos rfl] at HR
  go_upto_region 2 with (fail)
  refine rgD [0,1,2,3,4,5] [] (fun _=>(0,#[])) [] ?_;refine zAi (v:=_) rfl rfl (fun W hW=>zAc _ (HA.out.drew.belowAll hW) rfl (zAg _) zuB) ?_;simp only [pT];refine zAO _ _ _ rfl rfl (fun W=>by go_simp;try with_reducible rfl) (zEz a _) ?_;simp only [pT];refine zAi (v:=_) rfl rfl (fun W hW=>zAc _ (HB.out.drew.belowAll hW) rfl (zAg _) zuB) ?_;simp only [pT];refine zAO _ _ _ rfl rfl (fun W=>by go_simp;try with_reducible rfl) (zEz b _) ?_;simp only [pT];iterate 2 (refine wD rfl ?_;simp only [pT])
  intro f W1 HW1 h1 h2;simp only [zAP];clear h1 h2 f;refine zAt [10,11,12,13,14] fun u=>?_;simp only [zAu,pT];simp only [wpS];replace HB0:=zz (HB0.out.drew.trans (HW1.mono HB0.out.drew.size));clear HW1;go_wp2;go_ret;rw [HR.out];exact ⟨rfl,HB0.out⟩
theorem rdir_det (sj : Sl Joint) (sl : Sl Lead) (s : Side) (w : World) (hj : sj.OK 3 zAh zAs (fun _=>False) w) (hl : sl.OK 8 zAd zAA (fun _=>False) w) (hs : (zBT sl.val s.lead).isSome = true) (h1 : (atA sj.val (zAl sl.val s).1).isSome = true) (h2 : (atA sj.val (zAl sl.val s).2).isSome = true) (hsp : ∀ id,zAy (ptA sj.val id)) :
  Det 162 #[.agg #[.slice sj.a sj.val.length sj.cap, .slice sl.a sl.val.length sl.cap], .agg (zAa s)] (.agg (zAb (dirR sj.val sl.val s))) w:=fun w0 hw0=>by
 replace hl:=hl.lmoved hw0;replace hj:=hj.jmoved hw0;clear hw0 w;obtain ⟨w,rfl⟩ : ∃ w,w = w0:=⟨_,rfl⟩
 have HE:=zz (zEy sj sl s w hl hs);have HPa:=zz (zDo sj sl (zAl sl.val s).1 w hj h1);have HPb:=zz (zDo sj sl (zAl sl.val s).2 w hj h2);obtain ⟨a1,a2,a3,a4⟩:=hsp (zAl sl.val s).1;obtain ⟨b1,b2,b3,b4⟩:=hsp (zAl sl.val s).2;obtain ⟨HB0,HWB,HSB,HR0⟩:=zP3 w #[.slice sj.a sj.val.length sj.cap, .slice sl.a sl.val.length sl.cap] 25 (zAa s) 59 #[.int .i64 0, .int .i64 0] 27;have HR : Hid (dirR sj.val sl.val s = ⟨(ptA sj.val (zAl sl.val s).2).x - (ptA sj.val (zAl sl.val s).1).x,(ptA sj.val (zAl sl.val s).2).y - (ptA sj.val (zAl sl.val s).1).y⟩):=zz rfl;obtain ⟨R,hR⟩ : ∃ R,dirR sj.val sl.val s = R:=⟨_,rfl⟩
 obtain ⟨p,hp⟩ : ∃ p,ptA sj.val (zAl sl.val s).1 = p:=⟨_,rfl⟩
 obtain ⟨q,hq⟩ : ∃ p,ptA sj.val (zAl sl.val s).2 = p:=⟨_,rfl⟩
 simp only [hR,hp,hq] at HR HPa HPb a1 a2 a3 a4 b1 b2 b3 b4 ⊢;obtain ⟨ea,hea⟩ : ∃ p,(zAl sl.val s).1 = p:=⟨_,rfl⟩
 obtain ⟨eb,heb⟩ : ∃ p,(zAl sl.val s).2 = p:=⟨_,rfl⟩
 simp only [hea,heb] at HE HPa HPb;have K1 : Hid (IntKind.i64.wrap (q.x - p.x) = q.x - p.x):=zz (IntWalk.i64_in _ (by omega));have K2 : Hid (IntKind.i64.wrap (q.y - p.y) = q.y - p.y):=zz (IntWalk.i64_in _ (by omega));clear hR hp hq hea heb a1 a2 a3 a4 b1 b2 b3 b4 h1 h2 hs hl hj hsp;go_enter Tryz.func162,Tryz.ntmps162
 go_upto_region 1 with (fail)
 refine rgR [0,1,2,3,4,5,6,7] [] (fun _=>(0,#[])) [] ?_;refine zAi (v:=_) rfl rfl (fun W hW=>zAc _ (HWB.out.belowAll hW) rfl (zAg _) zuC) ?_;simp only [pT];refine zAi (v:=_) rfl rfl (fun W hW=>zAc _ (HSB.out.belowAll hW) rfl (zAg _) zuA) ?_;simp only [pT];refine zAO _ _ _ rfl rfl (fun W=>by go_simp;try with_reducible rfl) (HE.out.moved HB0.out) ?_;simp only [pT];iterate 5 (refine wD rfl ?_;simp only [pT])
 intro f W1 HW1 h1 h2;simp only [zAP];clear h1 h2 f;refine zAt [10,11,12,9,13,14] fun u=>?_;simp only [zAu,pT];simp only [wpS];replace HB0:=hTr HB0 HW1;replace HWB:=zz (HWB.out.belowAll HW1);replace HSB:=zz (HSB.out.belowAll HW1);replace HR0:=zz (HR0.out.belowAll HW1);clear HW1
 go_upto_region 2 with (fail)
 refine zBo [0,1,2] [(3,7)] (fun _=>(27,#[.int .i64 0, .int .i64 0])) [(4,false)] (by kernel_rfl) (fun d _ _ _ _ h=>by cases d <;> exact h) (by intro k hk K a w h;simp only [List.mem_cons,List.not_mem_nil,or_false] at hk;rcases hk with rfl <;> exact zBR _ rfl (by kernel_rfl) h) ?_;refine zAi (v:=_) rfl rfl (fun W hW=>zAc _ (HWB.out.belowAll hW) rfl (zAg _) zuC) ?_;simp only [pT]
 (refine wD rfl ?_;simp only [pT])
 refine zAO _ _ _ rfl rfl (fun W=>by go_simp;try with_reducible rfl) (HPa.out.moved HB0.out) ?_;simp only [pT];intro f W1 HW1 hf hi;simp only [zAP,zBh,pT];have hf0:=hf (3,7) (by simp);simp only at hf0;obtain ⟨ja,hj⟩ : ∃ j,f 3 = j:=⟨_,rfl⟩
 simp only [hj] at hf0 ⊢;obtain ⟨hfl,hfb⟩:=hf0;clear hf hi hj f;refine zAt [15,16] fun u=>?_;simp only [zAu,pT];refine zBG hfb rfl rfl (.agg (zAb p)) rfl (by kernel_rfl) (by rfl) (zAD _) fun W2 hb2 ht2=>?_;have HBP:=zz (hb2.eqv (cs':=zAb p) (by simp [zAx,zAb,Value.cells]));have HW2:=HW1.trans (ht2.below hfl);simp only [wpS];clear hb2 ht2 hfl hfb HW1 W1;replace HB0:=hTr HB0 HW2;replace HWB:=zz (HWB.out.belowAll HW2);replace HR0:=zz (HR0.out.belowAll HW2);clear HW2
 go_upto_region 3 with (fail)
 refine zBo [0,1,2] [(3,8)] (fun _=>(27,#[.int .i64 0, .int .i64 0])) [(4,false)] (by kernel_rfl) (fun d _ _ _ _ h=>by cases d <;> exact h) (by intro k hk K a w h;simp only [List.mem_cons,List.not_mem_nil,or_false] at hk;rcases hk with rfl <;> exact zBR _ rfl (by kernel_rfl) h) ?_;refine zAi (v:=_) rfl rfl (fun W hW=>zAc _ (HWB.out.belowAll hW) rfl (zAg _) zuC) ?_;simp only [pT]
 (refine wD rfl ?_;simp only [pT])
 refine zAO _ _ _ rfl rfl (fun W=>by go_simp;try with_reducible rfl) (HPb.out.moved HB0.out) ?_;simp only [pT];intro f W1 HW1 hf hi;simp only [zAP,zBh,pT];have hf0:=hf (3,8) (by simp);simp only at hf0;obtain ⟨jb,hj⟩ : ∃ j,f 3 = j:=⟨_,rfl⟩
 simp only [hj] at hf0 ⊢;obtain ⟨hfl,hfb⟩:=hf0;clear hf hi hj f;refine zAt [18,19] fun u=>?_;simp only [zAu,pT];refine zBG hfb rfl rfl (.agg (zAb q)) rfl (by kernel_rfl) (by rfl) (zAD _) fun W2 hb2 ht2=>?_;have HBQ:=zz (hb2.eqv (cs':=zAb q) (by simp [zAx,zAb,Value.cells]));have HW2:=HW1.trans (ht2.below hfl);simp only [wpS];clear hb2 ht2 hfl hfb HW1 W1;replace HB0:=hTr HB0 HW2;replace HBP:=zz (HBP.out.belowAll HW2);replace HR0:=zz (HR0.out.belowAll HW2);clear HW2
 go_upto_region 4 with (fail)
 refine rgR [0,1,2,3,4,5,6,7,8,9,10] [] (fun _=>(0,#[])) [(11,false)] ?_
 (refine wD rfl ?_;simp only [pT])
 refine zAi (v:=_) rfl rfl (fun W hW=>by have e:=(HBQ.out.belowAll hW).cell;go_simp;with_reducible rfl) ?_;simp only [pT]
 (refine wD rfl ?_;simp only [pT])
 refine zAi (v:=_) rfl rfl (fun W hW=>by have e:=(HBP.out.belowAll hW).cell;go_simp;with_reducible rfl) ?_;simp only [pT];refine zAi (v:=.int .i64 (q.x - p.x)) rfl rfl (fun W hW=>by have e:=(HBP.out.belowAll hW).cell;have e2:=(HBQ.out.belowAll hW).cell;go_simp;rw [K1.out]) ?_;simp only [pT]
 (refine wD rfl ?_;simp only [pT])
 refine zAi (v:=_) rfl rfl (fun W hW=>by have e:=(HBQ.out.belowAll hW).cell;go_simp;with_reducible rfl) ?_;simp only [pT]
 (refine wD rfl ?_;simp only [pT])
 refine zAi (v:=_) rfl rfl (fun W hW=>by have e:=(HBP.out.belowAll hW).cell;go_simp;with_reducible rfl) ?_;simp only [pT];refine zAi (v:=.int .i64 (q.y - p.y)) rfl rfl (fun W hW=>by go_simp;rw [K2.out]) ?_;simp only [pT]
 (refine wD rfl ?_;simp only [pT])
 intro f W1 HW1 h1 h2;simp only [zAP];clear h1 h2 f;refine zAt [21,22,23,24,25,26,27,28,29,30] fun u=>?_;simp only [zAu,pT];refine zBG (HR0.out.belowAll HW1) rfl rfl (.agg #[.int .i64 (q.x - p.x), .int .i64 (q.y - p.y)]) rfl (by kernel_rfl) (by rfl) (zAD ⟨q.x - p.x,q.y - p.y⟩) fun W2 hb2 ht2=>?_;simp only [wpS];go_wp2;refine bodyPost_ret (zBs (cs:=zAb R) (hb2.eqv (by rw [HR.out];simp [zAx,zAb,Value.cells])) rfl rfl zuB rfl (by kernel_rfl)) rfl ⟨rfl,HB0.out.trans ((HW1.mono HB0.out.size).trans (ht2.below (by omega)))⟩
end Go.Proofs.YtbbblemfodpmaaaGreat
end
