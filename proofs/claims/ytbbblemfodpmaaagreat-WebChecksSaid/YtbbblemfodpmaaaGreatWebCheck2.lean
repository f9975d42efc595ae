/-The leads of a web: which is the first that is wrong by itself.-/
import Derived.Test.YtbbblemfodpmaaaGreatWebCheck
set_option linter.unusedVariables false
set_option linter.unusedSimpArgs false
set_option maxHeartbeats 16000000
set_option maxRecDepth 100000
namespace Go.Proofs.YtbbblemfodpmaaaGreat
open Go.RowKit
theorem right_any {ba : Nat} {js : List Joint} (l : Lead) (w : World) (hm : MapAt vi zAL I64 w ba (zA7 js)) (hl : ∀ D W,zAA D W l) :
  Calls Tryz.prog 144 #[.agg (zAd l), .map (some ba)] w fun e w'=>e = .returned (.bool (zBI js l))∧Below w.heap.size w w':=by
 obtain ⟨_,ia,ib,_⟩:=hl (fun _=>False) w;have H : Hid (zBI js l = (zBg l.id && (atA js l.a).isSome && (atA js l.b).isSome && l.a != l.b && winI l.heart 64 && winI l.left 64 && winI l.right 64 && winI l.give 64 && winI l.cost 1000000)):=zz rfl;obtain ⟨sa,ha⟩ : ∃ sa,(atA js l.a).isSome = sa:=⟨_,rfl⟩
 obtain ⟨sb,hb⟩ : ∃ sb,(atA js l.b).isSome = sb:=⟨_,rfl⟩
 obtain ⟨pa,hpa⟩ : ∃ pa,(atA js l.a).getD zAF = pa:=⟨_,rfl⟩
 obtain ⟨pb,hpb⟩ : ∃ pb,(atA js l.b).getD zAF = pb:=⟨_,rfl⟩
 have HPA:=zz hpa;have HPB:=zz hpb;have HA:=zz ha;have HB:=zz hb;have IA:=zz ia;have IB:=zz ib;have HM:=zz hm;clear ha hb ia ib hm hl hpa hpb;go_enter Tryz.func144,Tryz.ntmps144
 go_wp2_with (first
  | ((with_reducible refine zAm 13 ?_);refine zCN rfl _ _ 120 rfl zAQ zuF zAF (zBq _) rfl (HM.out.alloc _) l.a IA.out rfl ?_;rw [← zBm,zBf,HA.out,HPA.out])
  | ((with_reducible refine zAm 20 ?_);refine zCN rfl _ _ 120 rfl zAQ zuF zAF (zBq _) rfl ((HM.out.alloc _).alloc _) l.b IB.out rfl ?_;rw [← zBm,zBf,HB.out,HPB.out])
  | ((with_reducible refine zDy ?_);refine zAk (n:=w.heap.size + 1) (cs:=zAb pa) rfl 27 _ _ rfl (by simp) rfl rfl (by kernel_rfl) rfl (zAD _) ?_)
  | ((with_reducible refine zDy ?_);refine zAk (n:=w.heap.size + 2) (cs:=zAb pb) rfl 27 _ _ rfl (by simp) rfl rfl (by kernel_rfl) rfl (zAD _) ?_)
  | (go_at_call 143;(with_reducible refine (zFk _ _).mono ?_);rintro e w1 ⟨rfl,rfl⟩)
  | (go_at_call 118;(with_reducible refine (webWithin _ _ _).mono ?_);rintro e w1 ⟨rfl,rfl⟩))
 all_goals
  go_ret;exact ⟨by simp [H.out,HA.out,HB.out, *],((((Below.refl _ _).alloc (Nat.le_refl _) _).alloc (by simp) _).alloc (by simp;omega) _)⟩
def seenQ (l : List (Int × Int)) : List ((Int × Int) × Bool):=l.map fun p=>(p,true)
theorem seenQ_get (l : List (Int × Int)) (p : Int × Int) : (aget (seenQ l) p).getD false = l.contains p:=by
 unfold aget seenQ;rw [List.find?_map,Option.map_map]
 induction l with
 | nil=>rfl
 | cons x l ih=>
  simp only [List.contains_cons,List.find?_cons,Function.comp_apply]
  by_cases h : x = p
  ·subst h;simp
  ·have h' : (p == x) = false:=beq_eq_false_iff_ne.2 (fun e=>h e.symm);simp only [h,decide_false,h',Bool.false_or];exact ih
theorem seenQ_put {l : List (Int × Int)} {p : Int × Int} (h : l.contains p = false) : aput (seenQ l) p true = seenQ (l ++ [p]):=by
 have hn : ahas (seenQ l) p = false:=by
  rw [zBP];intro q hq e;obtain ⟨x,hx,rfl⟩:=List.mem_map.1 hq;simp only at e;subst e;simp [hx] at h
 unfold aput;rw [hn];simp [seenQ]
theorem pr_one (p q : Int) : (#[vi p,vi q] : Array Value).all (·.oneCell') = true:=by kernel_rfl
theorem pr_if (a b : Int) : Value.agg #[.int .i64 (if b < a then b else a), .int .i64 (if a < b then b else a)] = .agg #[vi (min a b),vi (max a b)]:=by
 rw [show (if b < a then b else a) = min a b by omega,show (if a < b then b else a) = max a b by omega]
def prsK (l : List Lead) (k : Nat) : List (Int × Int):=(l.take k).map zAX
def prvL (l : List Lead) (k : Nat) : Option Int:=(l.take k).getLast?.map (·.id)
theorem cl_step {js : List Joint} {l : List Lead} {k : Nat} {x : Lead} (hx : l[k]? = some x) (h : clA js [] none l = clA js (prsK l k) (prvL l k) (l.drop k)) :
  clA js [] none l = if !zBI js x || zBE (prvL l k) x.id || (prsK l k).contains (zAX x) then (x.id,false) else clA js (prsK l (k + 1)) (prvL l (k + 1)) (l.drop (k + 1)):=by
 rw [h,zEX hx];unfold prsK prvL;rw [zBJ hx];simp only [clA,List.map_append,List.map_cons,List.map_nil,List.getLast?_concat,Option.map_some,zAX]
theorem prvL_succ {l : List Lead} {k : Nat} {y : Lead} (hy : l[k]? = some y) : prvL l (k + 1) = some y.id:=by unfold prvL;rw [zBJ hy];simp
theorem zGm {ba : Nat} {js : List Joint} (s : Sl Lead) (w : World) (hs : s.OK 8 zAd zAA (fun _=>False) w) (hl : s.val.length ≤ 400) (hma : MapAt vi zAL I64 w ba (zA7 js)) :
  Calls Tryz.prog 75 #[.slice s.a s.val.length s.cap, .map (some ba)] w fun e w'=>e = .returned (.tuple #[.int .i64 (clA js [] none s.val).1, .bool (clA js [] none s.val).2])∧Below w.heap.size w w':=by
 have HS:=zz hs;have HMA:=zz hma;clear hs hma;obtain ⟨a,cap,val⟩:=s;simp only at hl;have hmm:=@run_makeMap Tryz.prog;go_enter Tryz.func75,Tryz.ntmps75;go_wp2
 go_loopw [13] (fun i wr=>∃ k : Nat,k ≤ val.length∧i = .int .i64 k∧Hid (MapAt zDH Value.bool (fun _=>True) wr w.heap.size (seenQ (prsK val k)))∧Hid (clA js [] none val = clA js (prsK val k) (prvL val k) (val.drop k))∧Below w.heap.size w wr) (fun i _=>val.length - (intOf i).toNat)
 case atStart=>exact ⟨0,Nat.zero_le _,rfl,zz (MapAt.made _ _ _ _),zz rfl,(Below.refl _ _).alloc (Nat.le_refl _) _⟩
 case round=>
  obtain ⟨k,hk,rfl,HM,HCJ,hB⟩:=hrel
  by_cases hlt : k < val.length
  ·obtain ⟨x,hx⟩ : ∃ x,val[k]? = some x:=⟨_,List.getElem?_eq_getElem hlt⟩
   have hi1 : (k : Int) < (val.length : Int):=by omega
   obtain ⟨bj,oj,rfl,hbj,_,hok,hcell⟩:=HS.out.at hx;have HOKX : Hid (∀ D W,zAA D W x):=zz fun D W=>hok;have HC : Hid (∀ W,Below w.heap.size w W→∀ j,j < (zAd x).size→W.cell? ⟨bj,oj + k * 8 + j,none⟩ = (zAd x)[j]?):=zz fun W hW j hj=>(hW.cell (p:=⟨bj,oj + k * 8 + j,none⟩) hbj).trans (hcell j hj);have hB0 : Below w.heap.size w ((wr.alloc (.cells (zAd x) 31)).alloc (.cells #[vi (min x.a x.b),vi (max x.a x.b)] 203)).drew:=((hB.alloc hB.size _).alloc (by have:=hB.size;simp;omega) _).drew;have hjb : zAe ((wr.alloc (.cells (zAd x) 31)).alloc (.cells #[vi (min x.a x.b),vi (max x.a x.b)] 203)).drew wr.heap.size 31 (zAd x):=((zAe.new _ _ _).alloc _).drew;have hpb : zAe ((wr.alloc (.cells (zAd x) 31)).alloc (.cells #[vi (min x.a x.b),vi (max x.a x.b)] 203)).drew (wr.heap.size + 1) 203 #[vi (min x.a x.b),vi (max x.a x.b)]:=by have h:=zAe.new (wr.alloc (.cells (zAd x) 31)) 203 #[vi (min x.a x.b),vi (max x.a x.b)];rw [World.size_alloc] at h;exact h.drew
   have hmd : MapAt zDH Value.bool (fun _=>True) ((wr.alloc (.cells (zAd x) 31)).alloc (.cells #[vi (min x.a x.b),vi (max x.a x.b)] 203)).drew w.heap.size (seenQ (prsK val k)):=((HM.out.alloc _).alloc _).of_block rfl;have hma : MapAt vi zAL I64 ((wr.alloc (.cells (zAd x) 31)).alloc (.cells #[vi (min x.a x.b),vi (max x.a x.b)] 203)).drew ba (zA7 js):=HMA.out.below hB0 HMA.out.lt;have HX:=zz hx;have hst:=cl_step hx HCJ.out;obtain ⟨p4,hp4⟩ : ∃ p4,(prsK val k).contains (zAX x) = p4:=⟨_,rfl⟩
   have HP4g:=zz ((seenQ_get (prsK val k) (zAX x)).trans hp4);have HP4:=zz hp4;have HST:=zz hst;have hbj':=hbj;have HSC : Hid (∀ y,val[k - 1]? = some y→w.cell? ⟨bj,oj + (k - 1) * 8,none⟩ = some (.int .i64 y.id)):=zz fun y hy=>(HS.out.cell bj oj rfl (k - 1) y hy 0 (by decide)).trans rfl;clear hx hcell hst hp4 HM HCJ hbj hok
   rcases Nat.eq_zero_or_pos k with rfl | hk0
   ·have HP3 : Hid (zBE (prvL val 0) x.id = false):=zz rfl;rw [show ((0 : Nat) : Int) = 0 from rfl];have HC0 : ∀ j,j < (zAd x).size→wr.cell? ⟨bj,oj + j,none⟩ = (zAd x)[j]?:=by have h:=HC.out _ hB;simpa using h
    have HC00:=zz HC0;clear HC0
    go_wp2_with (first
     | ((with_reducible refine zAm 17 ?_);refine zLe 17 bj oj (zAd x) HC00.out zuD ?_)
     | ((with_reducible refine zAv 31 ?_);refine zAk (cs:=zAd x) rfl 31 _ _ rfl rfl rfl rfl (by kernel_rfl) rfl (zA9 _) ?_)
     | ((with_reducible refine zAv 203 ?_);refine zAk (n:=wr.heap.size + 1) (cs:=#[vi (min x.a x.b),vi (max x.a x.b)]) rfl 203 _ _ rfl (by simp) rfl (pr_if x.a x.b) (by kernel_rfl) rfl (pr_one _ _) ?_))
    all_goals
     refine rgO [(0,true),(1,true),(2,false),(3,true),(4,true),(5,true),(6,true),(7,true),(8,true),(9,true),(10,true),(11,true),(12,true),(13,true),(14,true),(15,true),(16,true),(17,true),(18,true),(19,true),(20,true),(21,true),(22,true),(23,true)] ?_;refine zAf (v:=.agg (zAd x)) rfl rfl (fun W hW=>zAc (zAd x) (hjb.belowAll hW) rfl (zAg _) zuD) ?_;simp only [pT]
     repeat ((first | refine wK rfl ?_ | refine wL rfl ?_ | refine wB rfl ?_);simp only [pT])
     refine zAG rfl rfl (fun K hK=>?_)
     go_simp
     refine (right_any x _ hma HOKX.out).mono ?_;rintro e w2 ⟨rfl,hb2⟩;have hB2:=hB0.trans (hb2.mono hB0.size);have hj2:=hjb.belowAll hb2;have hp2:=hpb.belowAll hb2;have hm2:=hmd.below hb2 hmd.lt;obtain ⟨p1,hp1⟩ : ∃ p1,zBI js x = p1:=⟨_,rfl⟩
     have HP1:=zz hp1;rw [hp1];clear hp1;refine hK _ _ hb2 ?_;clear hK K
     try simp only [pT]
     cases p1
     case false=>
      repeat ((first | refine wK rfl ?_ | refine wL rfl ?_ | refine wB rfl ?_);simp only [pT])
      simp only [wpB];have hc0:=(hj2.cell 0).trans (zCY x);go_wp2;go_ret2;exact ⟨by rw [HST.out,HP1.out];simp,hB2⟩
     case true=>
      repeat ((first | refine wK rfl ?_ | refine wL rfl ?_ | refine wB rfl ?_);simp only [pT])
      refine zAf (v:=zDH (zAX x)) rfl rfl (fun W hW=>zAc #[vi (min x.a x.b),vi (max x.a x.b)] (hp2.belowAll hW) rfl (zAg _) Tryz.underlying203) ?_;simp only [pT];refine zAf (v:=.bool p4) rfl rfl (fun W hW=>Eq.trans (zA6 pairKey Tryz.underlying202 false (zEn _) rfl (hm2.below hW hm2.lt) (zAX x) trivial rfl) (by rw [HP4g.out];rfl)) ?_;simp only [pT]
      cases p4
      case false=>
       repeat ((first | refine wK rfl ?_ | refine wL rfl ?_ | refine wB rfl ?_);simp only [pT])
       simp only [wpB];have hc0:=(hj2.cell 0).trans (zCY x)
       go_wp2_with (first
        | (refine zLd 56 hp2 #[vi (min x.a x.b),vi (max x.a x.b)] Tryz.underlying203 ?_)
        | (at_mapUpdate;refine zBx rfl _ _ _ 202 rfl pairKey Tryz.underlying202 rfl hm2 (zAX x) trivial rfl true rfl ?_;intro w5 hm5 hT5))
       rw [seenQ_put HP4.out] at hm5;go_roundw
       case rel=>exact ⟨1,by omega,by go_num,zz (by unfold prsK at hm5 ⊢;rw [zBJ HX.out,List.map_append];exact hm5),zz (by rw [HST.out,HP1.out,HP4.out,HP3.out];simp),hB2.trans (hT5.below (Nat.le_refl _))⟩
       case measure=>simp [intOf];omega
      case true=>
       repeat ((first | refine wK rfl ?_ | refine wL rfl ?_ | refine wB rfl ?_);simp only [pT])
       simp only [wpB];have hc0:=(hj2.cell 0).trans (zCY x);go_wp2;go_ret2;exact ⟨by rw [HST.out,HP1.out,HP4.out,HP3.out];simp,hB2⟩
   ·obtain ⟨k,rfl⟩ : ∃ q,k = q + 1:=⟨k - 1,by omega⟩
    obtain ⟨y,hy⟩ : ∃ y,val[k]? = some y:=⟨_,List.getElem?_eq_getElem (by omega)⟩
    obtain ⟨p3,hp3⟩ : ∃ p3,zBE (prvL val (k + 1)) x.id = p3:=⟨_,rfl⟩
    have HP3:=zz hp3;clear hp3;have HY : Hid (∀ W,Below w.heap.size w W→W.cell? ⟨bj,oj + k * 8,none⟩ = some (.int .i64 y.id)):=zz fun W hW=>by
     have h:=HSC.out y hy;exact (hW.cell (p:=⟨bj,oj + k * 8,none⟩) hbj').trans h
    have HP3d : Hid (decide (x.id ≤ y.id) = p3):=zz (by have h:=HP3.out;rw [prvL_succ hy] at h;exact h);have k1 : IntKind.i64.wrap (k : Int) = (k : Int):=IntWalk.i64_in _ (by omega);have hkl : k < val.length:=by omega
    clear hy hbj'
    go_wp2_with (first
     | ((with_reducible refine zAm 17 ?_);refine zLe 17 bj (oj + (k + 1) * 8) (zAd x) (HC.out _ hB) zuD ?_)
     | ((with_reducible refine zAv 31 ?_);refine zAk (cs:=zAd x) rfl 31 _ _ rfl rfl rfl rfl (by kernel_rfl) rfl (zA9 _) ?_)
     | ((with_reducible refine zAv 203 ?_);refine zAk (n:=wr.heap.size + 1) (cs:=#[vi (min x.a x.b),vi (max x.a x.b)]) rfl 203 _ _ rfl (by simp) rfl (pr_if x.a x.b) (by kernel_rfl) rfl (pr_one _ _) ?_))
    all_goals
     refine rgO [(0,true),(1,true),(2,false),(3,true),(4,true),(5,true),(6,true),(7,true),(8,true),(9,true),(10,true),(11,true),(12,true),(13,true),(14,true),(15,true),(16,true),(17,true),(18,true),(19,true),(20,true),(21,true),(22,true),(23,true)] ?_;refine zAf (v:=.agg (zAd x)) rfl rfl (fun W hW=>zAc (zAd x) (hjb.belowAll hW) rfl (zAg _) zuD) ?_;simp only [pT]
     repeat ((first | refine wK rfl ?_ | refine wL rfl ?_ | refine wB rfl ?_);simp only [pT])
     refine zAG rfl rfl (fun K hK=>?_)
     go_simp
     refine (right_any x _ hma HOKX.out).mono ?_;rintro e w2 ⟨rfl,hb2⟩;have hB2:=hB0.trans (hb2.mono hB0.size);have hj2:=hjb.belowAll hb2;have hp2:=hpb.belowAll hb2;have hm2:=hmd.below hb2 hmd.lt;obtain ⟨p1,hp1⟩ : ∃ p1,zBI js x = p1:=⟨_,rfl⟩
     have HP1:=zz hp1;rw [hp1];clear hp1;refine hK _ _ hb2 ?_;clear hK K
     try simp only [pT]
     cases p1
     case false=>
      repeat ((first | refine wK rfl ?_ | refine wL rfl ?_ | refine wB rfl ?_);simp only [pT])
      simp only [wpB];have hc0:=(hj2.cell 0).trans (zCY x);go_wp2;go_ret2;exact ⟨by rw [HST.out,HP1.out];simp,hB2⟩
     case true=>
      repeat ((first | refine wK rfl ?_ | refine wL rfl ?_ | refine wB rfl ?_);simp only [pT])
      refine zAf (v:=.int .i64 x.id) rfl rfl (fun W hW=>by have e : W.cell? ⟨wr.heap.size,0,none⟩ = some (.int .i64 x.id):=((hj2.belowAll hW).cell 0).trans rfl;go_simp) ?_;simp only [pT]
      repeat ((first | refine wK rfl ?_ | refine wL rfl ?_ | refine wB rfl ?_);simp only [pT])
      refine zAf (v:=.int .i64 y.id) rfl rfl (fun W hW=>by have e : W.cell? ⟨bj,oj + k * 8,none⟩ = some (.int .i64 y.id):=HY.out W (hB2.trans (hW.mono hB2.size));go_simp) ?_;simp only [pT];refine zAf (v:=.bool p3) rfl rfl (fun W hW=>by go_simp;rw [HP3d.out]) ?_;simp only [pT]
      cases p3
      case false=>
       repeat ((first | refine wK rfl ?_ | refine wL rfl ?_ | refine wB rfl ?_);simp only [pT])
       refine zAf (v:=zDH (zAX x)) rfl rfl (fun W hW=>zAc #[vi (min x.a x.b),vi (max x.a x.b)] (hp2.belowAll hW) rfl (zAg _) Tryz.underlying203) ?_;simp only [pT];refine zAf (v:=.bool p4) rfl rfl (fun W hW=>Eq.trans (zA6 pairKey Tryz.underlying202 false (zEn _) rfl (hm2.below hW hm2.lt) (zAX x) trivial rfl) (by rw [HP4g.out];rfl)) ?_;simp only [pT]
       cases p4
       case false=>
        repeat ((first | refine wK rfl ?_ | refine wL rfl ?_ | refine wB rfl ?_);simp only [pT])
        simp only [wpB];have hc0:=(hj2.cell 0).trans (zCY x)
        go_wp2_with (first
         | (refine zLd 56 hp2 #[vi (min x.a x.b),vi (max x.a x.b)] Tryz.underlying203 ?_)
         | (at_mapUpdate;refine zBx rfl _ _ _ 202 rfl pairKey Tryz.underlying202 rfl hm2 (zAX x) trivial rfl true rfl ?_;intro w5 hm5 hT5))
        rw [seenQ_put HP4.out] at hm5;go_roundw
        case rel=>exact ⟨k + 2,by omega,by go_num,zz (by unfold prsK at hm5 ⊢;rw [zBJ HX.out,List.map_append];exact hm5),zz (by rw [HST.out,HP1.out,HP3.out,HP4.out];simp),hB2.trans (hT5.below (Nat.le_refl _))⟩
        case measure=>simp [intOf];omega
       case true=>
        repeat ((first | refine wK rfl ?_ | refine wL rfl ?_ | refine wB rfl ?_);simp only [pT])
        simp only [wpB];have hc0:=(hj2.cell 0).trans (zCY x);go_wp2;go_ret2;exact ⟨by rw [HST.out,HP1.out,HP3.out,HP4.out];simp,hB2⟩
      case true=>
       repeat ((first | refine wK rfl ?_ | refine wL rfl ?_ | refine wB rfl ?_);simp only [pT])
       simp only [wpB];have hc0:=(hj2.cell 0).trans (zCY x);go_wp2;go_ret2;exact ⟨by rw [HST.out,HP1.out,HP3.out];simp,hB2⟩
  ·have hk' : k = val.length:=by omega
   have hcj:=HCJ.out;rw [hk',List.drop_length] at hcj;have HR : Hid (clA js [] none val = (0,true)):=zz hcj;have hi0 : ¬ (k : Int) < (val.length : Int):=by omega
   clear hcj hk' HCJ;go_wp2;go_ret2;exact ⟨by rw [HR.out];rfl,hB⟩
end Go.Proofs.YtbbblemfodpmaaaGreat
