/-The joints and the leads of a web: which is the first that is wrong.-/
import Derived.Test.YtbbblemfodpmaaaGreatWebGb
set_option linter.unusedVariables false
set_option linter.unusedSimpArgs false
set_option maxHeartbeats 16000000
set_option maxRecDepth 100000
namespace Go.Proofs.YtbbblemfodpmaaaGreat
open Go.RowKit
theorem zEn (w : World) : (zeroValue 4).run Tryz.prog w = .ok (.bool false) w:=by kernel_rfl
def seenM (l : List Point) : List (Point × Bool):=l.map fun p=>(p,true)
theorem seen_get (l : List Point) (p : Point) : (aget (seenM l) p).getD false = l.contains p:=by
 unfold aget seenM;rw [List.find?_map,Option.map_map]
 induction l with
 | nil=>rfl
 | cons x l ih=>
  simp only [List.contains_cons,List.find?_cons,Function.comp_apply]
  by_cases h : x = p
  ·subst h;simp
  ·have h' : (p == x) = false:=beq_eq_false_iff_ne.2 (fun e=>h e.symm);simp only [h,decide_false,h',Bool.false_or];exact ih
theorem seen_put {l : List Point} {p : Point} (h : l.contains p = false) : aput (seenM l) p true = seenM (l ++ [p]):=by
 have hn : ahas (seenM l) p = false:=by
  rw [zBP];intro q hq e;obtain ⟨x,hx,rfl⟩:=List.mem_map.1 hq;simp only at e;subst e;simp [hx] at h
 unfold aput;rw [hn];simp [seenM]
theorem zCf (x : Joint) : ∀ j,j < (zAb x.at_).size→(zAh x)[1 + j]? = (zAb x.at_)[j]?:=fun j hj=>by
 have : j < 2:=hj
 rcases (by omega : j = 0 ∨ j = 1) with rfl | rfl <;> rfl
def ptsK (l : List Joint) (k : Nat) : List Point:=(l.take k).map (·.at_)
def prvK (l : List Joint) (k : Nat) : Option Int:=(l.take k).getLast?.map (·.id)
theorem zBJ {α : Type} {l : List α} {k : Nat} {x : α} (hx : l[k]? = some x) : l.take (k + 1) = l.take k ++ [x]:=by rw [List.take_add_one,hx];rfl
theorem zEX {α : Type} {l : List α} {k : Nat} {x : α} (hx : l[k]? = some x) : l.drop k = x :: l.drop (k + 1):=by
 obtain ⟨h1,h2⟩:=List.getElem?_eq_some_iff.1 hx;rw [List.drop_eq_getElem_cons h1,h2]
theorem cj_step {l : List Joint} {k : Nat} {x : Joint} (hx : l[k]? = some x) (h : cjA [] none l = cjA (ptsK l k) (prvK l k) (l.drop k)) :
  cjA [] none l = if !zBg x.id || !inP x.at_ || zBE (prvK l k) x.id || (ptsK l k).contains x.at_ then (x.id,false) else cjA (ptsK l (k + 1)) (prvK l (k + 1)) (l.drop (k + 1)):=by
 rw [h,zEX hx];unfold ptsK prvK;rw [zBJ hx];simp only [cjA,List.map_append,List.map_cons,List.map_nil,List.getLast?_concat,Option.map_some]
theorem prv_succ {l : List Joint} {k : Nat} {y : Joint} (hy : l[k]? = some y) : prvK l (k + 1) = some y.id:=by unfold prvK;rw [zBJ hy];simp
theorem zFX (s : Sl Joint) (w : World) (hs : s.OK 3 zAh zAs (fun _=>False) w) (hl : s.val.length ≤ 200) :
  Calls Tryz.prog 74 #[.slice s.a s.val.length s.cap] w fun e w'=>e = .returned (.tuple #[.int .i64 (cjA [] none s.val).1, .bool (cjA [] none s.val).2])∧Below w.heap.size w w':=by
 have HS:=zz hs;clear hs;obtain ⟨a,cap,val⟩:=s;simp only at hl;have hmm:=@run_makeMap Tryz.prog;go_enter Tryz.func74,Tryz.ntmps74;go_wp2
 go_loopw [10] (fun i wr=>∃ k : Nat,k ≤ val.length∧i = .int .i64 k∧Hid (MapAt zAL Value.bool (fun _=>True) wr w.heap.size (seenM (ptsK val k)))∧Hid (cjA [] none val = cjA (ptsK val k) (prvK val k) (val.drop k))∧Below w.heap.size w wr) (fun i _=>val.length - (intOf i).toNat)
 case atStart=>exact ⟨0,Nat.zero_le _,rfl,zz (MapAt.made _ _ _ _),zz rfl,(Below.refl _ _).alloc (Nat.le_refl _) _⟩
 case round=>
  obtain ⟨k,hk,rfl,HM,HCJ,hB⟩:=hrel
  by_cases hlt : k < val.length
  ·obtain ⟨x,hx⟩ : ∃ x,val[k]? = some x:=⟨_,List.getElem?_eq_getElem hlt⟩
   have hi1 : (k : Int) < (val.length : Int):=by omega
   obtain ⟨bj,oj,rfl,hbj,_,_,hcell⟩:=HS.out.at hx;have HC : Hid (∀ W,Below w.heap.size w W→∀ j,j < (zAh x).size→W.cell? ⟨bj,oj + k * 3 + j,none⟩ = (zAh x)[j]?):=zz fun W hW j hj=>(hW.cell (p:=⟨bj,oj + k * 3 + j,none⟩) hbj).trans (hcell j hj);have hB0 : Below w.heap.size w (wr.alloc (.cells (zAh x) 29)).drew:=(hB.alloc hB.size _).drew;have hjb : zAe (wr.alloc (.cells (zAh x) 29)).drew wr.heap.size 29 (zAh x):=(zAe.new _ _ _).drew;have hmd : MapAt zAL Value.bool (fun _=>True) (wr.alloc (.cells (zAh x) 29)).drew w.heap.size (seenM (ptsK val k)):=(HM.out.alloc _).of_block rfl;have HX:=zz hx;have hst:=cj_step hx HCJ.out;obtain ⟨p4,hp4⟩ : ∃ p4,(ptsK val k).contains x.at_ = p4:=⟨_,rfl⟩
   have HP4g:=zz ((seen_get (ptsK val k) x.at_).trans hp4);have HP4:=zz hp4;have HST:=zz hst;have hbj':=hbj;have HSC : Hid (∀ y,val[k - 1]? = some y→w.cell? ⟨bj,oj + (k - 1) * 3,none⟩ = some (.int .i64 y.id)):=zz fun y hy=>(HS.out.cell bj oj rfl (k - 1) y hy 0 (by decide)).trans rfl;clear hx hcell hst hp4 HM HCJ hbj
   rcases Nat.eq_zero_or_pos k with rfl | hk0
   ·have HP3 : Hid (zBE (prvK val 0) x.id = false):=zz rfl;rw [show ((0 : Nat) : Int) = 0 from rfl];have HC0 : ∀ j,j < (zAh x).size→wr.cell? ⟨bj,oj + j,none⟩ = (zAh x)[j]?:=by have h:=HC.out _ hB;simpa using h
    have HC00:=zz HC0;clear HC0
    go_wp2_with (first
     | ((with_reducible refine zAm 14 ?_);refine zLe 14 bj oj (zAh x) HC00.out zuG ?_)
     | ((with_reducible refine zDy ?_);refine zAk (cs:=zAh x) rfl 29 _ _ rfl rfl rfl rfl (by kernel_rfl) rfl (zBj _) ?_))
    refine rgO [(0,true),(1,true),(2,false),(3,true),(4,true),(5,true),(6,true),(7,false),(8,true),(9,true),(10,true),(11,true),(12,true),(13,true),(14,true),(15,true),(16,true),(17,true),(18,true),(19,true),(20,true),(21,true),(22,true),(23,true),(24,true),(25,true),(26,true),(27,true),(28,true),(29,true),(30,true)] ?_
    repeat ((first | refine wK rfl ?_ | refine wL rfl ?_ | refine wB rfl ?_);simp only [pT])
    refine zAf (v:=.int .i64 x.id) rfl rfl (fun W hW=>by have e : W.cell? ⟨wr.heap.size,0,none⟩ = some (.int .i64 x.id):=((hjb.belowAll hW).cell 0).trans rfl;go_simp) ?_;simp only [pT];refine zAG rfl rfl (fun K hK=>?_)
    go_simp
    refine (zFk x.id _).mono ?_;rintro e w1 ⟨rfl,rfl⟩;obtain ⟨p1,hp1⟩ : ∃ p1,zBg x.id = p1:=⟨_,rfl⟩
    have HP1:=zz hp1;rw [hp1];clear hp1;refine hK _ _ (Below.refl _ _) ?_;clear hK K
    try simp only [pT]
    cases p1
    case false=>
     repeat ((first | refine wK rfl ?_ | refine wL rfl ?_ | refine wB rfl ?_);simp only [pT])
     simp only [wpB];have hc0:=(hjb.cell 0).trans (zCi x);go_wp2;go_ret2;exact ⟨by rw [HST.out,HP1.out];simp,hB0⟩
    case true=>
     repeat ((first | refine wK rfl ?_ | refine wL rfl ?_ | refine wB rfl ?_);simp only [pT])
     refine zAf (v:=.agg (zAb x.at_)) rfl rfl (fun W hW=>zAc (zAb x.at_) (hjb.belowAll hW) rfl (zCf x) zuB) ?_;simp only [pT];refine zAG rfl rfl (fun K hK=>?_)
     go_simp
     refine (zEO x.at_ _).mono ?_;rintro e w2 ⟨rfl,l2⟩;have hb2:=l2.below (Nat.le_refl _);have hB2:=hB0.trans (hb2.mono hB0.size);have hj2:=hjb.belowAll hb2;have hm2:=hmd.below hb2 hmd.lt;obtain ⟨p2,hp2⟩ : ∃ p2,inP x.at_ = p2:=⟨_,rfl⟩
     have HP2:=zz hp2;rw [hp2];clear hp2;refine hK _ _ hb2 ?_;clear hK K
     try simp only [pT]
     cases p2
     case false=>
      repeat ((first | refine wK rfl ?_ | refine wL rfl ?_ | refine wB rfl ?_);simp only [pT])
      simp only [wpB];have hc0:=(hj2.cell 0).trans (zCi x);go_wp2;go_ret2;exact ⟨by rw [HST.out,HP1.out,HP2.out];simp,hB0.trans (hb2.mono hB0.size)⟩
     case true=>
      repeat ((first | refine wK rfl ?_ | refine wL rfl ?_ | refine wB rfl ?_);simp only [pT])
      refine zAf (v:=.agg (zAb x.at_)) rfl rfl (fun W hW=>zAc (zAb x.at_) (hj2.belowAll hW) rfl (zCf x) zuB) ?_;simp only [pT];refine zAf (v:=.bool p4) rfl rfl (fun W hW=>Eq.trans (zA6 zEW Tryz.underlying200 false (zEn _) rfl (hm2.below hW hm2.lt) x.at_ trivial rfl) (by rw [HP4g.out];rfl)) ?_;simp only [pT]
      cases p4
      case false=>
       repeat ((first | refine wK rfl ?_ | refine wL rfl ?_ | refine wB rfl ?_);simp only [pT])
       simp only [wpB];have hc0:=(hj2.cell 0).trans (zCi x);have hBz:=hB0.trans (hb2.mono hB0.size)
       go_wp2_with (first
        | ((with_reducible refine zAm 50 ?_);refine zA4 hj2 rfl 27 _ rfl rfl (zAb x.at_) (zCf x) zuB ?_)
        | (at_mapUpdate;refine zBx rfl _ _ _ 200 rfl zEW Tryz.underlying200 rfl hm2 x.at_ trivial rfl true rfl ?_;intro w5 hm5 hT5))
       rw [seen_put HP4.out] at hm5;go_roundw
       case rel=>exact ⟨1,by omega,by go_num,zz (by unfold ptsK at hm5 ⊢;rw [zBJ HX.out,List.map_append];exact hm5),zz (by rw [HST.out,HP1.out,HP2.out,HP4.out,HP3.out];simp),hBz.trans (hT5.below (Nat.le_refl _))⟩
       case measure=>simp [intOf];omega
      case true=>
       repeat ((first | refine wK rfl ?_ | refine wL rfl ?_ | refine wB rfl ?_);simp only [pT])
       simp only [wpB];have hc0:=(hj2.cell 0).trans (zCi x);go_wp2;go_ret2;exact ⟨by rw [HST.out,HP1.out,HP2.out,HP4.out,HP3.out];simp,hB0.trans (hb2.mono hB0.size)⟩
   ·obtain ⟨k,rfl⟩ : ∃ q,k = q + 1:=⟨k - 1,by omega⟩
    obtain ⟨y,hy⟩ : ∃ y,val[k]? = some y:=⟨_,List.getElem?_eq_getElem (by omega)⟩
    obtain ⟨p3,hp3⟩ : ∃ p3,zBE (prvK val (k + 1)) x.id = p3:=⟨_,rfl⟩
    have HP3:=zz hp3;clear hp3;have HY : Hid (∀ W,Below w.heap.size w W→W.cell? ⟨bj,oj + k * 3,none⟩ = some (.int .i64 y.id)):=zz fun W hW=>by
     have h:=HSC.out y hy;exact (hW.cell (p:=⟨bj,oj + k * 3,none⟩) hbj').trans h
    have HP3d : Hid (decide (x.id ≤ y.id) = p3):=zz (by have h:=HP3.out;rw [prv_succ hy] at h;exact h);have k1 : IntKind.i64.wrap (k : Int) = (k : Int):=IntWalk.i64_in _ (by omega);have hkl : k < val.length:=by omega
    clear hy hbj'
    go_wp2_with (first
     | ((with_reducible refine zAm 14 ?_);refine zLe 14 bj (oj + (k + 1) * 3) (zAh x) (HC.out _ hB) zuG ?_)
     | ((with_reducible refine zDy ?_);refine zAk (cs:=zAh x) rfl 29 _ _ rfl rfl rfl rfl (by kernel_rfl) rfl (zBj _) ?_))
    refine rgO [(0,true),(1,true),(2,false),(3,true),(4,true),(5,true),(6,true),(7,false),(8,true),(9,true),(10,true),(11,true),(12,true),(13,true),(14,true),(15,true),(16,true),(17,true),(18,true),(19,true),(20,true),(21,true),(22,true),(23,true),(24,true),(25,true),(26,true),(27,true),(28,true),(29,true),(30,true)] ?_
    repeat ((first | refine wK rfl ?_ | refine wL rfl ?_ | refine wB rfl ?_);simp only [pT])
    refine zAf (v:=.int .i64 x.id) rfl rfl (fun W hW=>by have e : W.cell? ⟨wr.heap.size,0,none⟩ = some (.int .i64 x.id):=((hjb.belowAll hW).cell 0).trans rfl;go_simp) ?_;simp only [pT];refine zAG rfl rfl (fun K hK=>?_)
    go_simp
    refine (zFk x.id _).mono ?_;rintro e w1 ⟨rfl,rfl⟩;obtain ⟨p1,hp1⟩ : ∃ p1,zBg x.id = p1:=⟨_,rfl⟩
    have HP1:=zz hp1;rw [hp1];clear hp1;refine hK _ _ (Below.refl _ _) ?_;clear hK K
    try simp only [pT]
    cases p1
    case false=>
     repeat ((first | refine wK rfl ?_ | refine wL rfl ?_ | refine wB rfl ?_);simp only [pT])
     simp only [wpB];have hc0:=(hjb.cell 0).trans (zCi x);go_wp2;go_ret2;exact ⟨by rw [HST.out,HP1.out];simp,hB0⟩
    case true=>
     repeat ((first | refine wK rfl ?_ | refine wL rfl ?_ | refine wB rfl ?_);simp only [pT])
     refine zAf (v:=.agg (zAb x.at_)) rfl rfl (fun W hW=>zAc (zAb x.at_) (hjb.belowAll hW) rfl (zCf x) zuB) ?_;simp only [pT];refine zAG rfl rfl (fun K hK=>?_)
     go_simp
     refine (zEO x.at_ _).mono ?_;rintro e w2 ⟨rfl,l2⟩;have hb2:=l2.below (Nat.le_refl _);have hB2:=hB0.trans (hb2.mono hB0.size);have hj2:=hjb.belowAll hb2;have hm2:=hmd.below hb2 hmd.lt;obtain ⟨p2,hp2⟩ : ∃ p2,inP x.at_ = p2:=⟨_,rfl⟩
     have HP2:=zz hp2;rw [hp2];clear hp2;refine hK _ _ hb2 ?_;clear hK K
     try simp only [pT]
     cases p2
     case false=>
      repeat ((first | refine wK rfl ?_ | refine wL rfl ?_ | refine wB rfl ?_);simp only [pT])
      simp only [wpB];have hc0:=(hj2.cell 0).trans (zCi x);go_wp2;go_ret2;exact ⟨by rw [HST.out,HP1.out,HP2.out];simp,hB0.trans (hb2.mono hB0.size)⟩
     case true=>
      repeat ((first | refine wK rfl ?_ | refine wL rfl ?_ | refine wB rfl ?_);simp only [pT])
      refine zAf (v:=.int .i64 x.id) rfl rfl (fun W hW=>by have e : W.cell? ⟨wr.heap.size,0,none⟩ = some (.int .i64 x.id):=((hj2.belowAll hW).cell 0).trans rfl;go_simp) ?_;simp only [pT]
      repeat ((first | refine wK rfl ?_ | refine wL rfl ?_ | refine wB rfl ?_);simp only [pT])
      refine zAf (v:=.int .i64 y.id) rfl rfl (fun W hW=>by have e : W.cell? ⟨bj,oj + k * 3,none⟩ = some (.int .i64 y.id):=HY.out W (hB2.trans (hW.mono hB2.size));go_simp) ?_;simp only [pT];refine zAf (v:=.bool p3) rfl rfl (fun W hW=>by go_simp;rw [HP3d.out]) ?_;simp only [pT]
      cases p3
      case false=>
       repeat ((first | refine wK rfl ?_ | refine wL rfl ?_ | refine wB rfl ?_);simp only [pT])
       refine zAf (v:=.agg (zAb x.at_)) rfl rfl (fun W hW=>zAc (zAb x.at_) (hj2.belowAll hW) rfl (zCf x) zuB) ?_;simp only [pT];refine zAf (v:=.bool p4) rfl rfl (fun W hW=>Eq.trans (zA6 zEW Tryz.underlying200 false (zEn _) rfl (hm2.below hW hm2.lt) x.at_ trivial rfl) (by rw [HP4g.out];rfl)) ?_;simp only [pT]
       cases p4
       case false=>
        repeat ((first | refine wK rfl ?_ | refine wL rfl ?_ | refine wB rfl ?_);simp only [pT])
        simp only [wpB];have hc0:=(hj2.cell 0).trans (zCi x);have hBz:=hB0.trans (hb2.mono hB0.size)
        go_wp2_with (first
         | ((with_reducible refine zAm 50 ?_);refine zA4 hj2 rfl 27 _ rfl rfl (zAb x.at_) (zCf x) zuB ?_)
         | (at_mapUpdate;refine zBx rfl _ _ _ 200 rfl zEW Tryz.underlying200 rfl hm2 x.at_ trivial rfl true rfl ?_;intro w5 hm5 hT5))
        rw [seen_put HP4.out] at hm5;go_roundw
        case rel=>exact ⟨k + 2,by omega,by go_num,zz (by unfold ptsK at hm5 ⊢;rw [zBJ HX.out,List.map_append];exact hm5),zz (by rw [HST.out,HP1.out,HP2.out,HP3.out,HP4.out];simp),hBz.trans (hT5.below (Nat.le_refl _))⟩
        case measure=>simp [intOf];omega
       case true=>
        repeat ((first | refine wK rfl ?_ | refine wL rfl ?_ | refine wB rfl ?_);simp only [pT])
        simp only [wpB];have hc0:=(hj2.cell 0).trans (zCi x);go_wp2;go_ret2;exact ⟨by rw [HST.out,HP1.out,HP2.out,HP3.out,HP4.out];simp,hB0.trans (hb2.mono hB0.size)⟩
      case true=>
       repeat ((first | refine wK rfl ?_ | refine wL rfl ?_ | refine wB rfl ?_);simp only [pT])
       simp only [wpB];have hc0:=(hj2.cell 0).trans (zCi x);go_wp2;go_ret2;exact ⟨by rw [HST.out,HP1.out,HP2.out,HP3.out];simp,hB0.trans (hb2.mono hB0.size)⟩
  ·have hk' : k = val.length:=by omega
   have hcj:=HCJ.out;rw [hk',List.drop_length] at hcj;have HR : Hid (cjA [] none val = (0,true)):=zz hcj;have hi0 : ¬ (k : Int) < (val.length : Int):=by omega
   clear hcj hk' HCJ;go_wp2;go_ret2;exact ⟨by rw [HR.out];rfl,hB⟩
end Go.Proofs.YtbbblemfodpmaaaGreat
