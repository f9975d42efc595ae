/-What the sorts lean on: the row of sides that is sorted, its loads and its stores.-/
import Derived.Test.YtbbblemfodpmaaaGreatWebGb
import Derived.Test.YtbbblemfodpmaaaGreatOrd
import Derived.Test.YtbbblemfodpmaaaGreatWebGd
import Derived.Sort.Statements
import Derived.Sort.Grow
import Derived.Test.YtbbblemfodpmaaaGreatWebK
set_option linter.unusedVariables false
set_option linter.unusedSimpArgs false
set_option linter.unusedSectionVars false
set_option maxHeartbeats 16000000
set_option maxRecDepth 100000
section
namespace Go.Proofs.YtbbblemfodpmaaaGreat
open Go.RowKit
open Go.Sort (swp)
section
variable {α : Type} [Inhabited α] (en : α→Side)
def rowC (d : Array α) (tail : List Value) : Array Value:=(flat (fun x=>zAa (en x)) d.toList ++ tail).toArray
structure SW (w0 : World) (blk : Nat) (tail : List Value) (d : Array α) (W : World) : Prop where
 row : zAe W blk 59 (rowC en d tail)
 out : w0.grownBy W (some blk)
def zCX (w0 : World) (blk : Nat) (recv : Value) (cf : α→α→Int) : Prop:=
 ∀ W,w0.grownBy W (some blk)→∀ x y,Calls Tryz.prog 187 #[recv, .agg (zAa (en x)), .agg (zAa (en y))] W fun e w'=>e = .returned (.int .i64 (cf x y))∧Lays W w'
variable {en} {w0 : World} {blk : Nat} {tail : List Value} {d : Array α} {W : World}
theorem zAo {i : Nat} {x : α} (hi : d[i]? = some x) : ∀ j,j < (zAa (en x)).size→(rowC en d tail)[i * 2 + j]? = (zAa (en x))[j]?:=fun j hj=>by
 have hl : i < d.size:=(Array.getElem?_eq_some_iff.1 hi).1;have hj2 : j < 2:=hj;have h:=zC6 (enc:=fun x=>zAa (en x)) (sz:=2) (fun _=>rfl) d.toList i x (by simpa using hi) j hj2;have hf:=zBn (enc:=fun x=>zAa (en x)) (sz:=2) (fun _=>rfl) d.toList;unfold rowC;rw [List.getElem?_toArray,List.getElem?_append_left (by rw [hf];simp;omega)];exact h
theorem zFm (d : Array α) (tail : List Value) : (rowC en d tail).size = d.size * 2 + tail.length:=by
 unfold rowC;simp [zBn (enc:=fun x=>zAa (en x)) (sz:=2) (fun _=>rfl) d.toList]
theorem splice_getS (cs : Array Value) : ∀ (vs : List Value) (o m : Nat),o + vs.length ≤ cs.size→(zAx cs o vs)[m]? = if o ≤ m∧m < o + vs.length then vs[m - o]? else cs[m]?:=by
 intro vs
 induction vs generalizing cs with
 | nil=>intro o m _;simp [zAx];omega
 | cons v vs ih=>
  intro o m h;simp only [List.length_cons] at h;unfold zAx;rw [ih (cs.setIfInBounds o v) (o + 1) m (by simp;omega)]
  by_cases h1 : o + 1 ≤ m∧m < o + 1 + vs.length
  ·rw [if_pos h1,if_pos (by simp only [List.length_cons];omega),show m - o = (m - (o + 1)) + 1 by omega,List.getElem?_cons_succ]
  ·rw [if_neg h1]
   by_cases h2 : m = o
   ·subst h2;rw [if_pos (by simp only [List.length_cons];omega)];simp [Array.getElem?_setIfInBounds];omega
   ·rw [if_neg (by simp only [List.length_cons];omega),Array.getElem?_setIfInBounds_ne (by omega)]
theorem rowC_set {i : Nat} (x : α) (hi : i < d.size) : zAx (rowC en d tail) (i * 2) (zAa (en x)).toList = rowC en (d.setIfInBounds i x) tail:=by
 have hs:=zFm (en:=en) d tail
 apply Array.ext_getElem?
 intro m;rw [splice_getS _ _ _ _ (by rw [hs];simp [zAa];omega)];unfold rowC;have e : (fun x=>zAa (en x)) = fun x=>zAa (en x):=rfl;have hf:=zBn (enc:=fun x=>zAa (en x)) (sz:=2) (fun _=>rfl) d.toList;have hf2:=zBn (enc:=fun x=>zAa (en x)) (sz:=2) (fun _=>rfl) (d.toList.set i x);have hset:=flat_set (enc:=fun x=>zAa (en x)) (sz:=2) (fun _=>rfl) d.toList i x (by simpa using hi) m;simp only [Array.toList_setIfInBounds,List.getElem?_toArray] at *
 rcases Nat.lt_or_ge m (d.size * 2) with hm | hm
 ·rw [List.getElem?_append_left (by rw [hf];simp;omega),List.getElem?_append_left (by rw [hf2];simp;omega),hset];simp [zAa]
 ·rw [List.getElem?_append_right (by rw [hf];simp;omega),List.getElem?_append_right (by rw [hf2];simp;omega),hf2,hf];rw [if_neg (by simp [zAa];omega)];simp
theorem SW.lays {w' : World} (h : SW en w0 blk tail d W) (l : Lays W w') : SW en w0 blk tail d w':=by
 have hb:=l.below (n:=W.heap.size) (Nat.le_refl _);have hg:=h.out;exact ⟨h.row.belowAll hb,⟨hb.os.trans hg.os,hb.tape.trans hg.tape,hb.output.trans hg.output,Nat.le_trans hg.size hb.size,fun k hk hne=>(hb.block k (Nat.lt_of_lt_of_le hk hg.size)).trans (hg.block k hk hne)⟩⟩
theorem SW.drew (h : SW en w0 blk tail d W) : SW en w0 blk tail d W.drew:=h.lays ((Lays.refl W).drew)
theorem SW.set {w' : World} (h : SW en w0 blk tail d W) {i : Nat} {x : α} (hi : i < d.size) (hb : zAe w' blk 59 (zAx (rowC en d tail) (i * 2) (zAa (en x)).toList)) (ht : Turn blk W w') : SW en w0 blk tail (d.setIfInBounds i x) w':=by
 have hg:=h.out;exact ⟨hb.eqv (rowC_set x hi),⟨ht.os.trans hg.os,ht.tape.trans hg.tape,ht.output.trans hg.output,by rw [ht.size];exact hg.size,fun k hk hne=>(ht.block k (fun e=>hne (by rw [e]))).trans (hg.block k hk hne)⟩⟩
theorem i64w {z : Int} (h : -4611686018427387904 ≤ z∧z ≤ 4611686018427387904) : IntKind.i64.wrap z = z:=IntWalk.i64_in _ (by omega)
end
end Go.Proofs.YtbbblemfodpmaaaGreat
end
section
namespace Go.Proofs.YtbbblemfodpmaaaGreat
open Go.RowKit
open Go.Sort (swp)
theorem bang {α : Type} [Inhabited α] {d : Array α} {i : Nat} (h : i < d.size) : d[i]? = some d[i]!:=by
 rw [getElem!_pos d i h,Array.getElem?_eq_getElem h]
theorem zA2 {α : Type} [Inhabited α] {en : α→Side} {d : Array α} {tail : List Value} {i : Nat} (h : i < d.size) {v : Value} (hv : v.cells.size = 2:=by rfl) : Nat.ble (i * 2 + v.cells.size) (rowC en d tail).size = true:=by
 rw [hv,zFm];exact Nat.ble_eq_true_of_le (by omega)
theorem zAj {W : World} {ev : Operand→Value} {dst : Option Tmp} {ty0 : TypeId} {x y : Operand} {pos : String} {af : Array Edge} {g : Option (Nat × Bool)} {blk n cap i : Nat} {z : Int} (hx : ev x = .slice (some ⟨blk,0,none⟩) n cap) (hy : ev y = .int .i64 z) (hz : z = (i : Int)) (hi : i < n) :
  (execOp ev ⟨dst, .indexAddr 62 x y,ty0,pos,af,g⟩).run Tryz.prog W = .ok (.value (.pointer (some ⟨blk,i * 2,none⟩))) W:=by
 subst hz;have hi1 : (i : Int) < (n : Int):=by omega
 unfold execOp;simp only [hx,hy]
 go_simp
def ltC {α : Type} (cf : α→α→Int) (x y : α) : Bool:=decide (cf x y < 0)
theorem zBr {α : Type} [Inhabited α] (d : Array α) (i j : Nat) : (swp d i j).size = d.size:=by simp [swp]
open Go.Sort
section
variable {α : Type} [Inhabited α] {en : α→Side} {w0 : World} {blk : Nat} {tail : List Value} {recv : Value} {cf : α→α→Int}
theorem insertion_s (HCM : zCX en w0 blk recv cf) (d : Array α) (a b cap : Nat) (w : World) (hS : SW en w0 blk tail d w) (hab : a ≤ b) (hb : b ≤ d.size) (hsz : d.size ≤ 4294967296) :
  Calls Tryz.prog 222 #[.slice (some ⟨blk,0,none⟩) d.size cap, .int .i64 a, .int .i64 b,(.func (.func 187) #[recv] #[])] w fun e w'=>e = .returned (.tuple #[])∧SW en w0 blk tail (insertionSort (ltC cf) d a b) w':=by
 have HC:=zz HCM;obtain ⟨n,hn⟩ : ∃ n,d.size = n:=⟨_,rfl⟩
 rw [hn] at hb hsz ⊢;have HN:=zz hn;have HD : Hid (insertionSort (ltC cf) d a b = insOuter (ltC cf) a b (a + 1) d):=zz rfl;have k0 : IntKind.i64.wrap ((a : Int) + 1) = (a : Int) + 1:=i64w (by omega);clear HCM hn;go_enter Tryz.func222,Tryz.ntmps222;go_wp2
 go_loopw [8,9] (fun i _ wr=>∃ (k : Nat) (d1 : Array α),a < k∧k ≤ n + 1∧i = .int .i64 k∧Hid (d1.size = n)∧Hid (insOuter (ltC cf) a b (a + 1) d = insOuter (ltC cf) a b k d1)∧Hid (SW en w0 blk tail d1 wr)) (fun i _ _=>b - (intOf i).toNat)
 case atStart=>exact ⟨a + 1,d,by omega,by omega,rfl,HN,zz rfl,zz hS⟩
 case round=>
  obtain ⟨k,d1,hak,hkn,rfl,HN1,HI,HS⟩:=hrel
  by_cases hlt : k < b
  ·have hi1 : (k : Int) < (b : Int):=by omega
   have HI2 : Hid (insOuter (ltC cf) a b (a + 1) d = insOuter (ltC cf) a b (k + 1) (insInner (ltC cf) a k d1)):=zz (by rw [HI.out,insOuter,if_pos hlt]);clear HI;go_wp2
   go_loopw [9] (fun j wr=>∃ (q : Nat) (d2 : Array α),q ≤ k∧j = .int .i64 q∧Hid (d2.size = n)∧Hid (insInner (ltC cf) a k d1 = insInner (ltC cf) a q d2)∧Hid (SW en w0 blk tail d2 wr)) (fun j _=>(intOf j).toNat)
   case atStart=>exact ⟨k,d1,Nat.le_refl _,rfl,HN1,zz rfl,HS⟩
   case round=>
    obtain ⟨q,d2,hq,rfl,HN2,HJ,HS2⟩:=hrel;have hge : n ≤ d2.size:=by have:=HN2.out;omega
    have hSd:=HS2.out.drew
    by_cases hqa : a < q
    ·obtain ⟨p,rfl⟩ : ∃ p,q = p + 1:=⟨q - 1,by omega⟩
     have hp0 : (p : Int) + 1 < (n : Int):=by omega
     have hp1 : (p : Int) < (n : Int):=by omega
     have hpa : (a : Int) < (p : Int) + 1:=by omega
     have k1 : IntKind.i64.wrap (p : Int) = (p : Int):=i64w (by omega);obtain ⟨c,hc⟩ : ∃ c,decide (cf d2[p + 1]! d2[p]! < 0) = c:=⟨_,rfl⟩
     have HCc:=zz hc;have hstep : insInner (ltC cf) a (p + 1) d2 = if c then insInner (ltC cf) a p (swp d2 (p + 1) p) else d2:=by rw [insInner,← hc];simp [ltC,hqa]
     have HST:=zz hstep;clear hc hstep HS2
     cases c
     case true=>
      go_wp2;refine rgO [(0,true),(1,true),(2,true),(3,true),(4,true),(5,true),(6,true),(7,true),(8,true),(9,true),(10,true),(11,true),(12,true),(13,true),(14,false),(15,true),(16,true)] ?_
      repeat ((first | refine wK rfl ?_ | refine wL rfl ?_ | refine wB rfl ?_);simp only [pT])
      try (refine zAf (v:=.pointer (some ⟨blk,(p + 1) * 2,none⟩)) rfl rfl (fun W hW=>zAj (n:=n) (i:=p + 1) rfl rfl (by first | omega | (simp only [*];try omega)) (by omega)) ?_;simp only [pT])
      refine zAf (v:=.agg (zAa (en (d2[p + 1]!)))) rfl rfl (fun W hW=>zAc (zAa (en (d2[p + 1]!))) (hSd.row.belowAll hW) rfl (zAo (bang (by omega))) zuA) ?_;simp only [pT]
      repeat ((first | refine wK rfl ?_ | refine wL rfl ?_ | refine wB rfl ?_);simp only [pT])
      try (refine zAf (v:=.pointer (some ⟨blk,(p) * 2,none⟩)) rfl rfl (fun W hW=>zAj (n:=n) (i:=p) rfl rfl (by first | omega | (simp only [*];try omega)) (by omega)) ?_;simp only [pT])
      refine zAf (v:=.agg (zAa (en (d2[p]!)))) rfl rfl (fun W hW=>zAc (zAa (en (d2[p]!))) (hSd.row.belowAll hW) rfl (zAo (bang (by omega))) zuA) ?_;simp only [pT];refine zAG rfl rfl (fun K hK=>?_)
      go_simp
      refine (HC.out _ hSd.out _ _).mono ?_;rintro e w2 ⟨rfl,l2⟩;have hb2:=l2.below (Nat.le_refl _);have hS2:=hSd.lays l2;clear l2;refine hK _ _ hb2 ?_;clear hK K
      try simp only [pT]
      refine zAf (v:=.bool true) rfl rfl (fun W hW=>by go_simp;simpa using HCc.out) ?_;simp only [pT]
      repeat ((first | refine wK rfl ?_ | refine wL rfl ?_ | refine wB rfl ?_);simp only [pT])
      simp only [wpB];go_wp2;have hSd2:=hS2.drew;refine rgM 15 [(0,none),(1,none),(2,none),(3,none),(4,none),(5,none),(6,none),(7,none),(8,none),(10,none),(11,none),(12,none),(9,some true),(13,some true),(14,none),(15,some false),(16,none),(17,some false)] ?_;iterate 8 (refine wC rfl ?_;simp only [pT])
      refine zAq (v:=.pointer (some ⟨blk,(p) * 2,none⟩)) rfl rfl (fun W=>zAj (n:=n) (i:=p) rfl rfl (by first | omega | (simp only [*];try omega)) (by omega)) ?_;simp only [pT];iterate 2 (refine wC rfl ?_;simp only [pT])
      refine zAq (v:=.pointer (some ⟨blk,(p + 1) * 2,none⟩)) rfl rfl (fun W=>zAj (n:=n) (i:=p + 1) rfl rfl (by first | omega | (simp only [*];try omega)) (by omega)) ?_;simp only [pT];refine zAN (v:=.agg (zAa (en (d2[p]!)))) rfl rfl (fun W hW=>zAc (zAa (en (d2[p]!))) (hSd2.row.belowAll hW) rfl (zAo (bang (by omega))) zuA) ?_;simp only [pT];refine zAN (v:=.agg (zAa (en (d2[p + 1]!)))) rfl rfl (fun W hW=>zAc (zAa (en (d2[p + 1]!))) (hSd2.row.belowAll hW) rfl (zAo (bang (by omega))) zuA) ?_;simp only [pT];refine zAq (v:=.pointer (some ⟨blk,(p + 1) * 2,none⟩)) rfl rfl (fun W=>zAj (n:=n) (i:=p + 1) rfl rfl (by first | omega | (simp only [*];try omega)) (by omega)) ?_;simp only [pT];refine zBk rfl rfl (fun K hK=>?_);refine zAr hSd2.row 59 _ _ rfl rfl (.agg (zAa (en (d2[p]!)))) rfl (by kernel_rfl) (zA2 (by omega)) (zAn _) ?_;intro w2 b2 t2;have hSm:=hSd2.set (i:=p + 1) (x:=d2[p]!) (by omega) b2 t2;clear b2 t2;refine hK _ _ ?_;clear hK K
      try simp only [pT]
      refine zAq (v:=.pointer (some ⟨blk,(p) * 2,none⟩)) rfl rfl (fun W=>zAj (n:=n) (i:=p) rfl rfl (by first | omega | (simp only [*];try omega)) (by omega)) ?_;simp only [pT];refine zBy rfl rfl (fun K hK=>?_);refine zAr hSm.row 59 _ _ rfl rfl (.agg (zAa (en (d2[p + 1]!)))) rfl (by kernel_rfl) (zA2 (by simp only [Array.size_setIfInBounds];omega)) (zAn _) ?_;intro w2 b2 t2;have hS3:=hSm.set (i:=p) (x:=d2[p + 1]!) (by simp only [Array.size_setIfInBounds];omega) b2 t2;clear b2 t2;refine hK _ _ ?_;clear hK K
      try simp only [pT]
      simp only [wpC];go_wp2;go_roundw
      case rel=>exact ⟨p,swp d2 (p + 1) p,by omega,by go_num,zz (by rw [zBr];exact HN2.out),zz (by rw [HJ.out,HST.out];rfl),zz hS3⟩
      case measure=>(simp [intOf];try omega)
     case false=>
      go_wp2;refine rgO [(0,true),(1,true),(2,true),(3,true),(4,true),(5,true),(6,true),(7,true),(8,true),(9,true),(10,true),(11,true),(12,true),(13,true),(14,false),(15,true),(16,true)] ?_
      repeat ((first | refine wK rfl ?_ | refine wL rfl ?_ | refine wB rfl ?_);simp only [pT])
      try (refine zAf (v:=.pointer (some ⟨blk,(p + 1) * 2,none⟩)) rfl rfl (fun W hW=>zAj (n:=n) (i:=p + 1) rfl rfl (by first | omega | (simp only [*];try omega)) (by omega)) ?_;simp only [pT])
      refine zAf (v:=.agg (zAa (en (d2[p + 1]!)))) rfl rfl (fun W hW=>zAc (zAa (en (d2[p + 1]!))) (hSd.row.belowAll hW) rfl (zAo (bang (by omega))) zuA) ?_;simp only [pT]
      repeat ((first | refine wK rfl ?_ | refine wL rfl ?_ | refine wB rfl ?_);simp only [pT])
      try (refine zAf (v:=.pointer (some ⟨blk,(p) * 2,none⟩)) rfl rfl (fun W hW=>zAj (n:=n) (i:=p) rfl rfl (by first | omega | (simp only [*];try omega)) (by omega)) ?_;simp only [pT])
      refine zAf (v:=.agg (zAa (en (d2[p]!)))) rfl rfl (fun W hW=>zAc (zAa (en (d2[p]!))) (hSd.row.belowAll hW) rfl (zAo (bang (by omega))) zuA) ?_;simp only [pT];refine zAG rfl rfl (fun K hK=>?_)
      go_simp
      refine (HC.out _ hSd.out _ _).mono ?_;rintro e w2 ⟨rfl,l2⟩;have hb2:=l2.below (Nat.le_refl _);have hS2:=hSd.lays l2;clear l2;refine hK _ _ hb2 ?_;clear hK K
      try simp only [pT]
      refine zAf (v:=.bool false) rfl rfl (fun W hW=>by go_simp;simpa using HCc.out) ?_;simp only [pT]
      repeat ((first | refine wK rfl ?_ | refine wL rfl ?_ | refine wB rfl ?_);simp only [pT])
      simp only [wpB];go_wp2;go_roundw
      case rel=>exact ⟨k + 1,d2,by omega,by omega,by go_num,HN2,zz (by rw [HI2.out,HJ.out,HST.out];rfl),zz hS2⟩
      case measure=>(simp [intOf];try omega)
    ·have hpa : ¬ (a : Int) < (q : Int):=by omega
     have HST : Hid (insInner (ltC cf) a q d2 = d2):=zz (by cases q with | zero=>rfl | succ p=>rw [insInner];simp [hqa]);go_wp2;refine rgO [(0,true),(1,true),(2,true),(3,true),(4,true),(5,true),(6,true),(7,true),(8,true),(9,true),(10,true),(11,true),(12,true),(13,true),(14,false),(15,true),(16,true)] ?_
     repeat ((first | refine wK rfl ?_ | refine wL rfl ?_ | refine wB rfl ?_);simp only [pT])
     simp only [wpB];go_wp2;go_roundw
     case rel=>exact ⟨k + 1,d2,by omega,by omega,by go_num,HN2,zz (by rw [HI2.out,HJ.out,HST.out]),zz hSd⟩
     case measure=>(simp [intOf];try omega)
  ·have hi0 : ¬ (k : Int) < (b : Int):=by omega
   have HR : Hid (insertionSort (ltC cf) d a b = d1):=zz (by rw [HD.out,HI.out,insOuter,if_neg hlt]);clear HI;go_wp2
   go_end0
   exact ⟨rfl,by rw [HR.out];exact HS.out⟩
end
end Go.Proofs.YtbbblemfodpmaaaGreat
end
