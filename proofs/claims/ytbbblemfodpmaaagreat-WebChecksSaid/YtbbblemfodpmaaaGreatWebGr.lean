/-The web of the document's examples: what the plain side says of it.-/
import Derived.Test.YtbbblemfodpmaaaGreatWebGp
import Derived.Test.YtbbblemfodpmaaaGreatWebGm
import Derived.Test.YtbbblemfodpmaaaGreatWebGq
import Derived.Test.YtbbblemfodpmaaaGreatWebGd
import Derived.Test.YtbbblemfodpmaaaGreatWebGj
import Derived.Test.YtbbblemfodpmaaaGreatWebGn
import Derived.Test.YtbbblemfodpmaaaGreatOrd
set_option linter.unusedVariables false
set_option linter.unusedSimpArgs false
set_option maxHeartbeats 16000000
set_option maxRecDepth 100000
section
namespace Go.Proofs.YtbbblemfodpmaaaGreat
open Go.RowKit
def samJ : List Joint:=[⟨1,⟨0,0⟩⟩,⟨2,⟨4,0⟩⟩,⟨3,⟨4,4⟩⟩,⟨4,⟨0,4⟩⟩,⟨5,⟨4,2⟩⟩]
def samL : List Lead:=[⟨1,1,2,0,0,0,0,0⟩,⟨2,2,5,0,0,0,0,0⟩,⟨3,5,3,0,0,0,0,0⟩,⟨4,3,4,0,0,0,0,0⟩,⟨5,4,1,0,0,0,0,0⟩,⟨6,1,5,0,0,0,0,0⟩]
def sam7 : Lead:=⟨7,2,4,0,0,0,0,0⟩
theorem zFs : (zAK samJ samL).1 = 0:=by decide +kernel
theorem zGb : (zAK samJ (samL ++ [sam7])).1 = 22:=by decide +kernel
theorem sam_walk : zAH samJ samL ⟨1,false⟩ = [⟨1,false⟩,⟨2,false⟩,⟨6,true⟩]:=by decide +kernel
theorem sam_area : zBd samJ samL (zAH samJ samL ⟨6,false⟩) = 24:=by decide +kernel
theorem sam_sound : zBW samJ samL = 0:=by decide +kernel
theorem sam_bounded : zBu samJ samL ≠ []:=by decide +kernel
theorem sam_euler : eulerA samJ samL = ⟨5,6,3,1⟩:=by decide +kernel
theorem sam_panes : (zEj samJ samL).map (fun p=>p.outline.length) = [3,4]:=by decide +kernel
theorem sam_told : Told samJ samL:=by unfold Told;decide +kernel
end Go.Proofs.YtbbblemfodpmaaaGreat
end
section
namespace Go.Proofs.YtbbblemfodpmaaaGreat
open Go.RowKit
theorem sameSides_any (a b : Sl Side) {D D' : Nat→Prop} {ok ok' : (Nat→Prop)→World→Side→Prop} (w : World) (ha : a.OK 2 zAa ok D w) (hb : b.OK 2 zAa ok' D' w) :
  Calls Tryz.prog 41 #[.slice a.a a.val.length a.cap, .slice b.a b.val.length b.cap] w fun e w'=>e = .returned (.bool (decide (a.val = b.val)))∧Below w.heap.size w w':=by
 have hra:=ha.room;have hrb:=hb.room;have HA:=zz ha;have HB:=zz hb;clear ha hb;obtain ⟨a,cap,va⟩:=a;obtain ⟨b,cap2,vb⟩:=b;simp only at hra hrb;go_enter Tryz.func41,Tryz.ntmps41
 by_cases hlen : va.length = vb.length
 case neg=>
  go_wp2;go_ret;have : ¬ va = vb:=fun h=>hlen (by rw [h]);exact ⟨by simp [this],Below.refl _ _⟩
 case pos=>
 obtain ⟨n,hn⟩ : ∃ n,va.length = n:=⟨_,rfl⟩
 have hn2 : vb.length = n:=by rw [← hlen,hn]
 rw [hn,hn2];rw [hn] at hra;have HN1:=zz hn;have HN2:=zz hn2;clear hlen hn hn2 hrb;go_wp2
 go_loopw [5] (fun i wr=>∃ k : Nat,k ≤ n∧i = .int .i64 k∧Hid (va.take k = vb.take k)∧Below w.heap.size w wr) (fun i _=>n - (intOf i).toNat)
 case atStart=>exact ⟨0,Nat.zero_le _,rfl,zz (by simp),Below.refl _ _⟩
 case round=>
  obtain ⟨k,hk,rfl,HT,hB⟩:=hrel
  by_cases hlt : k < n
  ·obtain ⟨x,hx⟩ : ∃ x,va[k]? = some x:=⟨_,List.getElem?_eq_getElem (by rw [HN1.out];exact hlt)⟩
   obtain ⟨y,hy⟩ : ∃ y,vb[k]? = some y:=⟨_,List.getElem?_eq_getElem (by rw [HN2.out];exact hlt)⟩
   obtain ⟨ab,ao,rfl,hab,_,_,hca⟩:=HA.out.at hx;obtain ⟨bb,bo,rfl,hbb,_,_,hcb⟩:=HB.out.at hy;have HCX : Hid (∀ W,Below w.heap.size w W→∀ j,j < (zAa x).size→W.cell? ⟨ab,ao + k * 2 + j,none⟩ = (zAa x)[j]?):=zz fun W hW j hj=>by
    rw [hW.cell (p:=⟨ab,ao + k * 2 + j,none⟩) hab];exact hca j hj
   have HCY : Hid (∀ W,Below w.heap.size w W→∀ j,j < (zAa y).size→W.cell? ⟨bb,bo + k * 2 + j,none⟩ = (zAa y)[j]?):=zz fun W hW j hj=>by
    rw [hW.cell (p:=⟨bb,bo + k * 2 + j,none⟩) hbb];exact hcb j hj
   have HX:=zz hx;have HY:=zz hy;clear hx hy hca hcb hab hbb
   by_cases hxy : x = y
   ·have HE : Hid (zBp x y = true):=zz (by unfold zBp;exact decide_eq_true hxy);have HXY:=zz hxy;clear hxy;go_wp2;refine rgO [(0,true),(1,true),(2,true),(3,true),(4,true),(5,true),(6,true),(7,true),(8,true)] ?_;iterate 3 (refine wB rfl ?_;simp only [pT])
    refine zAf (v:=.agg (zAa x)) rfl rfl (fun W hW=>zAE (zAa x) (HCX.out W ((hB.trans ((Lays.refl _).drew.below hB.size)).trans (hW.mono hB.size))) rfl zuA) ?_;simp only [pT];iterate 3 (refine wB rfl ?_;simp only [pT])
    refine zAf (v:=.agg (zAa y)) rfl rfl (fun W hW=>zAE (zAa y) (HCY.out W ((hB.trans ((Lays.refl _).drew.below hB.size)).trans (hW.mono hB.size))) rfl zuA) ?_;simp only [pT];refine wB rfl ?_;simp only [pT];simp only [wpB];rw [HE.out];go_wp2;go_roundw
    case rel=>
     refine ⟨k + 1,by omega,by go_num,zz ?_,hB.trans ((Lays.refl _).drew.below hB.size)⟩;rw [List.take_add_one,List.take_add_one,HT.out,HX.out,HY.out,HXY.out]
    case measure=>simp [intOf];omega
   ·have HE : Hid (zBp x y = false):=zz (by unfold zBp;exact decide_eq_false hxy);have HXY:=zz hxy;clear hxy;go_wp2;refine rgO [(0,true),(1,true),(2,true),(3,true),(4,true),(5,true),(6,true),(7,true),(8,true)] ?_;iterate 3 (refine wB rfl ?_;simp only [pT])
    refine zAf (v:=.agg (zAa x)) rfl rfl (fun W hW=>zAE (zAa x) (HCX.out W ((hB.trans ((Lays.refl _).drew.below hB.size)).trans (hW.mono hB.size))) rfl zuA) ?_;simp only [pT];iterate 3 (refine wB rfl ?_;simp only [pT])
    refine zAf (v:=.agg (zAa y)) rfl rfl (fun W hW=>zAE (zAa y) (HCY.out W ((hB.trans ((Lays.refl _).drew.below hB.size)).trans (hW.mono hB.size))) rfl zuA) ?_;simp only [pT];refine wB rfl ?_;simp only [pT];simp only [wpB];rw [HE.out];go_wp2;go_ret;have : ¬ va = vb:=fun h=>HXY.out (by have:=HX.out;rw [h,HY.out] at this;exact (Option.some.inj this).symm);exact ⟨by simp [this],hB.trans ((Lays.refl _).drew.below hB.size)⟩
  ·go_wp2;go_ret;have : va = vb:=by
    have h:=HT.out
    rwa [List.take_of_length_le (by rw [HN1.out];omega),List.take_of_length_le (by rw [HN2.out];omega)] at h
   exact ⟨by simp [this],hB⟩
end Go.Proofs.YtbbblemfodpmaaaGreat
end
section
namespace Go.Proofs.YtbbblemfodpmaaaGreat
open Go.RowKit
theorem Sl.OK.ofBox {α : Type} {enc : α→Array Value} {sz b : Nat} {T : TypeId} {cs : Array Value} {w : World} {ok : (Nat→Prop)→World→α→Prop} {D : Nat→Prop} (l : List α) (hsz : ∀ x,(enc x).size = sz) (hb : zAe w b T cs) (hcs : cs.toList = flat enc l) (hl : l.length ≤ 4294967296) (hD : ¬ D b) (hok : ∀ x ∈ l,ok D w x) :
  Sl.OK sz enc ok D w ⟨some ⟨b,0,none⟩,l.length,l⟩:=by
 refine ⟨Nat.le_refl _,hl,by simp,fun p hp _=>?_,hok,fun b' o' ha i x hi j hj=>?_⟩
 ·simp at hp;subst hp;exact ⟨rfl,hD,hb.lt⟩
 ·simp at ha;obtain ⟨rfl,rfl⟩:=ha;rw [hb.cell,Nat.zero_add,← zC6 (enc:=enc) hsz l i x hi j hj,← hcs];simp
theorem samJ_ok (W : World) : ∀ x ∈ samJ,zAs (fun _=>False) W x:=by
 intro x hx;simp only [samJ,List.mem_cons,List.not_mem_nil,or_false] at hx
 rcases hx with rfl | rfl | rfl | rfl | rfl <;> (unfold zAs I64;decide)
theorem samL_ok (W : World) : ∀ x ∈ samL,zAA (fun _=>False) W x:=by
 intro x hx;simp only [samL,List.mem_cons,List.not_mem_nil,or_false] at hx
 rcases hx with rfl | rfl | rfl | rfl | rfl | rfl <;> (unfold zAA I64;decide)
theorem sample3 (w : World) (cj cl : Array Value) (hj : cj.toList = flat zAh samJ) (hl : cl.toList = flat zAd samL) :
  zAe (((w.alloc (.cells #[Value.slice (some ⟨w.heap.size + 1,0,none⟩) 5 5,Value.slice (some ⟨w.heap.size + 1 + 1,0,none⟩) 6 6] 25)).alloc (.cells cj 29)).alloc (.cells cl 31)) w.heap.size 25 #[Value.slice (some ⟨w.heap.size + 1,0,none⟩) 5 5,Value.slice (some ⟨w.heap.size + 1 + 1,0,none⟩) 6 6]∧
  Sl.OK 3 zAh zAs (fun _=>False) (((w.alloc (.cells #[Value.slice (some ⟨w.heap.size + 1,0,none⟩) 5 5,Value.slice (some ⟨w.heap.size + 1 + 1,0,none⟩) 6 6] 25)).alloc (.cells cj 29)).alloc (.cells cl 31)) ⟨some ⟨w.heap.size + 1,0,none⟩,5,samJ⟩∧
  Sl.OK 8 zAd zAA (fun _=>False) (((w.alloc (.cells #[Value.slice (some ⟨w.heap.size + 1,0,none⟩) 5 5,Value.slice (some ⟨w.heap.size + 1 + 1,0,none⟩) 6 6] 25)).alloc (.cells cj 29)).alloc (.cells cl 31)) ⟨some ⟨w.heap.size + 1 + 1,0,none⟩,6,samL⟩∧
  Below w.heap.size w (((w.alloc (.cells #[Value.slice (some ⟨w.heap.size + 1,0,none⟩) 5 5,Value.slice (some ⟨w.heap.size + 1 + 1,0,none⟩) 6 6] 25)).alloc (.cells cj 29)).alloc (.cells cl 31)):=by
 refine ⟨((zAe.new _ _ _).alloc _).alloc _, ?_, ?_,((((Lays.refl w).alloc _).alloc _).alloc _).below (Nat.le_refl _)⟩
 ·have h:=zAe.new (w.alloc (.cells #[Value.slice (some ⟨w.heap.size + 1,0,none⟩) 5 5,Value.slice (some ⟨w.heap.size + 1 + 1,0,none⟩) 6 6] 25)) 29 cj;rw [World.size_alloc] at h;exact Sl.OK.ofBox samJ (fun _=>rfl) (h.alloc _) hj (by decide) id (samJ_ok _)
 ·have h:=zAe.new ((w.alloc (.cells #[Value.slice (some ⟨w.heap.size + 1,0,none⟩) 5 5,Value.slice (some ⟨w.heap.size + 1 + 1,0,none⟩) 6 6] 25)).alloc (.cells cj 29)) 31 cl;rw [World.size_alloc,World.size_alloc] at h;exact Sl.OK.ofBox samL (fun _=>rfl) h hl (by decide) id (samL_ok _)
theorem sample_any (w : World) : Calls Tryz.prog 70 #[] w fun e w'=>∃ ja la,e = .returned (.agg #[.slice ja 5 5, .slice la 6 6])∧Sl.OK 3 zAh zAs (fun _=>False) w' ⟨ja,5,samJ⟩∧Sl.OK 8 zAd zAA (fun _=>False) w' ⟨la,6,samL⟩∧Below w.heap.size w w':=by
 go_enter Tryz.func70,Tryz.ntmps70;go_wp2;generalize hcj : (#[Value.int IntKind.i64 1,Value.int IntKind.i64 0,Value.int IntKind.i64 0,Value.int IntKind.i64 2,Value.int IntKind.i64 4,Value.int IntKind.i64 0,Value.int IntKind.i64 3,Value.int IntKind.i64 4,Value.int IntKind.i64 4,Value.int IntKind.i64 4,Value.int IntKind.i64 0,Value.int IntKind.i64 4,Value.int IntKind.i64 5,Value.int IntKind.i64 4,Value.int IntKind.i64 2] : Array Value) = cj;generalize hcl : (#[Value.int IntKind.i64 1,Value.int IntKind.i64 1,Value.int IntKind.i64 2,Value.int IntKind.i64 0,Value.int IntKind.i64 0,Value.int IntKind.i64 0,Value.int IntKind.i64 0,Value.int IntKind.i64 0,Value.int IntKind.i64 2,Value.int IntKind.i64 2,Value.int IntKind.i64 5,Value.int IntKind.i64 0,Value.int IntKind.i64 0,Value.int IntKind.i64 0,Value.int IntKind.i64 0,Value.int IntKind.i64 0,Value.int IntKind.i64 3,Value.int IntKind.i64 5,Value.int IntKind.i64 3,Value.int IntKind.i64 0,Value.int IntKind.i64 0,Value.int IntKind.i64 0,Value.int IntKind.i64 0,Value.int IntKind.i64 0,Value.int IntKind.i64 4,Value.int IntKind.i64 3,Value.int IntKind.i64 4,Value.int IntKind.i64 0,Value.int IntKind.i64 0,Value.int IntKind.i64 0,Value.int IntKind.i64 0,Value.int IntKind.i64 0,Value.int IntKind.i64 5,Value.int IntKind.i64 4,Value.int IntKind.i64 1,Value.int IntKind.i64 0,Value.int IntKind.i64 0,Value.int IntKind.i64 0,Value.int IntKind.i64 0,Value.int IntKind.i64 0,Value.int IntKind.i64 6,Value.int IntKind.i64 1,Value.int IntKind.i64 5,Value.int IntKind.i64 0,Value.int IntKind.i64 0,Value.int IntKind.i64 0,Value.int IntKind.i64 0,Value.int IntKind.i64 0] : Array Value) = cl;have h:=sample3 w cj cl (by rw [← hcj];rfl) (by rw [← hcl];rfl);clear hcj hcl;obtain ⟨hb,h1,h2,h3⟩:=h;refine bodyPost_ret (zBs (cs:=#[Value.slice (some ⟨w.heap.size + 1,0,none⟩) 5 5,Value.slice (some ⟨w.heap.size + 1 + 1,0,none⟩) 6 6]) hb rfl rfl zuC) rfl ⟨_,_,rfl,h1,h2,h3⟩
end Go.Proofs.YtbbblemfodpmaaaGreat
end
section
namespace Go.Proofs.YtbbblemfodpmaaaGreat
open Go.RowKit
theorem smp_walk {ja la : Option Addr} {W : World} (hj : Sl.OK 3 zAh zAs (fun _=>False) W ⟨ja,5,samJ⟩) (hl : Sl.OK 8 zAd zAA (fun _=>False) W ⟨la,6,samL⟩) :
  Calls Tryz.prog 35 #[.agg #[.slice ja 5 5, .slice la 6 6], .agg #[.int .i64 1, .bool false]] W fun e w'=>∃ v,e = .returned (.tuple #[v, .int .i64 0])∧OwnL zAa 2 w' W.heap.size 59 v [⟨1,false⟩,⟨2,false⟩,⟨6,true⟩]∧Below W.heap.size W w':=by
 have h:=Walk_ok ⟨ja,5,samJ⟩ ⟨la,6,samL⟩ ⟨1,false⟩ W hj hl (by unfold I64;decide) (show zEf samJ samL ⟨1,false⟩ = 0 by decide +kernel);simp only [sam_walk] at h;exact h
theorem smp_area {ja la : Option Addr} {W : World} (hj : Sl.OK 3 zAh zAs (fun _=>False) W ⟨ja,5,samJ⟩) (hl : Sl.OK 8 zAd zAA (fun _=>False) W ⟨la,6,samL⟩) :
  Calls Tryz.prog 37 #[.agg #[.slice ja 5 5, .slice la 6 6], .agg #[.int .i64 6, .bool false]] W fun e w'=>e = .returned (.tuple #[.int .i64 24, .int .i64 0])∧Below W.heap.size W w':=by
 have h:=Area_ok ⟨ja,5,samJ⟩ ⟨la,6,samL⟩ ⟨6,false⟩ W hj hl (by unfold I64;decide) (show zEf samJ samL ⟨6,false⟩ = 0 by decide +kernel);simp only [sam_area] at h;exact h
theorem two_panes {W : World} {N : Nat} {v : Value} {ms : List PaneM} (h : OwnL zAJ 3 W N 82 v ms) (he : ms.map PaneM.plain = zEj samJ samL) :
  ∃ g cap a0 c0 a1 c1,v = .slice (some ⟨g,0,none⟩) 2 cap∧g < W.heap.size∧W.cell? ⟨g,1,none⟩ = some (.slice a0 3 c0)∧W.cell? ⟨g,4,none⟩ = some (.slice a1 4 c1):=by
 have e2 : ms.map (fun m=>m.o.val.length) = [3,4]:=by
  rw [← sam_panes,← he,List.map_map];rfl
 obtain ⟨m0,m1,rfl⟩ : ∃ m0 m1,ms = [m0,m1]:=by
  rcases ms with _ | ⟨a,_ | ⟨b,_ | ⟨c,l⟩⟩⟩
  ·simp at e2
  ·simp at e2
  ·exact ⟨_,_,rfl⟩
  ·simp at e2
 ·clear he;simp only [List.map_cons,List.map_nil,List.cons.injEq,and_true] at e2;obtain ⟨g,cap,rfl,_,hg,hc⟩:=OwnL.cellOf (enc:=zAJ) (sz:=3) (fun _=>rfl) h (k:=0) (x:=m0) rfl;obtain ⟨g2,cap2,e,_,hg2,hc2⟩:=OwnL.cellOf (enc:=zAJ) (sz:=3) (fun _=>rfl) h (k:=1) (x:=m1) rfl;simp only [Value.slice.injEq,Option.some.injEq,Addr.mk.injEq,and_true,true_and] at e;obtain ⟨rfl,rfl⟩:=e;refine ⟨g,cap,m0.o.a,m0.o.cap,m1.o.a,m1.o.cap,rfl,hg, ?_, ?_⟩
  ·have h:=hc 1 (by decide);rw [h];simp [zAJ,e2.1]
  ·have h:=hc2 1 (by decide);rw [h];simp [zAJ,e2.2]
theorem smp_panes {ja la : Option Addr} {W : World} (hj : Sl.OK 3 zAh zAs (fun _=>False) W ⟨ja,5,samJ⟩) (hl : Sl.OK 8 zAd zAA (fun _=>False) W ⟨la,6,samL⟩) :
  Calls Tryz.prog 14 #[.agg #[.slice ja 5 5, .slice la 6 6]] W fun e w'=>∃ g cap a0 c0 a1 c1,e = .returned (.tuple #[.slice (some ⟨g,0,none⟩) 2 cap, .int .i64 0])∧g < w'.heap.size∧w'.cell? ⟨g,1,none⟩ = some (.slice a0 3 c0)∧w'.cell? ⟨g,4,none⟩ = some (.slice a1 4 c1)∧Below W.heap.size W w':=by
 refine (Panes_ok ⟨ja,5,samJ⟩ ⟨la,6,samL⟩ W hj hl zFs sam_sound sam_told fun h=>absurd h sam_bounded).mono fun e w'=>?_;rintro ⟨v,ms,rfl,he,ho,_,hB⟩;obtain ⟨g,cap,a0,c0,a1,c1,rfl,h1,h2,h3⟩:=two_panes ho he;exact ⟨g,cap,a0,c0,a1,c1,rfl,h1,h2,h3,hB⟩
theorem smp_euler {ja la : Option Addr} {W : World} (hj : Sl.OK 3 zAh zAs (fun _=>False) W ⟨ja,5,samJ⟩) (hl : Sl.OK 8 zAd zAA (fun _=>False) W ⟨la,6,samL⟩) :
  Calls Tryz.prog 28 #[.agg #[.slice ja 5 5, .slice la 6 6]] W fun e w'=>e = .returned (.tuple #[.agg #[.int .i64 5, .int .i64 6, .int .i64 3, .int .i64 1], .int .i64 0])∧Below W.heap.size W w':=by
 have h:=Euler_ok ⟨ja,5,samJ⟩ ⟨la,6,samL⟩ W hj hl zFs;simp only [sam_euler] at h;exact h
theorem smp_apply {ja la : Option Addr} {W : World} (hj : Sl.OK 3 zAh zAs (fun _=>False) W ⟨ja,5,samJ⟩) (hl : Sl.OK 8 zAd zAA (fun _=>False) W ⟨la,6,samL⟩) :
  Calls Tryz.prog 15 #[.agg #[.slice ja 5 5, .slice la 6 6], .agg #[.int .i64 2, .int .i64 0, .int .i64 0, .int .i64 0, .int .i64 7, .int .i64 2, .int .i64 4, .int .i64 0, .int .i64 0, .int .i64 0, .int .i64 0, .int .i64 0, .int .i64 0]] W fun e w'=>e = .returned (.tuple #[.agg #[.slice none 0 0, .slice none 0 0], .int .i64 22])∧Below W.heap.size W w':=by
 have h:=Apply_bad ⟨ja,5,samJ⟩ ⟨la,6,samL⟩ sam7 (fun W=>by unfold zAA I64;decide) W hj hl (show samL.length ≤ 799 by decide) (show ∀ y ∈ samL,y.id ≤ sam7.id by decide) zFs (show (zAK samJ (samL ++ [sam7])).1 ≠ 0 by rw [zGb];decide);simp only [zGb] at h;exact h
theorem smp_same {v : Value} {W : World} {b N : Nat} (ho : OwnL zAa 2 W N 59 v [⟨1,false⟩,⟨2,false⟩,⟨6,true⟩]) (hb : zAe W b 59 #[.int .i64 1, .bool false, .int .i64 2, .bool false, .int .i64 6, .bool true]) :
  Calls Tryz.prog 41 #[v, .slice (some ⟨b,0,none⟩) 3 3] W fun e w'=>e = .returned (.bool true)∧Below W.heap.size W w':=by
 obtain ⟨t,ht,hts,htok,_⟩:=OwnL.sl (enc:=zAa) (sz:=2) ho (fun _=>rfl) (fun _ _ _=>True) (fun _=>False) (fun _ _=>trivial) (fun _ _ h=>h) (by decide);have h:=sameSides_any t ⟨some ⟨b,0,none⟩,3,[⟨1,false⟩,⟨2,false⟩,⟨6,true⟩]⟩ W htok (Sl.OK.ofBox (ok:=fun _ _ _=>True) (D:=fun _=>False) (enc:=zAa) (sz:=2) [⟨1,false⟩,⟨2,false⟩,⟨6,true⟩] (fun _=>rfl) hb rfl (by decide) id (fun _ _=>trivial));rw [ht,show t.v = .slice t.a t.val.length t.cap from rfl];rw [hts] at h ⊢;simp only [decide_true] at h;exact h
theorem below_lt {w w' : World} {g : Nat} (h : Below w.heap.size w w') (hg : g < w.heap.size) : g < w'.heap.size:=Nat.lt_of_lt_of_le hg h.size
theorem zCz {w w' : World} {g o : Nat} {v : Option Value} (h : Below w.heap.size w w') (hg : g < w.heap.size) (hc : w.cell? ⟨g,o,none⟩ = v) : w'.cell? ⟨g,o,none⟩ = v:=(h.cell (p:=⟨g,o,none⟩) hg).trans hc
theorem awake_any (w : World) : Calls Tryz.prog 13 #[] w fun e w'=>e = .returned (.bool true)∧Below w.heap.size w w':=by
 go_enter Tryz.func13,Tryz.ntmps13
 go_wp2_with (first
  | (go_at_call 70;refine (sample_any _).mono ?_;rintro e w1 ⟨ja,la,rfl,hj,hl,hb1⟩;have b1:=zAe.new w1 25 #[Value.slice ja 5 5, .slice la 6 6];have hB:=hb1.alloc hb1.size (.cells #[Value.slice ja 5 5, .slice la 6 6] 25);have hj:=hj.jmoved ((Below.refl w1.heap.size w1).alloc (Nat.le_refl _) (.cells #[Value.slice ja 5 5, .slice la 6 6] 25));have hl:=hl.lmoved ((Below.refl w1.heap.size w1).alloc (Nat.le_refl _) (.cells #[Value.slice ja 5 5, .slice la 6 6] 25)))
  | (go_at_call 35;refine (smp_walk hj hl).mono ?_;rintro e w2 ⟨vw,rfl,how,hb2⟩;have b2:=b1.belowAll hb2;have hj:=hj.jmoved hb2;have hl:=hl.lmoved hb2;have hB2:=hB.trans (hb2.mono hB.size))
  | (refine zLd 21 b2 #[Value.slice ja 5 5, .slice la 6 6] zuC ?_)
  | (go_at_call 37;refine (smp_area hj hl).mono ?_;rintro e w3 ⟨rfl,hb3⟩;have b3:=b2.belowAll hb3;have how3:=how.belowAll hb3;have hj:=hj.jmoved hb3;have hl:=hl.lmoved hb3;have hB3:=hB2.trans (hb3.mono hB2.size))
  | (refine zLd 27 b3 #[Value.slice ja 5 5, .slice la 6 6] zuC ?_)
  | (go_at_call 14;refine (smp_panes hj hl).mono ?_;rintro e w4 ⟨g,pc,a0,c0,a1,c1,rfl,hg,hq1,hq4,hb4⟩;have b4:=b3.belowAll hb4;have how4:=how3.belowAll hb4;have hj:=hj.jmoved hb4;have hl:=hl.lmoved hb4;have hB4:=hB3.trans (hb4.mono hB3.size))
  | (refine zLd 32 b4 #[Value.slice ja 5 5, .slice la 6 6] zuC ?_)
  | (go_at_call 28;refine (smp_euler hj hl).mono ?_;rintro e w5 ⟨rfl,hb5⟩;have hb5':=hb5.alloc hb5.size (.cells #[Value.int .i64 5, .int .i64 6, .int .i64 3, .int .i64 1] 54);have b5:=b4.belowAll hb5';have how5:=how4.belowAll hb5';have hj:=hj.jmoved hb5';have hl:=hl.lmoved hb5';have hB5:=hB4.trans (hb5'.mono hB4.size);have hg5:=below_lt hb5' hg;have hq1:=zCz hb5' hg hq1;have hq4:=zCz hb5' hg hq4;have bc5:=zAe.new w5 54 #[Value.int .i64 5, .int .i64 6, .int .i64 3, .int .i64 1])
  | (refine zLd 37 b5 #[Value.slice ja 5 5, .slice la 6 6] zuC ?_)
  | (go_at_call 15;refine (smp_apply hj hl).mono ?_;rintro e w6 ⟨rfl,hb6⟩;have hb6':=hb6.alloc hb6.size (.cells #[Value.slice none 0 0, .slice none 0 0] 25);have how6:=(how5.belowAll hb6').belowAll ((Below.refl (w6.alloc (.cells #[Value.slice none 0 0, .slice none 0 0] 25)).heap.size _).alloc (Nat.le_refl _) (.cells #[Value.int .i64 1, .bool false, .int .i64 2, .bool false, .int .i64 6, .bool true] 59));have hB6:=hB5.trans (hb6'.mono hB5.size);have hg6:=below_lt hb6' hg5;have hq1:=zCz hb6' hg5 hq1;have hq4:=zCz hb6' hg5 hq4;have bc6:=bc5.belowAll hb6';have bs6:=zAe.new (w6.alloc (.cells #[Value.slice none 0 0, .slice none 0 0] 25)) 59 #[Value.int .i64 1, .bool false, .int .i64 2, .bool false, .int .i64 6, .bool true];rw [World.size_alloc] at bs6;have hbs : Below (w6.alloc (.cells #[Value.slice none 0 0, .slice none 0 0] 25)).heap.size (w6.alloc (.cells #[Value.slice none 0 0, .slice none 0 0] 25)) ((w6.alloc (.cells #[Value.slice none 0 0, .slice none 0 0] 25)).alloc (.cells #[Value.int .i64 1, .bool false, .int .i64 2, .bool false, .int .i64 6, .bool true] 59)):=(Below.refl _ _).alloc (Nat.le_refl _) _)
  | (go_at_call 41;refine (smp_same how6 bs6).mono ?_;rintro e w7 ⟨rfl,hb7⟩;have bc7:=(bc6.belowAll hbs).belowAll hb7;have hg7:=below_lt hbs hg6;have hq1:=zCz hb7 hg7 (zCz hbs hg6 hq1);have hq4:=zCz hb7 hg7 (zCz hbs hg6 hq4);have hB7:=(hB6.trans (hbs.mono hB6.size)).trans (hb7.mono (hB6.trans (hbs.mono hB6.size)).size);have z0:=(bc7.cell 0).trans (show _ = some (.int .i64 5) from rfl);have z1:=(bc7.cell 1).trans (show _ = some (.int .i64 6) from rfl);have z2:=(bc7.cell 2).trans (show _ = some (.int .i64 3) from rfl);have z3:=(bc7.cell 3).trans (show _ = some (.int .i64 1) from rfl)))
 go_ret;have hE : zEN ⟨5,6,3,1⟩ ⟨5,6,3,1⟩ = true:=rfl;exact ⟨by simp [hE],hB7⟩
end Go.Proofs.YtbbblemfodpmaaaGreat
end
section
namespace Go.Proofs.YtbbblemfodpmaaaGreat
open Go.RowKit
end Go.Proofs.YtbbblemfodpmaaaGreat
end
section
namespace Go.Proofs.YtbbblemfodpmaaaGreat
open Go.RowKit
end Go.Proofs.YtbbblemfodpmaaaGreat
end
section
namespace Go.Proofs.YtbbblemfodpmaaaGreat
open Go.RowKit
section
variable {P : Program} {ops : Array Oper} {Q : Exit→Act→World→Prop} {m i j : Nat} {o1 o2 : List (Nat × Option Bool)}
end
end Go.Proofs.YtbbblemfodpmaaaGreat
end
section
namespace Go.Proofs.YtbbblemfodpmaaaGreat
open Go.RowKit
end Go.Proofs.YtbbblemfodpmaaaGreat
end
