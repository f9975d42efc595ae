/-Points compared; the first of the least; places in a list.-/
import Derived.Test.YtbbblemfodpmaaaGreatWebGn
set_option linter.unusedVariables false
set_option linter.unusedSimpArgs false
set_option maxHeartbeats 16000000
set_option maxRecDepth 100000
section
namespace Go.Proofs.YtbbblemfodpmaaaGreat
open Go.RowKit
def orZ (l : List Int) : Int:=(l.find? fun x=>!decide (x = 0)).getD 0
def orZ2 (a b : Int) : Int:=if a ≠ 0 then a else b
def zCj (p q : Point) : Int:=orZ2 (cmpZ p.x q.x) (cmpZ p.y q.y)
theorem or_any (s : Sl Int) {D : Nat→Prop} {ok : (Nat→Prop)→World→Int→Prop} (w : World) (hs : s.OK 1 zAC ok D w) :
  Calls Tryz.prog 184 #[.slice s.a s.val.length s.cap] w fun e w'=>e = .returned (.int .i64 (orZ s.val))∧w' = w:=by
 have HS:=zz hs;have hroom:=hs.room;clear hs;obtain ⟨a,cap,val⟩:=s;simp only at hroom;go_enter Tryz.func184,Tryz.ntmps184;go_wp2
 go_loopw [8] (fun i wr=>∃ k : Nat,k ≤ val.length∧i = .int .i64 k∧Hid (∀ (j : Nat) y,j < k→val[j]? = some y→y = 0)∧wr = w) (fun i _=>val.length - (intOf i).toNat)
 case atStart=>exact ⟨0,Nat.zero_le _,rfl,zz (by omega),rfl⟩
 case round=>
  obtain ⟨k,hk,rfl,hn,rfl⟩:=hrel
  by_cases hlt : k < val.length
  ·obtain ⟨x,hx⟩ : ∃ x,val[k]? = some x:=⟨_,List.getElem?_eq_getElem hlt⟩
   have HX:=zz hx;obtain ⟨b,o,rfl,hb,_,hok,hcell⟩:=HS.out.at hx;have q0 : wr.cell? ⟨b,o + k,none⟩ = some (.int .i64 x):=by have h:=hcell 0 Nat.one_pos;rw [Nat.mul_one,Nat.add_zero] at h;exact h.trans rfl
   clear hx hcell
   by_cases hx0 : x = 0
   ·subst hx0;go_wp2;go_roundw
    case rel=>
     refine ⟨k + 1,by omega,by go_num,zz fun j y hj hy=>?_,trivial⟩
     rcases Nat.lt_succ_iff_lt_or_eq.1 hj with h | rfl
     ·exact hn.out j y h hy
     ·rw [HX.out] at hy;cases hy;rfl
    case measure=>simp [intOf];omega
   ·have hxb : (x != 0) = true:=by simpa using hx0
    have HX0:=zz hx0;clear hx0;go_wp2;go_ret;refine ⟨?_,rfl⟩;have e : orZ val = x:=by
     unfold orZ;have h1 : val.find? (fun x=>!decide (x = 0)) = some x:=by
      rw [List.find?_eq_some_iff_getElem];obtain ⟨h2,h3⟩:=List.getElem?_eq_some_iff.1 HX.out;refine ⟨by simpa using HX0.out,k,h2,h3,fun j hj=>?_⟩;have:=hn.out j (val[j]) hj (List.getElem?_eq_getElem _);simp [this]
     rw [h1];rfl
    simp only [e]
    rfl
  ·have hkv : k = val.length:=by omega
   subst hkv;go_wp2;go_ret;refine ⟨?_,rfl⟩;have e : orZ val = 0:=by
    unfold orZ;have h1 : val.find? (fun x=>!decide (x = 0)) = none:=by
     rw [List.find?_eq_none];intro x hx;obtain ⟨n,hn'⟩:=List.mem_iff_getElem?.1 hx;simp [hn.out n x (List.getElem?_eq_some_iff.1 hn').1 hn']
    rw [h1];rfl
   simp only [e]
   rfl
theorem indexInt_any (s : Sl Int) (v : Int) {D : Nat→Prop} {ok : (Nat→Prop)→World→Int→Prop} (w : World) (hs : s.OK 1 zAC ok D w) :
  Calls Tryz.prog 182 #[.slice s.a s.val.length s.cap, .int .i64 v] w fun e w'=>e = .returned (.int .i64 (idxI (fun y=>decide (v = y)) s.val))∧w' = w:=by
 have HS:=zz hs;have hroom:=hs.room;clear hs;obtain ⟨a,cap,val⟩:=s;simp only at hroom;go_enter Tryz.func182,Tryz.ntmps182;go_wp2
 go_loopw [5,8] (fun _ i wr=>∃ k : Nat,k ≤ val.length∧i = .int .i64 k∧Hid (∀ (j : Nat) y,j < k→val[j]? = some y→decide (v = y) = false)∧wr = w) (fun _ i _=>val.length - (intOf i).toNat)
 case atStart=>exact ⟨0,Nat.zero_le _,rfl,zz (by omega),rfl⟩
 case round=>
  obtain ⟨k,hk,rfl,hn,rfl⟩:=hrel
  by_cases hlt : k < val.length
  ·obtain ⟨x,hx⟩ : ∃ x,val[k]? = some x:=⟨_,List.getElem?_eq_getElem hlt⟩
   have HX:=zz hx;obtain ⟨b,o,rfl,hb,_,hok,hcell⟩:=HS.out.at hx;have q0 : wr.cell? ⟨b,o + k,none⟩ = some (.int .i64 x):=by have h:=hcell 0 Nat.one_pos;rw [Nat.mul_one,Nat.add_zero] at h;exact h.trans rfl
   clear hx hcell
   by_cases hvx : v = x
   ·subst hvx;go_wp2;go_ret;exact ⟨by simp [zCg HX.out hn.out (by simp)],rfl⟩
   ·have hxb : (v == x) = false:=by simpa using hvx
    have HVX:=zz hvx;clear hvx;go_wp2;go_roundw
    case rel=>
     refine ⟨k + 1,by omega,by go_num,zz fun j y hj hy=>?_,trivial⟩
     rcases Nat.lt_succ_iff_lt_or_eq.1 hj with h | rfl
     ·exact hn.out j y h hy
     ·rw [HX.out] at hy;cases hy;exact decide_eq_false HVX.out
    case measure=>simp [intOf];omega
  ·go_wp2;go_ret;refine ⟨?_,rfl⟩;rw [zCy fun j y hy=>hn.out j y (by have:=(List.getElem?_eq_some_iff.1 hy).1;omega) hy]
   rfl
theorem two_ok {W : World} {g : Nat} {a b : Int} (hb : zAe W g 3 #[.int .i64 a, .int .i64 b]) : Sl.OK 1 zAC (fun _ _ _=>True) (fun _=>False) W ⟨some ⟨g,0,none⟩,2,[a,b]⟩:=by
 refine ⟨by simp,by simp,fun hn=>by simp at hn,fun p hp _=>?_,fun _ _=>trivial,fun b' o ha i x hi j hj=>?_⟩
 ·simp at hp;subst hp;exact ⟨rfl,id,hb.lt⟩
 ·simp at ha;obtain ⟨rfl,rfl⟩:=ha;obtain rfl : j = 0:=by have : (zAC x).size = 1:=rfl;omega
  rw [hb.cell]
  rcases i with _ | _ | i
  ·simp at hi;subst hi;rfl
  ·simp at hi;subst hi;rfl
  ·simp at hi
theorem or_two (a b : Int) : orZ [a,b] = orZ2 a b:=by
 unfold orZ orZ2
 by_cases h : a = 0
 ·by_cases k : b = 0 <;> simp [h,k]
 ·simp [h]
theorem orTwo_any {W : World} {g : Nat} {a b : Int} (hb : zAe W g 3 #[.int .i64 a, .int .i64 b]) : Calls Tryz.prog 184 #[.slice (some ⟨g,0,none⟩) 2 2] W fun e w'=>e = .returned (.int .i64 (orZ2 a b))∧w' = W:=by
 have h:=or_any (⟨some ⟨g,0,none⟩,2,[a,b]⟩ : Sl Int) _ (two_ok hb);simp only [List.length_cons,List.length_nil,or_two] at h;exact h
theorem zD4 (p q : Point) (w : World) :
  Calls Tryz.prog 141 #[.agg (zAb p), .agg (zAb q)] w fun e w'=>e = .returned (.int .i64 (zCj p q))∧Lays w w':=by
 have H0 : Hid (zAe ((w.alloc (.cells (zAb p) 27)).alloc (.cells (zAb q) 27)).drew w.heap.size 27 (zAb p)):=zz ((zAe.new _ _ _).alloc _).drew;have H1 : Hid (zAe ((w.alloc (.cells (zAb p) 27)).alloc (.cells (zAb q) 27)).drew (w.heap.size + 1) 27 (zAb q)):=zz (by
  have h:=zAe.new (w.alloc (.cells (zAb p) 27)) 27 (zAb q);rw [World.size_alloc] at h;exact h.drew)
 have H2 : Hid (zAe (((w.alloc (.cells (zAb p) 27)).alloc (.cells (zAb q) 27)).alloc (.cells #[.int .i64 (cmpZ p.x q.x), .int .i64 (cmpZ p.y q.y)] 3)).drew (w.heap.size + 1 + 1) 3 #[.int .i64 (cmpZ p.x q.x), .int .i64 (cmpZ p.y q.y)]):=zz (by
  have h:=zAe.new ((w.alloc (.cells (zAb p) 27)).alloc (.cells (zAb q) 27)) 3 #[.int .i64 (cmpZ p.x q.x), .int .i64 (cmpZ p.y q.y)];rw [World.size_alloc,World.size_alloc] at h;exact h.drew)
 go_enter Tryz.func141,Tryz.ntmps141;go_wp2;refine rgO [(0,true),(1,true),(2,true),(3,true),(5,true),(6,true),(7,true),(8,true),(4,false),(9,false),(10,false),(11,false),(12,true)] ?_;refine wB rfl ?_;simp only [pT];refine zAf (v:=.int .i64 p.x) rfl rfl (fun W hW=>by have e : W.cell? ⟨w.heap.size,0,none⟩ = some (.int .i64 p.x):=((H0.out.belowAll hW).cell 0).trans rfl;go_simp) ?_;simp only [pT];refine wB rfl ?_;simp only [pT];refine zAf (v:=.int .i64 q.x) rfl rfl (fun W hW=>by have e : W.cell? ⟨(w.heap.size + 1),0,none⟩ = some (.int .i64 q.x):=((H1.out.belowAll hW).cell 0).trans rfl;go_simp) ?_;simp only [pT];refine wB rfl ?_;simp only [pT];refine zAf (v:=.int .i64 p.y) rfl rfl (fun W hW=>by have e : W.cell? ⟨w.heap.size,1,none⟩ = some (.int .i64 p.y):=((H0.out.belowAll hW).cell 1).trans rfl;go_simp) ?_;simp only [pT];refine wB rfl ?_;simp only [pT];refine zAf (v:=.int .i64 q.y) rfl rfl (fun W hW=>by have e : W.cell? ⟨(w.heap.size + 1),1,none⟩ = some (.int .i64 q.y):=((H1.out.belowAll hW).cell 1).trans rfl;go_simp) ?_;simp only [pT];refine zAG rfl rfl (fun K hK=>?_)
 go_simp
 refine (zDA _ _ _).mono ?_;rintro e w3 ⟨rfl,rfl⟩;refine hK _ _ (Below.refl _ _) ?_;clear hK K
 try simp only [pT]
 refine zAG rfl rfl (fun K hK=>?_)
 go_simp
 refine (zDA _ _ _).mono ?_;rintro e w3 ⟨rfl,rfl⟩;refine hK _ _ (Below.refl _ _) ?_;clear hK K
 try simp only [pT]
 refine zAG rfl rfl (fun K hK=>?_)
 go_simp
 refine hK _ _ ((Below.refl _ _).alloc (Nat.le_refl _) _) ?_;clear hK K
 try simp only [pT]
 refine zAG rfl rfl (fun K hK=>?_)
 go_simp
 refine (orTwo_any H2.out).mono ?_;rintro e w4 ⟨rfl,rfl⟩;refine hK _ _ (Below.refl _ _) ?_;clear hK K
 try simp only [pT]
 refine wB rfl ?_;simp only [pT];simp only [wpB];go_wp2;go_ret;exact ⟨rfl,(((Lays.refl _).alloc _).alloc _).alloc _ |>.drew⟩
theorem pane1_any (s : Sl Point) {D : Nat→Prop} {ok : (Nat→Prop)→World→Point→Prop} (w0 : World) (hs : s.OK 2 zAb ok D w0) {i k : Nat} {x y : Point} (hi : s.val[i]? = some x) (hk : s.val[k]? = some y) (bx : Nat) (w : World) (hw : Below w0.heap.size w0 w) (hb : zAe w bx 80 #[.slice s.a s.val.length s.cap]) :
  Calls Tryz.prog 181 #[.int .i64 i, .int .i64 k, .pointer (some ⟨bx,0,none⟩)] w fun e w'=>e = .returned (.int .i64 (zCj x y))∧Lays w w':=by
 obtain ⟨bb,o,ha,hbb,_,_,hcx⟩:=hs.at hi;obtain ⟨b2,o2,ha2,hbb2,_,_,hcy⟩:=hs.at hk;rw [ha] at ha2;simp only [Option.some.injEq,Addr.mk.injEq,and_true] at ha2;obtain ⟨rfl,rfl⟩:=ha2;have HCX : Hid (∀ W,Below w.drew.heap.size w W→∀ j,j < (zAb x).size→W.cell? ⟨bb,o + i * 2 + j,none⟩ = (zAb x)[j]?):=zz fun W hW j hj=>(hW.cell (p:=⟨bb,o + i * 2 + j,none⟩) (Nat.lt_of_lt_of_le hbb hw.size)).trans ((hw.cell (p:=⟨bb,o + i * 2 + j,none⟩) hbb).trans (hcx j hj));have HCY : Hid (∀ W,Below w.drew.heap.size w W→∀ j,j < (zAb y).size→W.cell? ⟨bb,o + k * 2 + j,none⟩ = (zAb y)[j]?):=zz fun W hW j hj=>(hW.cell (p:=⟨bb,o + k * 2 + j,none⟩) (Nat.lt_of_lt_of_le hbb hw.size)).trans ((hw.cell (p:=⟨bb,o + k * 2 + j,none⟩) hbb).trans (hcy j hj));have hD : Below w.drew.heap.size w w.drew:=(Lays.refl w).drew.below (Nat.le_refl _);have HB:=zz hb.drew;have hil:=(List.getElem?_eq_some_iff.1 hi).1;have hkl:=(List.getElem?_eq_some_iff.1 hk).1;obtain ⟨a,cap,val⟩:=s;simp only at ha hil hkl HB;subst ha;obtain ⟨n,hn⟩ : ∃ n,val.length = n:=⟨_,rfl⟩
 rw [hn] at hil hkl HB;have i1 : (i : Int) < (n : Int):=by omega
 have i2 : (k : Int) < (n : Int):=by omega
 clear hs hi hk hcx hcy hb hw hn;go_enter Tryz.func181,Tryz.ntmps181;go_wp2;refine rgO [(0,true),(1,true),(2,true),(3,true),(4,true),(5,true),(6,true),(7,true),(8,false),(9,true)] ?_;refine zAf (v:=.slice (some ⟨bb,o,none⟩) n cap) rfl rfl (fun W hW=>by have e : W.cell? ⟨bx,0,none⟩ = some (.slice (some ⟨bb,o,none⟩) n cap):=((HB.out.belowAll hW).cell 0).trans rfl;go_simp) ?_;simp only [pT];refine wB rfl ?_;simp only [pT];refine zAf (v:=.pointer (some ⟨bb,o + i * 2,none⟩)) rfl rfl (fun W hW=>by go_simp) ?_;simp only [pT];refine zAf (v:=.agg (zAb x)) rfl rfl (fun W hW=>zAE (zAb x) (HCX.out W (hD.trans hW)) rfl zuB) ?_;simp only [pT];refine zAf (v:=.slice (some ⟨bb,o,none⟩) n cap) rfl rfl (fun W hW=>by have e : W.cell? ⟨bx,0,none⟩ = some (.slice (some ⟨bb,o,none⟩) n cap):=((HB.out.belowAll hW).cell 0).trans rfl;go_simp) ?_;simp only [pT];refine wB rfl ?_;simp only [pT];refine zAf (v:=.pointer (some ⟨bb,o + k * 2,none⟩)) rfl rfl (fun W hW=>by go_simp) ?_;simp only [pT];refine zAf (v:=.agg (zAb y)) rfl rfl (fun W hW=>zAE (zAb y) (HCY.out W (hD.trans hW)) rfl zuB) ?_;simp only [pT];refine zAG rfl rfl (fun K hK=>?_)
 go_simp
 refine (zD4 _ _ _).mono ?_;rintro e w3 ⟨rfl,l3⟩;have hb3:=l3.below (Nat.le_refl _);refine hK _ _ hb3 ?_;clear hK K
 try simp only [pT]
 refine wB rfl ?_;simp only [pT];simp only [wpB];go_wp2;go_ret;exact ⟨by simp,(Lays.refl _).drew.trans l3⟩
end Go.Proofs.YtbbblemfodpmaaaGreat
end
section
namespace Go.Proofs.YtbbblemfodpmaaaGreat
open Go.RowKit
def minZ (c : Int→Int→Int) : List Int→Int
 | []=>0
 | x :: l=>l.foldl (fun m i=>if c i m < 0 then i else m) x
theorem minZ_take {c : Int→Int→Int} {l : List Int} {k : Nat} {x : Int} (hk : l[k]? = some x) (h1 : 1 ≤ k) : minZ c (l.take (k + 1)) = if c x (minZ c (l.take k)) < 0 then x else minZ c (l.take k):=by
 cases l with
 | nil=>simp at hk
 | cons y l=>
  obtain ⟨k,rfl⟩ : ∃ n,k = n + 1:=⟨k - 1,by omega⟩
  simp only [List.getElem?_cons_succ] at hk;simp only [List.take_succ_cons,minZ];rw [List.take_add_one,hk,List.foldl_append];rfl
theorem min_any (s : Sl Int) {D : Nat→Prop} {ok : (Nat→Prop)→World→Int→Prop} (hne : s.val ≠ []) (c : Int→Int→Int) (cl : Value) (w : World) (hs : s.OK 1 zAC ok D w)
  (hc : ∀ x ∈ s.val,∀ y ∈ s.val,∀ W,Below w.heap.size w W→Calls Tryz.prog 181 #[.int .i64 x, .int .i64 y,cl] W fun e W'=>e = .returned (.int .i64 (c x y))∧Lays W W') :
  Calls Tryz.prog 180 #[.slice s.a s.val.length s.cap, .func (.func 181) #[] #[cl]] w fun e w'=>e = .returned (.int .i64 (minZ c s.val))∧Below w.heap.size w w':=by
 have HS:=zz hs;have HCL:=zz hc;have hroom:=hs.room;clear hs hc;obtain ⟨a,cap,val⟩:=s;simp only at hroom hne;obtain ⟨x0,l0,hx0⟩:=List.exists_cons_of_ne_nil hne;have hl0 : 0 < val.length:=by rw [hx0];simp
 have hl1 : ¬ val.length < 1:=by omega
 have hv0 : val[0]? = some x0:=by rw [hx0];rfl
 obtain ⟨b,o,rfl,hb,_,_,hcell0⟩:=HS.out.at hv0;have CELL : Hid (∀ (k : Nat) (x : Int),val[k]? = some x→∀ W,Below w.heap.size w W→W.cell? ⟨b,o + k,none⟩ = some (.int .i64 x)):=zz fun k x hx W hW=>by
  obtain ⟨b2,o2,e,_,_,_,hc⟩:=HS.out.at hx;simp only [Option.some.injEq,Addr.mk.injEq,and_true] at e;obtain ⟨rfl,rfl⟩:=e;have h:=hc 0 Nat.one_pos;rw [Nat.mul_one,Nat.add_zero] at h;exact (hW.cell (p:=⟨b,o + k,none⟩) hb).trans (h.trans rfl)
 have q0:=CELL.out 0 x0 hv0 w (Below.refl _ _);rw [Nat.add_zero] at q0;have HM : Hid (minZ c (val.take 1) = x0):=zz (by rw [hx0];rfl);have HX0 : Hid (x0 ∈ val):=zz (by rw [hx0];simp);clear hcell0 hv0 hx0 hne hb;go_enter Tryz.func180,Tryz.ntmps180;go_wp2;clear q0
 go_loopw [5,6] (fun v i wr=>∃ (k : Nat) (m : Int),1 ≤ k∧k ≤ val.length∧i = .int .i64 k∧v = .int .i64 m∧Hid (minZ c (val.take k) = m)∧Hid (m ∈ val)∧Hid (Below w.heap.size w wr)) (fun _ i _=>val.length - (intOf i).toNat)
 case atStart=>exact ⟨1,x0,Nat.le_refl _,hl0,rfl,rfl,HM,HX0,zz (Below.refl _ _)⟩
 case round=>
  obtain ⟨k,m,hk1,hk,rfl,rfl,HMK,HMV,HB⟩:=hrel
  by_cases hlt : k < val.length
  ·obtain ⟨x,hx⟩ : ∃ x,val[k]? = some x:=⟨_,List.getElem?_eq_getElem hlt⟩
   have q1:=CELL.out k x hx wr HB.out;have HXV : Hid (x ∈ val):=zz (List.mem_of_getElem? hx);have HCX:=zz (HCL.out x HXV.out m HMV.out wr HB.out);have HMN : Hid (minZ c (val.take (k + 1)) = if c x m < 0 then x else m):=zz (by rw [minZ_take hx hk1,HMK.out]);obtain ⟨cv,hcv⟩ : ∃ z,c x m = z:=⟨_,rfl⟩
   simp only [hcv] at HCX HMN;have HXK:=zz hx;clear hx hcv
   by_cases hc0 : cv < 0
   ·go_wp2_with (first
     | (go_at_call 181;refine HCX.out.mono ?_;rintro e w1 ⟨rfl,l1⟩;have hb1:=l1.below (Nat.le_refl _);have q2:=CELL.out k x HXK.out w1 (HB.out.trans (hb1.mono HB.out.size))))
    go_roundw
    case rel=>exact ⟨k + 1,x,by omega,by omega,by go_num,rfl,zz (by rw [HMN.out,if_pos hc0]),HXV,zz (HB.out.trans (hb1.mono HB.out.size))⟩
    case measure=>simp [intOf];omega
   ·go_wp2_with (first
     | (go_at_call 181;refine HCX.out.mono ?_;rintro e w1 ⟨rfl,l1⟩;have hb1:=l1.below (Nat.le_refl _)))
    go_roundw
    case rel=>exact ⟨k + 1,m,by omega,by omega,by go_num,rfl,zz (by rw [HMN.out,if_neg (by omega)]),HMV,zz (HB.out.trans (hb1.mono HB.out.size))⟩
    case measure=>simp [intOf];omega
  ·have hkv : k = val.length:=by omega
   subst hkv;go_wp2;go_ret;have e:=HMK.out;rw [List.take_length] at e;exact ⟨by rw [e];rfl,HB.out⟩
def zA0 : List Point→List Point→Int
 | [],[]=>0
 | [],_ :: _=>-1
 | _ :: _,[]=>1
 | p :: l,q :: m=>if zCj p q = 0 then zA0 l m else zCj p q
theorem zEv {α : Type} {l : List α} {k : Nat} {x : α} (h : l[k]? = some x) : l.drop k = x :: l.drop (k + 1):=by
 obtain ⟨h1,h2⟩:=List.getElem?_eq_some_iff.1 h;rw [← h2];exact List.drop_eq_getElem_cons h1
theorem zGr (s t : Sl Point) {D : Nat→Prop} {ok : (Nat→Prop)→World→Point→Prop} (w : World) (hs : s.OK 2 zAb ok D w) (ht : t.OK 2 zAb ok D w) :
  Calls Tryz.prog 140 #[.slice s.a s.val.length s.cap, .slice t.a t.val.length t.cap, .func (.func 141) #[] #[]] w fun e w'=>e = .returned (.int .i64 (zA0 s.val t.val))∧Lays w w':=by
 have HS:=zz hs;have HT:=zz ht;have hrs:=hs.room;have hrt:=ht.room;clear hs ht;obtain ⟨a,cap,val⟩:=s;obtain ⟨a2,cap2,val2⟩:=t;simp only at hrs hrt;go_enter Tryz.func140,Tryz.ntmps140;go_wp2
 go_loopw [13] (fun i wr=>∃ k : Nat,k ≤ val.length∧k ≤ val2.length∧i = .int .i64 k∧Hid (zA0 val val2 = zA0 (val.drop k) (val2.drop k))∧Hid (Lays w wr)) (fun i _=>val.length - (intOf i).toNat)
 case atStart=>exact ⟨0,Nat.zero_le _,Nat.zero_le _,rfl,zz rfl,zz (Lays.refl _)⟩
 case round=>
  obtain ⟨k,hk,hk2,rfl,HE,HL⟩:=hrel;have hB : Below w.heap.size w wr:=HL.out.below (Nat.le_refl _)
  by_cases hlt : k < val.length
  ·obtain ⟨x,hx⟩ : ∃ x,val[k]? = some x:=⟨_,List.getElem?_eq_getElem hlt⟩
   obtain ⟨bb,o,rfl,hbb,_,_,hcell⟩:=HS.out.at hx;have HC : Hid (∀ j,j < (zAb x).size→wr.cell? ⟨bb,o + k * 2 + j,none⟩ = (zAb x)[j]?):=zz fun j hj=>by
    rw [(Ext.of_below (D:=fun _=>False) hB).cell hbb id];exact hcell j hj
   have hb7 : zAe (wr.alloc (.cells (zAb x) 27)) wr.heap.size 27 (zAb x):=zAe.new _ _ _;have HX:=zz hx;clear hx hcell
   by_cases hlt2 : k < val2.length
   ·obtain ⟨y,hy⟩ : ∃ y,val2[k]? = some y:=⟨_,List.getElem?_eq_getElem hlt2⟩
    obtain ⟨b2,o2,rfl,hbb2,_,_,hcell2⟩:=HT.out.at hy;have hB2 : Below w.heap.size w (wr.alloc (.cells (zAb x) 27)):=hB.alloc hB.size _;have HC2 : Hid (∀ j,j < (zAb y).size→(wr.alloc (.cells (zAb x) 27)).cell? ⟨b2,o2 + k * 2 + j,none⟩ = (zAb y)[j]?):=zz fun j hj=>by
     rw [(Ext.of_below (D:=fun _=>False) hB2).cell hbb2 id];exact hcell2 j hj
    have hb8:=hb7.alloc (.cells (zAb y) 27);have hb9 : zAe ((wr.alloc (.cells (zAb x) 27)).alloc (.cells (zAb y) 27)) (wr.heap.size + 1) 27 (zAb y):=by have h:=zAe.new (wr.alloc (.cells (zAb x) 27)) 27 (zAb y);rw [World.size_alloc] at h;exact h
    have HL2 : Hid (Lays w ((wr.alloc (.cells (zAb x) 27)).alloc (.cells (zAb y) 27))):=zz ((HL.out.alloc _).alloc _);obtain ⟨cv,hcv⟩ : ∃ z,zCj x y = z:=⟨_,rfl⟩
    have HCP : Hid (∀ W,Calls Tryz.prog 141 #[.agg (zAb x), .agg (zAb y)] W fun e w'=>e = .returned (.int .i64 cv)∧Lays W w'):=zz fun W=>by rw [← hcv];exact zD4 x y W
    have HN : Hid (zA0 val val2 = if cv = 0 then zA0 (val.drop (k + 1)) (val2.drop (k + 1)) else cv):=zz (by
     rw [HE.out,zEv HX.out,zEv hy,zA0,hcv])
    clear hy hcell2 hcv
    by_cases hc0 : cv = 0
    ·have hcb : (cv != 0) = false:=by simpa using hc0
     have HC0:=zz hc0;clear hc0
     go_wp2_with (first | ((with_reducible refine zAm 17 ?_);refine zLe 17 bb (o + k * 2) (zAb x) HC.out zuB ?_) | ((with_reducible refine zAm 25 ?_);refine zLe 25 b2 (o2 + k * 2) (zAb y) HC2.out zuB ?_) | ((with_reducible refine zAv 27 ?_);first | (refine zAk (cs:=zAb x) rfl 27 _ _ (n:=wr.heap.size) rfl rfl rfl rfl (by kernel_rfl) rfl (zAD _) ?_) | (refine zAk (cs:=zAb y) rfl 27 _ _ (n:=wr.heap.size + 1) rfl (by simp) rfl rfl (by kernel_rfl) rfl (zAD _) ?_)) | (refine zLd 27 hb8 (zAb x) zuB ?_) | (refine zLd 28 hb9 (zAb y) zuB ?_) | (go_at_call 141;(with_reducible refine (HCP.out _).mono ?_);rintro e w3 ⟨rfl,l3⟩))
     go_roundw
     case rel=>exact ⟨k + 1,by omega,by omega,by go_num,zz (by rw [HN.out,if_pos HC0.out]),zz (HL2.out.trans l3)⟩
     case measure=>simp [intOf];omega
    ·have hcb : (cv != 0) = true:=by simpa using hc0
     have HC0:=zz hc0;clear hc0
     go_wp2_with (first | ((with_reducible refine zAm 17 ?_);refine zLe 17 bb (o + k * 2) (zAb x) HC.out zuB ?_) | ((with_reducible refine zAm 25 ?_);refine zLe 25 b2 (o2 + k * 2) (zAb y) HC2.out zuB ?_) | ((with_reducible refine zAv 27 ?_);first | (refine zAk (cs:=zAb x) rfl 27 _ _ (n:=wr.heap.size) rfl rfl rfl rfl (by kernel_rfl) rfl (zAD _) ?_) | (refine zAk (cs:=zAb y) rfl 27 _ _ (n:=wr.heap.size + 1) rfl (by simp) rfl rfl (by kernel_rfl) rfl (zAD _) ?_)) | (refine zLd 27 hb8 (zAb x) zuB ?_) | (refine zLd 28 hb9 (zAb y) zuB ?_) | (go_at_call 141;(with_reducible refine (HCP.out _).mono ?_);rintro e w3 ⟨rfl,l3⟩))
     go_ret;have e:=HN.out;rw [if_neg HC0.out] at e;exact ⟨by rw [e];rfl,HL2.out.trans l3⟩
   ·have hkv : k = val2.length:=by omega
    have hle : ¬ val2.length > k:=by omega
    have hle2 : (val2.length : Int) ≤ (k : Int):=by omega
    have e : zA0 val val2 = 1:=by
     rw [HE.out,zEv HX.out,hkv,List.drop_length];rfl
    have HEE:=zz e;clear e hkv hle
    go_wp2_with (first | ((with_reducible refine zAm 17 ?_);refine zLe 17 bb (o + k * 2) (zAb x) HC.out zuB ?_) | ((with_reducible refine zAm 25 ?_);refine zLe 25 b2 (o2 + k * 2) (zAb y) HC2.out zuB ?_) | ((with_reducible refine zAv 27 ?_);first | (refine zAk (cs:=zAb x) rfl 27 _ _ (n:=wr.heap.size) rfl rfl rfl rfl (by kernel_rfl) rfl (zAD _) ?_) | (refine zAk (cs:=zAb y) rfl 27 _ _ (n:=wr.heap.size + 1) rfl (by simp) rfl rfl (by kernel_rfl) rfl (zAD _) ?_)) | (refine zLd 27 hb8 (zAb x) zuB ?_) | (refine zLd 28 hb9 (zAb y) zuB ?_) | (go_at_call 141;(with_reducible refine (HCP.out _).mono ?_);rintro e w3 ⟨rfl,l3⟩))
    go_ret;exact ⟨by rw [HEE.out];rfl,HL.out.alloc _⟩
  ·have hkv : k = val.length:=by omega
   subst hkv
   by_cases hlt2 : val.length < val2.length
   ·obtain ⟨y,hy⟩ : ∃ y,val2[val.length]? = some y:=⟨_,List.getElem?_eq_getElem hlt2⟩
    have e : zA0 val val2 = -1:=by
     rw [HE.out,List.drop_length,zEv hy];rfl
    have HEE:=zz e;clear e hy;go_wp2;go_ret;exact ⟨by rw [HEE.out];rfl,HL.out⟩
   ·have hkv : val.length = val2.length:=by omega
    have e : zA0 val val2 = 0:=by
     rw [HE.out,List.drop_length,hkv,List.drop_length];rfl
    have HEE:=zz e;clear e;go_wp2;go_ret;exact ⟨by rw [HEE.out];rfl,HL.out⟩
end Go.Proofs.YtbbblemfodpmaaaGreat
end
section
namespace Go.Proofs.YtbbblemfodpmaaaGreat
open Go.RowKit
structure PaneP where
 id : Int
 outline : List Point
 edges : List (List Side)
 deriving Inhabited,DecidableEq
def atN (l : List Nat) (i : Nat) : Nat:=(l[i]?).getD 0
def zDD (n from_ to_ : Nat) : Nat:=(to_ + n - from_ - 1) % n + 1
def zCL (l : List Side) (from_ to_ : Nat) : List Side:=(List.range (zDD l.length from_ to_)).map fun q=>(l[(from_ + q) % l.length]?).getD zDg
def zEh (pts : List Point) (i k : Int) : Int:=zCj ((pts[i.toNat]?).getD zAF) ((pts[k.toNat]?).getD zAF)
def firstC (pts : List Point) : Nat:=(idxI (fun y=>decide (minZ (zEh pts) (zAZ pts) = y)) (zAZ pts)).toNat
def zCk (pts : List Point) (k : Nat) : Nat:=atN (zBb pts) ((firstC pts + k) % (zBb pts).length)
def zDE (pts : List Point) : List Point:=(List.range (zBb pts).length).map fun k=>(pts[zCk pts k]?).getD zAF
def zDF (l : List Side) (pts : List Point) : List (List Side):=(List.range (zBb pts).length).map fun k=>zCL l (zCk pts k) (zCk pts (k + 1))
def zDi (js : List Joint) (ls : List Lead) (l : List Side) : PaneP:=⟨0,zDE (zAI js ls l),zDF l (zAI js ls l)⟩
theorem mod_two {x n : Nat} (hn : 0 < n) (h : x < 2 * n) : x % n = if x < n then x else x - n:=by
 split
 ·exact Nat.mod_eq_of_lt (by assumption)
 ·rw [Nat.mod_eq_sub_mod (by omega),Nat.mod_eq_of_lt (by omega)]
theorem edge_end {n a b q : Nat} (ha : a < n) (hb : b < n) (hq : q < zDD n a b) : (((a + q) % n + 1) % n = b) ↔ q + 1 = zDD n a b:=by
 unfold zDD at *;have hn : 0 < n:=by omega
 have h1 : b + n - a - 1 < 2 * n:=by omega
 rw [mod_two hn h1] at *;have hq2 : q < n:=by split at hq <;> omega
 rw [mod_two hn (x:=a + q) (by omega)]
 by_cases h2 : a + q < n
 ·rw [if_pos h2,mod_two hn (by omega)]
  split <;> split at hq <;> split <;> omega
 ·rw [if_neg h2,mod_two hn (by omega)]
  split <;> split at hq <;> split <;> omega
theorem edge_next {n a q : Nat} (hn : 0 < n) : ((a + q) % n + 1) % n = (a + (q + 1)) % n:=by
 rw [← Nat.add_assoc,Nat.add_mod (a + q) 1 n]
 by_cases h : n = 1
 ·subst h;simp [Nat.mod_one]
 ·rw [Nat.mod_eq_of_lt (show 1 < n by omega)]
theorem zF8 {n a b : Nat} (hn : 0 < n) : zDD n a b ≤ n:=Nat.mod_lt _ hn
theorem zE4 {β : Type} (f : Nat→β) (k : Nat) : (List.range (k + 1)).map f = (List.range k).map f ++ [f k]:=by rw [List.range_succ,List.map_append];rfl
theorem zAW.kept' {W W' : World} {N : Nat} {v : Value} {L : List (List Side)} (h : zAW W N v L) (hb : ∀ (g : Nat) (cur : Array Value) (T : TypeId),W.heap[g]? = some (.cells cur T (0,0))→(T = 62 ∨ T = 59)→W'.heap[g]? = W.heap[g]?) : zAW W' N v L:=by
 obtain ⟨ss,h1,h2,h3⟩:=h;refine ⟨ss,h1.kept fun g hg=>?_,fun s hs=>(h2 s hs).kept fun g hg=>?_,h3⟩
 ·obtain ⟨a,cur,b⟩:=h1.cellsAt hg;exact hb g cur _ b (.inl rfl)
 ·obtain ⟨a,cur,b⟩:=(h2 s hs).cellsAt hg;exact hb g cur _ b (.inr rfl)
def lenV : Value→Nat
 | .slice _ n _=>n
 | _=>0
theorem zDK {l : List Point} {i : Nat} (h : i ∈ zBb l) : i < l.length:=by
 unfold zBb at h;exact List.mem_range.1 (List.mem_filter.1 h).1
theorem atN_mem {l : List Nat} {i : Nat} (h : i < l.length) : atN l i ∈ l:=by
 unfold atN;rw [List.getElem?_eq_getElem h];exact List.getElem_mem h
theorem fromC_lt {pts : List Point} (hne : zBb pts ≠ []) (k : Nat) : zCk pts k < pts.length:=
 zDK (atN_mem (Nat.mod_lt _ (by cases h : zBb pts with
  | nil=>exact absurd h hne
  | cons=>simp)))
theorem idxI_mem {p : Int→Bool} {l : List Int} (h : ∃ x ∈ l,p x = true) : ∃ k,k < l.length∧idxI p l = (k : Int):=by
 unfold idxI
 cases hf : l.findIdx? p with
 | none=>
  rw [List.findIdx?_eq_none_iff] at hf;obtain ⟨x,hx,hp⟩:=h;have:=hf x hx;rw [hp] at this;cases this
 | some k=>
  rw [List.findIdx?_eq_some_iff_getElem] at hf;obtain ⟨h1,_⟩:=hf;exact ⟨k,h1,rfl⟩
theorem minZ_mem {c : Int→Int→Int} {l : List Int} (h : l ≠ []) : minZ c l ∈ l:=by
 cases l with
 | nil=>exact absurd rfl h
 | cons x l=>
  have key : ∀ (l : List Int) (m : Int),(l.foldl (fun m i=>if c i m < 0 then i else m) m) = m ∨ (l.foldl (fun m i=>if c i m < 0 then i else m) m) ∈ l:=by
   intro l
   induction l with
   | nil=>exact fun m=>.inl rfl
   | cons y l ih=>
    intro m;rw [List.foldl_cons]
    rcases ih (if c y m < 0 then y else m) with h | h
    ·rw [h]
     split
     ·exact .inr (by simp)
     ·exact .inl rfl
    ·exact .inr (List.mem_cons_of_mem _ h)
  rcases key l x with h | h
  ·show List.foldl _ _ _ ∈ _
   rw [h];simp
  ·exact List.mem_cons_of_mem _ h
theorem OwnL.at0 {α : Type} {enc : α→Array Value} {sz : Nat} {W : World} {N : Nat} {T : TypeId} {v : Value} {l : List α} (h : OwnL enc sz W N T v l) (hl : l ≠ []) : ∃ g c,v = .slice (some ⟨g,0,none⟩) l.length c∧N ≤ g∧g < W.heap.size:=by
 rcases h.2 with ⟨_,h0⟩ | ⟨g,cap,cur,rfl,h3,h4,_⟩
 ·exact absurd (List.eq_nil_of_length_eq_zero h0) hl
 ·exact ⟨g,cap,rfl,h3,(Array.getElem?_eq_some_iff.1 h4).1⟩
theorem pane_any {b : Nat} {sj : Sl Joint} {sl : Sl Lead} (V : ValidW sj.val sl.val) (l : List Side) (hl8 : l.length ≤ 800) (hI : ∀ x ∈ l,I64 x.lead) (hne : zBb (zAI sj.val sl.val l) ≠ []) (N0 : Nat) (lv : Value) (w : World) (hN : zA5 w b sj sl) (hv : OwnL zAa 2 w N0 59 lv l) :
  Calls Tryz.prog 137 #[.pointer (some ⟨b,0,none⟩),lv] w fun e w'=>∃ ov ev,e = .returned (.agg #[.int .i64 0,ov,ev])∧OwnL zAb 2 w' w.heap.size 27 ov (zDi sj.val sl.val l).outline∧zAW w' w.heap.size ev (zDi sj.val sl.val l).edges∧Below w.heap.size w w':=by
 obtain ⟨pts,hpts⟩ : ∃ z,zAI sj.val sl.val l = z:=⟨_,rfl⟩
 have HPE : Hid (zDi sj.val sl.val l = ⟨0,zDE pts,zDF l pts⟩):=zz (by unfold zDi;rw [hpts]);have hpn : pts.length = l.length:=by rw [← hpts];unfold zAI;rw [List.length_map]
 rw [hpts] at hne;have hPS : ∀ p ∈ pts,zAy p:=by rw [← hpts];exact zC0 V l
 have hB1 : Below w.heap.size w (w.alloc (.cells #[.int .i64 0, .slice none 0 0, .slice none 0 0] 82)):=(Below.refl _ _).alloc (Nat.le_refl _) _;have hm0 : 0 < (zBb pts).length:=by cases h : zBb pts with
  | nil=>exact absurd h hne
  | cons=>simp
 have hn0 : 0 < l.length:=by
  rw [← hpn]
  cases h : zBb pts with
  | nil=>exact absurd h hne
  | cons x _=>exact Nat.lt_of_le_of_lt (Nat.zero_le _) (zDK (l:=pts) (i:=x) (by rw [h];simp))
 have hlne : l ≠ []:=fun h=>by rw [h] at hn0;exact absurd hn0 (Nat.lt_irrefl _)
 obtain ⟨lb,lc,rfl,_,hlb⟩:=hv.at0 hlne;have CL : Hid (∀ (k : Nat) (x : Side),l[k]? = some x→∀ W,Below w.heap.size w W→∀ j,j < (zAa x).size→W.cell? ⟨lb,k * 2 + j,none⟩ = (zAa x)[j]?):=zz fun k x hx W hW j hj=>by
  obtain ⟨g,cap,e,_,_,hc⟩:=OwnL.cellOf (enc:=zAa) (sz:=2) (fun _=>rfl) hv hx;simp only [Value.slice.injEq,Option.some.injEq,Addr.mk.injEq] at e;obtain ⟨⟨rfl,_⟩,_⟩:=e;exact (hW.cell (p:=⟨lb,k * 2 + j,none⟩) hlb).trans (hc j hj)
 have HPT : Hid (Calls Tryz.prog 157 #[.pointer (some ⟨b,0,none⟩), .slice (some ⟨lb,0,none⟩) l.length lc] (w.alloc (.cells #[.int .i64 0, .slice none 0 0, .slice none 0 0] 82)) fun e w'=>∃ v,e = .returned v∧OwnL zAb 2 w' (w.heap.size + 1) 27 v pts∧Below (w.alloc (.cells #[.int .i64 0, .slice none 0 0, .slice none 0 0] 82)).heap.size (w.alloc (.cells #[.int .i64 0, .slice none 0 0, .slice none 0 0] 82)) w'):=zz (by
  obtain ⟨t,ht,hts,htok,_⟩:=OwnL.sl (enc:=zAa) (sz:=2) (hv.belowAll hB1) (fun _=>rfl) (fun _ _ _=>True) (fun _=>False) (fun _ _=>trivial) (fun _ _ h=>h) (by omega);have h:=zE2 V t (fun x hx=>hI x (hts ▸ hx)) _ (hN.below hB1) htok;rw [hts] at h;simp only [hpts,World.size_alloc] at h;have e : Value.slice (some ⟨lb,0,none⟩) l.length lc = .slice t.a l.length t.cap:=by rw [ht,← hts];rfl
  rw [e,World.size_alloc];exact h)
 have HB1:=zz hB1;have HBP1 : Hid (zAe (w.alloc (.cells #[.int .i64 0, .slice none 0 0, .slice none 0 0] 82)) w.heap.size 82 #[.int .i64 0, .slice none 0 0, .slice none 0 0]):=zz (zAe.new _ _ _);have hptn : pts ≠ []:=fun h=>by rw [h] at hpn;simp at hpn;omega
 clear hN hv V hB1 hpts hI;have HCO : Hid (∀ v w',OwnL zAb 2 w' (w.heap.size + 1) 27 v pts→Calls Tryz.prog 156 #[v] w' fun e w2=>∃ u,e = .returned u∧OwnL zAC 1 w2 w'.heap.size 3 u (zAZ pts)∧Below w'.heap.size w' w2):=zz fun v w' ho=>by
  obtain ⟨t,ht,hts,htok,_⟩:=OwnL.sl (enc:=zAb) (sz:=2) ho (fun _=>rfl) (fun _ _ _=>True) (fun _=>False) (fun _ _=>trivial) (fun _ _ h=>h) (by omega);have h:=zFG t (by rw [hts];exact hPS) w' htok;rw [hts] at h;rw [ht];rw [show t.v = .slice t.a pts.length t.cap by rw [← hts];rfl];exact h
 have hca : (zAZ pts).length = (zBb pts).length:=by unfold zAZ;rw [List.length_map]
 have hcane : zAZ pts ≠ []:=fun h=>by rw [h] at hca;simp at hca;omega
 have HCANE:=zz hcane;have hcl : (zBb pts).length ≤ 800:=by
  unfold zBb;have h1:=List.length_filter_le (zBL pts) (List.range pts.length);rw [List.length_range] at h1;omega
 obtain ⟨fc,hfc,hfe⟩:=idxI_mem (p:=fun y=>decide (minZ (zEh pts) (zAZ pts) = y)) (l:=zAZ pts) ⟨_,minZ_mem (c:=zEh pts) hcane,by simp⟩;have hff : firstC pts = fc:=by unfold firstC;rw [hfe];rfl
 rw [hca] at hfc;obtain ⟨least,hleast⟩ : ∃ z,minZ (zEh pts) (zAZ pts) = z:=⟨_,rfl⟩
 rw [hleast] at hfe;have HLEAST:=zz hleast;have HFE:=zz hfe;have HFF:=zz hff;have HCA:=zz hca;have HNE:=zz hne;have HMIN : Hid (∀ (qb : Nat) (pv av : Value) (w3 w4 : World),OwnL zAb 2 w3 (w.heap.size + 1) 27 pv pts→zAe w3 qb 80 #[pv]→OwnL zAC 1 w4 w3.heap.size 3 av (zAZ pts)→Below w3.heap.size w3 w4→
   Calls Tryz.prog 180 #[av, .func (.func 181) #[] #[.pointer (some ⟨qb,0,none⟩)]] w4 fun e w'=>e = .returned (.int .i64 least)∧Below w4.heap.size w4 w'):=zz fun qb pv av w3 w4 hp hq ha hb=>by
  obtain ⟨t,ht,hts,htok,_⟩:=OwnL.sl (enc:=zAC) (sz:=1) ha (fun _=>rfl) (fun _ _ _=>True) (fun _=>False) (fun _ _=>trivial) (fun _ _ h=>h) (by omega);obtain ⟨u,hu,hus,huok,_⟩:=OwnL.sl (enc:=zAb) (sz:=2) hp (fun _=>rfl) (fun _ _ _=>True) (fun _=>False) (fun _ _=>trivial) (fun _ _ h=>h) (by omega);have h:=min_any t (by rw [hts];exact HCANE.out) (zEh pts) (.pointer (some ⟨qb,0,none⟩)) w4 htok (fun x hx y hy W hW=>by
   rw [hts] at hx hy;obtain ⟨i,hi,rfl⟩:=List.mem_map.1 hx;obtain ⟨k,hk,rfl⟩:=List.mem_map.1 hy;have hi2:=zDK hi;have hk2:=zDK hk;have h2:=pane1_any u w3 huok (i:=i) (k:=k) (x:=pts[i]) (y:=pts[k]) (by rw [hus];exact List.getElem?_eq_getElem hi2) (by rw [hus];exact List.getElem?_eq_getElem hk2) qb W (hb.trans (hW.mono hb.size)) (((hq.belowAll hb).belowAll hW).eqv (by rw [hu];rfl));have e : zEh pts (i : Int) (k : Int) = zCj pts[i] pts[k]:=by
    unfold zEh;simp [hi2,hk2]
   rw [e];exact h2)
  rw [hts] at h;simp only [HLEAST.out] at h;rw [ht];rw [show t.v = .slice t.a (zAZ pts).length t.cap by rw [← hts];rfl];exact h
 have HIDX : Hid (∀ (av : Value) (N : Nat) (w5 : World),OwnL zAC 1 w5 N 3 av (zAZ pts)→Calls Tryz.prog 182 #[av, .int .i64 least] w5 fun e w'=>e = .returned (.int .i64 (fc : Int))∧w' = w5):=zz fun av N w5 ha=>by
  obtain ⟨t,ht,hts,htok,_⟩:=OwnL.sl (enc:=zAC) (sz:=1) ha (fun _=>rfl) (fun _ _ _=>True) (fun _=>False) (fun _ _=>trivial) (fun _ _ h=>h) (by omega);have h:=indexInt_any t least w5 htok;rw [hts] at h;simp only [HFE.out] at h;rw [ht];rw [show t.v = .slice t.a (zAZ pts).length t.cap by rw [← hts];rfl];exact h
 clear hcane hfe hff hleast;obtain ⟨m,hm⟩ : ∃ z,(zBb pts).length = z:=⟨_,rfl⟩
 obtain ⟨n,hn⟩ : ∃ z,l.length = z:=⟨_,rfl⟩
 have HMM:=zz hm;have HNN:=zz hn;rw [hm] at hm0 hcl hfc hca;rw [hn] at hpn hl8 hn0;simp only [hn] at HPT ⊢;go_enter Tryz.func137,Tryz.ntmps137
 go_wp2_with (first
  | (go_at_call 157;refine HPT.out.mono ?_;rintro e w2 ⟨pv,rfl,ho2,hb2⟩;obtain ⟨pp,pc,e0,_,hpp⟩:=ho2.at0 hptn;rw [hpn] at e0;subst e0;have hq3:=zAe.new w2 80 #[.slice (some ⟨pp,0,none⟩) n pc];have ho3:=ho2.belowAll ((Below.refl w2.heap.size w2).alloc (Nat.le_refl _) (.cells #[.slice (some ⟨pp,0,none⟩) n pc] 80)))
  | (go_at_call 156;refine (HCO.out _ _ ho3).mono ?_;rintro e w4 ⟨av,rfl,ho4,hb4⟩)
  | (go_at_call 180;refine (HMIN.out _ _ _ _ _ ho3 hq3 ho4 hb4).mono ?_;rintro e w5 ⟨rfl,hb5⟩;have ho5:=ho4.belowAll hb5;obtain ⟨ab,ac,e1,_,hab⟩:=ho4.at0 HCANE.out;rw [hca] at e1;subst e1)
  | (go_at_call 182;refine (HIDX.out _ _ _ ho5).mono ?_;rintro e w5' ⟨rfl,e5⟩;obtain rfl:=e5.symm))
 have hW3 : Below w.heap.size w w2:=HB1.out.trans (hb2.mono HB1.out.size);have hW3a : Below w2.heap.size w2 (w2.alloc (.cells #[.slice (some ⟨pp,0,none⟩) n pc] 80)):=(Below.refl _ _).alloc (Nat.le_refl _) _;have h35:=hb4.trans (hb5.mono hb4.size);have h25:=hW3a.trans (h35.mono hW3a.size);have HW5 : Hid (Below w.heap.size w w5):=zz (hW3.trans (h25.mono hW3.size));have HQB:=zz (hq3.belowAll h35);have HRB:=zz (((HBP1.out.belowAll hb2).belowAll h25));have CA : Hid (∀ (i f : Nat),(zBb pts)[i]? = some f→∀ W,Below w5.heap.size w5 W→W.cell? ⟨ab,i,none⟩ = some (.int .i64 (f : Int))):=zz fun i f hi W hW=>by
  obtain ⟨g,cap,e,_,hg,hc⟩:=OwnL.cellOf (enc:=zAC) (sz:=1) (fun _=>rfl) ho5 (k:=i) (x:=(f : Int)) (by unfold zAZ;rw [List.getElem?_map,hi];rfl);simp only [Value.slice.injEq,Option.some.injEq,Addr.mk.injEq] at e;obtain ⟨⟨rfl,_⟩,_⟩:=e;have h:=hc 0 Nat.one_pos;rw [Nat.mul_one,Nat.add_zero] at h;exact (hW.cell (p:=⟨ab,i,none⟩) hg).trans (h.trans rfl)
 have CP : Hid (∀ (f : Nat) (P : Point),pts[f]? = some P→∀ W,Below w5.heap.size w5 W→∀ j,j < (zAb P).size→W.cell? ⟨pp,f * 2 + j,none⟩ = (zAb P)[j]?):=zz fun f P hf W hW j hj=>by
  obtain ⟨g,cap,e,_,hg,hc⟩:=OwnL.cellOf (enc:=zAb) (sz:=2) (fun _=>rfl) (ho2.belowAll h25) hf;simp only [Value.slice.injEq,Option.some.injEq,Addr.mk.injEq] at e;obtain ⟨⟨rfl,_⟩,_⟩:=e;exact (hW.cell (p:=⟨pp,f * 2 + j,none⟩) hg).trans (hc j hj)
 have HPP : Hid (pp < w5.heap.size):=zz (Nat.lt_of_lt_of_le hpp h25.size);have HAB : Hid (ab < w5.heap.size):=zz (Nat.lt_of_lt_of_le hab hb5.size);have HB6 : Hid (Below w5.heap.size w5 (w5.alloc (.cells #[.int .i64 0, .slice none 0 0, .slice none 0 0] 82))):=zz ((Below.refl _ _).alloc (Nat.le_refl _) _);have HP6 : Hid (zAe (w5.alloc (.cells #[.int .i64 0, .slice none 0 0, .slice none 0 0] 82)) w5.heap.size 82 #[.int .i64 0, .slice none 0 0, .slice none 0 0]):=zz (zAe.new _ _ _);obtain ⟨qb,hqb⟩ : ∃ z,w2.heap.size = z:=⟨_,rfl⟩
 rw [hqb] at HQB;have HQL : Hid (qb < w5.heap.size):=zz HQB.out.lt;simp only [hqb];clear hW3 hW3a h35 h25 hq3 ho2 ho3 ho4 ho5 hb2 hb4 hb5 hpp hab hqb HIDX HMIN HCO HPT HBP1 HB1;obtain ⟨pb,hpb⟩ : ∃ z,w5.heap.size = z:=⟨_,rfl⟩
 obtain ⟨N1,hN1⟩ : ∃ z,pb + 1 = z:=⟨_,rfl⟩
 have HPB:=zz hpb;have HN1:=zz hN1;simp only [hpb] at HP6 HPP HAB HQL CA CP HB6 ⊢;clear hpb hN1
 go_loopw [28] (fun i wr=>∃ (k : Nat) (ov ev : Value),k ≤ m∧i = .int .i64 k∧Hid (zAe wr pb 82 #[.int .i64 0,ov,ev])∧Hid (OwnL zAb 2 wr N1 27 ov ((List.range k).map fun k=>(pts[zCk pts k]?).getD zAF))∧Hid (zAW wr N1 ev ((List.range k).map fun k=>zCL l (zCk pts k) (zCk pts (k + 1))))∧Hid (Below pb w5 wr)) (fun i _=>m - (intOf i).toNat)
 case atStart=>exact ⟨0,_,_,Nat.zero_le _,rfl,HP6,zz (OwnL.nil _ _ _ _ _),zz (zAW.nil _ _),HB6⟩
 case round=>
  obtain ⟨k,ov,ev,hk,rfl,HBX,HOV,HEV,HBE⟩:=hrel
  by_cases hlt : k < m
  ·obtain ⟨ol,hol⟩ : ∃ z,(List.range k).map (fun k=>(pts[zCk pts k]?).getD zAF) = z:=⟨_,rfl⟩
   have HLLK : Hid (ol.length = k):=zz (by rw [← hol];simp);have HOL:=zz hol;rw [hol] at HOV;obtain ⟨oa,oc,rfl⟩:=HOV.out.shape;have hp1 : (fc + k) % m < m:=Nat.mod_lt _ hm0;have hp2 : (fc + k + 1) % m < m:=Nat.mod_lt _ hm0;obtain ⟨p1,e1⟩ : ∃ z,(fc + k) % m = z:=⟨_,rfl⟩
   obtain ⟨p2,e2⟩ : ∃ z,(fc + k + 1) % m = z:=⟨_,rfl⟩
   obtain ⟨f1,hf1⟩ : ∃ z,zCk pts k = z:=⟨_,rfl⟩
   obtain ⟨f2,hf2⟩ : ∃ z,zCk pts (k + 1) = z:=⟨_,rfl⟩
   have hg1 : (zBb pts)[p1]? = some f1:=by
    have h : (fc + k) % m < (zBb pts).length:=by rw [HMM.out];exact hp1
    rw [← hf1,← e1];unfold zCk atN;rw [HFF.out,HMM.out,List.getElem?_eq_getElem h];rfl
   have hg2 : (zBb pts)[p2]? = some f2:=by
    have h : (fc + k + 1) % m < (zBb pts).length:=by rw [HMM.out];exact hp2
    rw [← hf2,← e2];unfold zCk atN;rw [HFF.out,HMM.out,← Nat.add_assoc,List.getElem?_eq_getElem h];rfl
   have HA1 : Hid (∀ W,Below wr.drew.heap.size wr.drew W→W.cell? ⟨ab,p1,none⟩ = some (.int .i64 (f1 : Int))):=zz fun W hW=>by
    have h1 : Below pb w5 wr.drew:=HBE.out.trans ((Lays.refl wr).drew.below (Nat.le_refl _) |>.mono (Nat.le_of_lt HBX.out.lt));exact CA.out p1 f1 hg1 W (h1.trans (hW.mono (Nat.le_of_lt HBX.out.lt)))
   have HA2 : Hid (∀ W,Below wr.drew.heap.size wr.drew W→W.cell? ⟨ab,p2,none⟩ = some (.int .i64 (f2 : Int))):=zz fun W hW=>by
    have h1 : Below pb w5 wr.drew:=HBE.out.trans ((Lays.refl wr).drew.below (Nat.le_refl _) |>.mono (Nat.le_of_lt HBX.out.lt));exact CA.out p2 f2 hg2 W (h1.trans (hW.mono (Nat.le_of_lt HBX.out.lt)))
   have hfl1 : f1 < pts.length:=hf1 ▸ fromC_lt HNE.out k;have hfl2 : f2 < pts.length:=hf2 ▸ fromC_lt HNE.out (k + 1);obtain ⟨P,hP⟩ : ∃ P,pts[f1]? = some P:=⟨_,List.getElem?_eq_getElem hfl1⟩
   rw [hpn] at hfl1 hfl2;have M1 : Hid (((fc : Int) + (k : Int)).tmod (m : Int) = (p1 : Int)):=zz (by rw [Int.tmod_eq_emod_of_nonneg (by omega),← e1,Int.natCast_emod];rfl);have M2 : Hid (((fc : Int) + (k : Int) + 1).tmod (m : Int) = (p2 : Int)):=zz (by rw [Int.tmod_eq_emod_of_nonneg (by omega),← e2,Int.natCast_emod];rfl);have HME : Hid (¬ m = 0):=zz (by omega);have x1 : IntKind.i64.wrap ((fc : Int) + (k : Int)) = (fc : Int) + (k : Int):=IntWalk.i64_in _ (by omega);have x2 : IntKind.i64.wrap ((fc : Int) + (k : Int) + 1) = (fc : Int) + (k : Int) + 1:=IntWalk.i64_in _ (by omega);have i1 : (p1 : Int) < (m : Int):=by omega
   have i2 : (p2 : Int) < (m : Int):=by omega
   have HF1:=zz hf1;have HF2:=zz hf2;have HPK:=zz hP;clear hol hg1 hg2 hf1 hf2 hP e1 e2;go_wp2;refine rgO [(0,true),(1,true),(2,true),(3,true),(4,true),(5,true),(6,true),(7,true),(8,true),(9,true),(10,true),(11,true),(12,true),(13,true),(14,true),(15,true),(16,true),(17,true),(18,true),(19,true),(20,true)] ?_;iterate 6 (refine wB rfl ?_;simp only [pT])
   refine zAf (v:=.int .i64 (p1 : Int)) rfl rfl (fun W hW=>by go_simp;rw [if_neg HME.out,M1.out]) ?_;simp only [pT];refine zAf (v:=.pointer (some ⟨ab,p1,none⟩)) rfl rfl (fun W hW=>by go_simp) ?_;simp only [pT];refine zAf (v:=.int .i64 (f1 : Int)) rfl rfl (fun W hW=>by have e : W.cell? ⟨ab,p1,none⟩ = some (.int .i64 (f1 : Int)):=HA1.out W hW;go_simp) ?_;simp only [pT];iterate 7 (refine wB rfl ?_;simp only [pT])
   refine zAf (v:=.int .i64 (p2 : Int)) rfl rfl (fun W hW=>by go_simp;rw [if_neg HME.out,M2.out]) ?_;simp only [pT];refine zAf (v:=.pointer (some ⟨ab,p2,none⟩)) rfl rfl (fun W hW=>by go_simp) ?_;simp only [pT];refine zAf (v:=.int .i64 (f2 : Int)) rfl rfl (fun W hW=>by have e : W.cell? ⟨ab,p2,none⟩ = some (.int .i64 (f2 : Int)):=HA2.out W hW;go_simp) ?_;simp only [pT];iterate 2 (refine wB rfl ?_;simp only [pT])
   simp only [wpB];go_wp2;have hdr : Below wr.heap.size wr wr.drew:=(Lays.refl wr).drew.below (Nat.le_refl _);have hpl : pb < wr.drew.heap.size:=HBX.out.lt;have HB9 : Hid (Below pb w5 wr.drew):=zz (HBE.out.trans (hdr.mono (Nat.le_of_lt HBX.out.lt)));have HX9:=zz HBX.out.drew;have HO9:=zz (HOV.out.belowAll hdr);have HE9:=zz (HEV.out.belowAll hdr);obtain ⟨w9,hw9⟩ : ∃ W,wr.drew = W:=⟨_,rfl⟩
   rw [hw9] at HB9 HX9 HO9 HE9 hpl;simp only [hw9];clear hdr HBX HOV HEV HBE HA1 HA2 hw9;have HPL:=zz hpl;have hd9 : Below w9.heap.size w9 w9.drew:=(Lays.refl w9).drew.below (Nat.le_refl _);have hda : Below w9.heap.size w9 (w9.drew.alloc (.cells (zAb P) 27)):=((Lays.refl w9).drew.alloc _).below (Nat.le_refl _);have HDA:=zz hda;have pcell : ∀ W,Below pb w5 W→∀ j,j < (zAb P).size→W.cell? ⟨pp,f1 * 2 + j,none⟩ = (zAb P)[j]?:=CP.out f1 P HPK.out;have qbox : ∀ W,Below pb w5 W→zAe W qb 80 #[.slice (some ⟨pp,0,none⟩) n pc]:=fun W hW=>HQB.out.below hW HQL.out;have hb9d : Below pb w5 w9.drew:=HB9.out.trans (hd9.mono (Nat.le_of_lt hpl));have hb9a : Below pb w5 (w9.drew.alloc (.cells (zAb P) 27)):=HB9.out.trans (hda.mono (Nat.le_of_lt hpl));have HS1 : Hid ((fun W=>zAe W pb 82 #[.int .i64 0, .slice oa ol.length oc,ev]∧zAe W qb 80 #[.slice (some ⟨pp,0,none⟩) n pc]∧∀ j,j < (zAb P).size→W.cell? ⟨pp,f1 * 2 + j,none⟩ = (zAb P)[j]?) w9.drew):=zz ⟨HX9.out.drew,qbox _ hb9d,pcell _ hb9d⟩;have HSA : Hid ((fun W=>zAe W pb 82 #[.int .i64 0, .slice oa ol.length oc,ev]∧zAe W qb 80 #[.slice (some ⟨pp,0,none⟩) n pc]∧∀ j,j < (zAb P).size→W.cell? ⟨pp,f1 * 2 + j,none⟩ = (zAb P)[j]?) w9.drew→zAe (w9.drew.alloc (.cells (zAb P) 27)) pb 82 #[.int .i64 0, .slice oa ol.length oc,ev]∧zAe (w9.drew.alloc (.cells (zAb P) 27)) qb 80 #[.slice (some ⟨pp,0,none⟩) n pc]∧∀ j,j < (zAb P).size→(w9.drew.alloc (.cells (zAb P) 27)).cell? ⟨pp,f1 * 2 + j,none⟩ = (zAb P)[j]?):=zz fun _=>⟨HX9.out.drew.alloc _,qbox _ hb9a,pcell _ hb9a⟩
   have HOW : Hid (OwnL zAb 2 (w9.drew.alloc (.cells (zAb P) 27)) N1 27 (.slice oa ol.length oc) ol):=zz (HO9.out.belowAll hda);have hown:=HOW.out.block;have hob : ∀ g,(Value.slice oa ol.length oc).ownBlock = some g→pb < g:=fun g hg=>by have:=(hown g hg).1;have:=HN1.out;omega
   have HOB:=zz hob;have HKB : Hid (∀ w6,(w9.drew.alloc (.cells (zAb P) 27)).grownBy w6 (Value.slice oa ol.length oc).ownBlock→Below pb w5 w6∧zAe w6 pb 82 #[.int .i64 0, .slice oa ol.length oc,ev]∧zAW w6 N1 ev ((List.range k).map fun k=>zCL l (zCk pts k) (zCk pts (k + 1)))):=zz fun w6 hg=>by
    have hbx:=HX9.out.drew.alloc (.cells (zAb P) 27);refine ⟨hb9a.grown hg (Nat.le_of_lt (Nat.lt_of_lt_of_le hpl hda.size)) fun g e=>Nat.le_of_lt (hob g e),hbx.of_block (hg.block _ hbx.lt fun e=>by have:=hob _ e.symm;omega), ?_⟩;have hes:=HE9.out.belowAll hda;refine hes.kept' fun g cur T hgc hTT=>hg.block g (Array.getElem?_eq_some_iff.1 hgc).1 fun e=>?_;obtain ⟨_,c2,h2⟩:=HOW.out.cellsAt e.symm;rw [hgc] at h2;simp only [Option.some.injEq,Obj.cells.injEq] at h2
    rcases hTT with h | h <;> rw [h] at h2 <;> exact absurd h2.2.1 (by decide)
   have HKP : Hid (∀ w6,(w9.drew.alloc (.cells (zAb P) 27)).grownBy w6 (Value.slice oa ol.length oc).ownBlock→zAe w6 pb 82 #[.int .i64 0, .slice oa ol.length oc,ev]∧zAe w6 qb 80 #[.slice (some ⟨pp,0,none⟩) n pc]∧∀ j,j < (zAb P).size→w6.cell? ⟨pp,f1 * 2 + j,none⟩ = (zAb P)[j]?):=zz fun w6 hg=>by
    obtain ⟨h1,h2,_⟩:=HKB.out w6 hg;exact ⟨h2,qbox _ h1,pcell _ h1⟩
   have HLN : Hid (ol.length + 1 ≤ 4294967296):=zz (by have:=HLLK.out;omega);have HSZ : Hid (N1 ≤ (w9.drew.alloc (.cells (zAb P) 27)).heap.size):=zz (by have h1:=HN1.out;have h2:=hda.size;omega);have i3 : (f1 : Int) < (n : Int):=by omega
   clear hd9 hda pcell qbox hb9d hb9a hown hob;refine zCb (fun W=>zAe W pb 82 #[.int .i64 0, .slice oa ol.length oc,ev]∧zAe W qb 80 #[.slice (some ⟨pp,0,none⟩) n pc]∧∀ j,j < (zAb P).size→W.cell? ⟨pp,f1 * 2 + j,none⟩ = (zAb P)[j]?) 9 [(0,none),(3,none),(1,some true),(2,some true),(4,none),(5,some true),(6,some false),(7,some false),(8,none),(9,some false)] rfl (by kernel_rfl) (by kernel_rfl) (fun d _ _ _ _ h=>by cases d <;> exact h) HS1.out ?_;iterate 2 (refine zBQ rfl rfl (fun W=>by go_simp;with_reducible rfl) ?_;simp only [pT])
   refine zBA (v:=.slice oa ol.length oc) rfl rfl (fun W hW=>by have e : W.cell? ⟨pb,1,none⟩ = some (.slice oa ol.length oc):=(hW.1.cell 1).trans rfl;go_simp) ?_;simp only [pT];refine zBA (v:=.slice (some ⟨pp,0,none⟩) n pc) rfl rfl (fun W hW=>by have e : W.cell? ⟨qb,0,none⟩ = some (.slice (some ⟨pp,0,none⟩) n pc):=(hW.2.1.cell 0).trans rfl;go_simp) ?_;simp only [pT];refine zBQ (v:=.pointer (some ⟨pp,f1 * 2,none⟩)) rfl rfl (fun W=>by go_simp) ?_;simp only [pT];refine zBA (v:=.agg (zAb P)) rfl rfl (fun W hW=>zAE (zAb P) hW.2.2 rfl zuB) ?_;simp only [pT];refine zCp rfl rfl rfl (fun K hK=>?_)
   go_simp
   refine hK _ _ (HSA.out HS1.out) ?_;clear hK K
   try simp only [pT]
   refine zCp rfl rfl rfl (fun K hK=>?_);refine zCa _ _ 80 rfl N1 zFF (fun _=>rfl) (by decide) zAD (by decide) (.slice oa ol.length oc) ol rfl HOW.out w9.drew.heap.size 0 1 P rfl (fun j hj=>by have h:=(zAe.new w9.drew 27 (zAb P)).cell (0 + j);rw [Nat.zero_add] at h ⊢;exact h) HLN.out HSZ.out ?_;intro v2 w6 ho6 hg6 hv6;obtain ⟨a6,c6,rfl⟩:=ho6.shape;refine hK _ _ (HKP.out _ hg6) ?_;clear hK K
   try simp only [pT]
   refine zBQ rfl rfl (fun W=>by go_simp;with_reducible rfl) ?_;simp only [pT];refine zDz rfl rfl (fun K hK=>?_);refine zAr (HKP.out _ hg6).1 _ _ _ rfl rfl (.slice a6 (ol ++ [P]).length c6) rfl (by kernel_rfl) rfl (by simp [Value.cells,Value.oneCell']) ?_;intro w7 hb7 hT7;refine hK _ _ ?_;clear hK K
   try simp only [pT]
   simp only [wpE];obtain ⟨hB6,_,hE6⟩:=HKB.out _ hg6;have HP7 : Hid (zAe w7 pb 82 #[.int .i64 0, .slice a6 (ol ++ [P]).length c6,ev]):=zz (hb7.eqv rfl);have HO7 : Hid (OwnL zAb 2 w7 N1 27 (.slice a6 (ol ++ [P]).length c6) (ol ++ [P])):=zz (ho6.turn hT7 fun e=>by have:=(ho6.block _ e).1;have:=HN1.out;omega);have HE7 : Hid (zAW w7 N1 ev ((List.range k).map fun k=>zCL l (zCk pts k) (zCk pts (k + 1)))):=zz (hE6.turn hT7 (by have:=HN1.out;omega));have HB7 : Hid (Below pb w5 w7):=zz (hB6.trans (hT7.below (Nat.le_refl _)));have HN7 : Hid (N1 ≤ w7.heap.size):=zz (by rw [hT7.size];exact Nat.le_trans HSZ.out hg6.size);clear hB6 hE6 hb7 hT7 ho6 hg6 hv6;obtain ⟨M,hM⟩ : ∃ z,zDD n f1 f2 = z:=⟨_,rfl⟩
   have HMD:=zz hM;have hMn : M ≤ n:=hM ▸ zF8 hn0;have hM0 : 0 < M:=by rw [← hM];unfold zDD;omega
   clear hM;go_wp2
   go_loopw [13,14] (fun v i wr=>∃ q : Nat,q < M∧i = .int .i64 (((f1 + q) % n : Nat) : Int)∧Hid (OwnL zAa 2 wr w7.heap.size 59 v ((List.range q).map fun q=>(l[(f1 + q) % n]?).getD zDg))∧Hid (Below w7.heap.size w7 wr)) (fun v _ _=>M - lenV v)
   case atStart=>exact ⟨0,hM0,by rw [Nat.add_zero,Nat.mod_eq_of_lt hfl1],zz (OwnL.nil _ _ _ _ _),zz (Below.refl _ _)⟩
   case round=>
    obtain ⟨q,hq,rfl,HQ,HR⟩:=hrel;obtain ⟨sl2,hsl2⟩ : ∃ z,(List.range q).map (fun q=>(l[(f1 + q) % n]?).getD zDg) = z:=⟨_,rfl⟩
    have HSQ : Hid (sl2.length = q):=zz (by rw [← hsl2];simp);have HSL:=zz hsl2;rw [hsl2] at HQ;obtain ⟨ea,ec,rfl⟩:=HQ.out.shape;obtain ⟨ix,hix⟩ : ∃ z,(f1 + q) % n = z:=⟨_,rfl⟩
    have hixn : ix < n:=hix ▸ Nat.mod_lt _ hn0;have hnx : (ix + 1) % n < n:=Nat.mod_lt _ hn0;obtain ⟨nx,hnxe⟩ : ∃ z,(ix + 1) % n = z:=⟨_,rfl⟩
    have hend : nx = f2 ↔ q + 1 = M:=by rw [← hnxe,← hix,← HMD.out];exact edge_end hfl1 hfl2 (by rw [HMD.out];exact hq)
    have HNX : Hid ((f1 + (q + 1)) % n = nx):=zz (by rw [← hnxe,← hix];exact (edge_next hn0).symm);obtain ⟨x,hx⟩ : ∃ x,l[ix]? = some x:=⟨_,List.getElem?_eq_getElem (by rw [HNN.out];exact hixn)⟩
    have HBQ : Hid (Below pb w5 wr):=zz (HB7.out.trans (HR.out.mono (Nat.le_trans (Nat.le_of_lt (by have:=HN1.out;omega)) HN7.out)));have HCX : Hid (∀ j,j < (zAa x).size→wr.cell? ⟨lb,ix * 2 + j,none⟩ = (zAa x)[j]?):=zz (CL.out ix x hx wr (HW5.out.trans (HBQ.out.mono (by rw [← HPB.out];exact HW5.out.size))));have HX1 : Hid ((List.range (q + 1)).map (fun q=>(l[(f1 + q) % n]?).getD zDg) = sl2 ++ [x]):=zz (by rw [zE4,hsl2,hix,hx];rfl);have w3 : IntKind.i64.wrap ((ix : Int) + 1) = (ix : Int) + 1:=IntWalk.i64_in _ (by omega);have m2 : ((ix : Int) + 1).tmod (n : Int) = (nx : Int):=by rw [Int.tmod_eq_emod_of_nonneg (by omega),← hnxe,Int.natCast_emod];rfl
    have hve : ¬ n = 0:=by omega
    have i4 : (ix : Int) < (n : Int):=by omega
    have HLN2 : Hid (sl2.length + 1 ≤ 4294967296):=zz (by have:=HSQ.out;omega);have HEND:=zz hend;simp only [hix];clear hx hix hnxe hsl2 hend
    by_cases hnf : nx = f2
    ·subst hnf;obtain ⟨ss,s1,s2,s3⟩:=HE7.out;have hqm : q + 1 = M:=HEND.out.1 rfl;have HQM:=zz hqm;obtain ⟨va,vc,rfl⟩:=s1.shape;have HWB : Hid (∀ w8,wr.grownBy w8 (Value.slice ea sl2.length ec).ownBlock→Below w7.heap.size w7 w8):=zz fun w8 hg=>HR.out.grown hg HR.out.size fun g e=>(HQ.out.block g e).1;have HALL : Hid (Below wr.heap.size wr (wr.alloc (.cells (zAa x) 59))):=zz ((Below.refl _ _).alloc (Nat.le_refl _) _);have HSSL : Hid (ss.length ≤ 800):=zz (by have h:=congrArg List.length s3;rw [List.length_map,List.length_map,List.length_range] at h;omega);have S1:=zz s1;have S2:=zz s2;have S3:=zz s3;clear s1 s2 s3 hqm
     go_wp2_with (first | ((with_reducible refine zAm 64 ?_);refine zLe 64 lb (ix * 2) (zAa x) HCX.out zuA ?_) | ((with_reducible refine zAm 66 ?_);refine zAU rfl _ _ 62 rfl w7.heap.size zB3 (fun _=>rfl) (by decide) zAn (by decide) (.slice ea sl2.length ec) sl2 rfl (HQ.out.belowAll ((Below.refl _ _).alloc (Nat.le_refl _) _)) wr.heap.size 0 1 x rfl (fun j hj=>by rw [Nat.zero_add];exact (zAe.new wr 59 (zAa x)).cell j) HLN2.out (Nat.le_trans HR.out.size (by simp)) ?_;intro v8 w8 ho8 hg8 hv8;obtain ⟨a8,c8,rfl⟩:=ho8.shape;have h78 : Below w7.heap.size w7 w8:=(HR.out.trans (HALL.out.mono HR.out.size)).grown hg8 (Nat.le_trans HR.out.size (by simp)) (fun g e=>(HQ.out.block g e).1);have hp8:=HP7.out.belowAll h78;have q8:=(hp8.cell 2).trans (show _ = some (.slice va ss.length vc) from rfl)) | ((with_reducible refine zAm 79 ?_);refine zAU rfl _ _ 67 rfl N1 zE0 (fun _=>rfl) (by decide) zEt (by decide) (.slice va ss.length vc) ss rfl ((S1.out.belowAll h78).belowAll ((Below.refl _ _).alloc (Nat.le_refl _) _)) w8.heap.size 0 1 ⟨a8,c8,sl2 ++ [x]⟩ rfl (fun j hj=>by rw [Nat.zero_add,(zAe.new w8 62 #[.slice a8 (sl2.length + 1) c8]).cell j];simp [zBV]) (by have:=HSSL.out;omega) (Nat.le_trans HN7.out (Nat.le_trans h78.size (by simp))) ?_;intro v9 w9 ho9 hg9 hv9;obtain ⟨a9,c9,rfl⟩:=ho9.shape;have hp9 : zAe w9 pb 82 #[.int .i64 0, .slice a6 (ol ++ [P]).length c6, .slice va ss.length vc]:=(hp8.alloc _).of_block (hg9.block _ (hp8.alloc _).lt (fun e=>by have:=(S1.out.block _ e.symm).1;have:=HN1.out;omega))) | ((with_reducible refine zAv 67 ?_);refine zAS hp9 rfl _ _ _ rfl rfl (.slice a9 (ss.length + 1) c9) rfl (by kernel_rfl) rfl (by simp [Value.cells,Value.oneCell']) ?_;intro w10 hb10 hT10;simp only [pTn]))
     go_roundw
     case rel=>
      have hal : Below w8.heap.size w8 (w8.alloc (.cells #[.slice a8 (sl2.length + 1) c8] 62)):=(Below.refl _ _).alloc (Nat.le_refl _) _;have h78a:=h78.trans (hal.mono h78.size);have hpl1:=HN1.out;have hs1:=S1.out.belowAll h78a;have ho9x:=(HO7.out.belowAll h78a).kept (w':=w9) fun g hg=>by
       obtain ⟨_,c2,h2⟩:=(HO7.out.belowAll h78a).cellsAt hg;exact hg9.block g (Array.getElem?_eq_some_iff.1 h2).1 fun e=>hs1.other (HO7.out.belowAll h78a) (by decide) e.symm hg
      have hss:=zAW.append (t:=⟨a8,c8,sl2 ++ [x]⟩) hs1 (fun s hs=>(S2.out s hs).belowAll h78a) ((ho8.belowAll hal).base_le HN7.out) ho9 hg9;have hbb : Below pb w5 w9:=(HB7.out.trans (h78a.mono (Nat.le_trans (by omega) HN7.out))).grown hg9 (Nat.le_trans (Nat.le_trans (by omega) HN7.out) h78a.size) fun g e=>by have:=(hs1.block g e).1;omega
      refine ⟨k + 1,_,_,by omega,by go_num,zz (hb10.eqv rfl),zz ?_,zz ?_,zz (hbb.trans (hT10.below (Nat.le_refl _)))⟩
      ·rw [zE4,HOL.out,HF1.out,HPK.out];exact ho9x.turn hT10 fun e=>by have:=(ho9x.block _ e).1;omega
      ·rw [zE4,← S3.out,HF1.out,HF2.out];have e : zCL l f1 nx = sl2 ++ [x]:=by
        unfold zCL;rw [HNN.out,HMD.out,← HQM.out];exact HX1.out
       rw [e];have h:=hss.turn hT10 (by omega);rw [List.length_append] at h;exact h
     case measure=>simp [intOf];omega
    ·have hnb : ((nx : Int) == (f2 : Int)) = false:=by simp;omega
     have HNF:=zz hnf
     go_wp2_with (first | ((with_reducible refine zAm 64 ?_);refine zLe 64 lb (ix * 2) (zAa x) HCX.out zuA ?_) | ((with_reducible refine zAm 66 ?_);refine zAU rfl _ _ 62 rfl w7.heap.size zB3 (fun _=>rfl) (by decide) zAn (by decide) (.slice ea sl2.length ec) sl2 rfl (HQ.out.belowAll ((Below.refl _ _).alloc (Nat.le_refl _) _)) wr.heap.size 0 1 x rfl (fun j hj=>by rw [Nat.zero_add];exact (zAe.new wr 59 (zAa x)).cell j) HLN2.out (Nat.le_trans HR.out.size (by simp)) ?_;intro v8 w8 ho8 hg8 hv8))
     go_roundw
     case rel=>
      have hq1 : q + 1 < M:=by have:=mt HEND.out.2 HNF.out;omega
      exact ⟨q + 1,hq1,by rw [HNX.out],zz (by rw [HX1.out];exact ho8),zz ((HR.out.trans ((Below.refl wr.heap.size wr).alloc (Nat.le_refl _) _ |>.mono HR.out.size)).grown hg8 (Nat.le_trans HR.out.size (by simp)) fun g e=>(HQ.out.block g e).1)⟩
     case measure=>
      obtain ⟨a8,c8,e8⟩:=ho8.shape;rw [e8];have:=HSQ.out;simp [lenV];omega
  ·have hkv : k = m:=by omega
   subst hkv;obtain ⟨ol,hol⟩ : ∃ z,(List.range k).map (fun k=>(pts[zCk pts k]?).getD zAF) = z:=⟨_,rfl⟩
   obtain ⟨el,hel⟩ : ∃ z,(List.range k).map (fun k=>zCL l (zCk pts k) (zCk pts (k + 1))) = z:=⟨_,rfl⟩
   have HOL:=zz hol;have HEL:=zz hel;rw [hol] at HOV;rw [hel] at HEV;clear hol hel;obtain ⟨oa,oc,rfl⟩:=HOV.out.shape;obtain ⟨ea,ec,rfl⟩:=HEV.out.shape;have hrb:=HRB.out.below HBE.out (by have h:=HRB.out.lt;rw [HPB.out] at h;exact h);have hbx:=HBX.out;have HMV:=zz hrb.lt
   go_wp2_with (first
    | (refine zLd 82 hbx #[.int .i64 0, .slice oa ol.length oc, .slice ea el.length ec] Tryz.underlying82 ?_)
    | ((with_reducible refine zAv 82 ?_);refine zAS hrb rfl _ _ _ rfl rfl (.agg #[.int .i64 0, .slice oa ol.length oc, .slice ea el.length ec]) rfl (by kernel_rfl) rfl (by simp [Value.cells,Value.oneCell']) ?_;intro w9 hb9 hT9))
   have HNE9 : Hid (w.heap.size < N1):=zz (by have h1:=HN1.out;have h2:=HW5.out.size;rw [HPB.out] at h2;omega);refine bodyPost_ret (zBs (cs:=#[.int .i64 0, .slice oa ol.length oc, .slice ea el.length ec]) (hb9.eqv (by simp [zAx,Value.cells])) rfl rfl Tryz.underlying82) rfl ⟨_,_,rfl, ?_, ?_, ?_⟩
   ·have h:=(HOV.out.turn hT9 fun e=>by have:=(HOV.out.block _ e).1;have:=HNE9.out;omega).base_le (base':=w.heap.size) (by have:=HNE9.out;omega);rw [HPE.out];unfold zDE;rw [HMM.out];simp only [HOL.out];exact h
   ·obtain ⟨ss,a1,a2,a3⟩:=HEV.out.turn hT9 HNE9.out;have hle : w.heap.size ≤ N1:=Nat.le_of_lt HNE9.out;refine ⟨ss,a1.base_le hle,fun s hs=>(a2 s hs).base_le hle, ?_⟩;rw [a3,HPE.out];unfold zDF;rw [HMM.out];exact HEL.out.symm
   ·exact (HW5.out.trans (HBE.out.mono (by have h:=HW5.out.size;rw [HPB.out] at h;exact h))).trans (hT9.below (Nat.le_refl _))
end Go.Proofs.YtbbblemfodpmaaaGreat
end
