/-Bridges.-/
import Derived.Test.YtbbblemfodpmaaaGreatWebComp
import Derived.Deep.CutBlock
set_option linter.unusedVariables false
set_option linter.unusedSimpArgs false
set_option maxHeartbeats 16000000
set_option maxRecDepth 100000
section
namespace Go.Proofs.YtbbblemfodpmaaaGreat
open Go.RowKit
def zA8 (m : List (Int × Int)) (j : Int) : Int:=(aget m j).getD 0
def zBF (js : List Joint) (ls : List Lead) (l : Lead) : Bool:=!decide (zA8 (togA js ls 0 l.id) l.a = zA8 (togA js ls 0 l.id) l.b)
def zCC (js : List Joint) (ls : List Lead) : List Int:=(ls.filter (zBF js ls)).map (·.id)
theorem zB5 {α : Type} {p : α→Bool} {l : List α} {k : Nat} {x : α} (h : l[k]? = some x) : (l.take (k + 1)).filter p = (l.take k).filter p ++ if p x then [x] else []:=by
 rw [List.take_add_one,h,List.filter_append]
 cases hp : p x <;> simp [hp]
theorem zA5.leads {W : World} {b : Nat} {sj : Sl Joint} {sl : Sl Lead} (h : zA5 W b sj sl) : W.cell? ⟨b,1,none⟩ = some (.slice sl.a sl.val.length sl.cap):=by
 obtain ⟨ba,bl,bo,N,mo,hbN,haN,hlN,hoN,hb,_⟩:=h;exact (hb.cell 1).trans rfl
theorem zA5.joints {W : World} {b : Nat} {sj : Sl Joint} {sl : Sl Lead} (h : zA5 W b sj sl) : W.cell? ⟨b,0,none⟩ = some (.slice sj.a sj.val.length sj.cap):=by
 obtain ⟨ba,bl,bo,N,mo,hbN,haN,hlN,hoN,hb,_⟩:=h;exact (hb.cell 0).trans rfl
theorem bridges_any {b : Nat} {sj : Sl Joint} {sl : Sl Lead} (V : ValidW sj.val sl.val) (w : World) (hN : zA5 w b sj sl) (hj : sj.OK 3 zAh zAs (fun _=>False) w) (hl : sl.OK 8 zAd zAA (fun _=>False) w) :
  Calls Tryz.prog 92 #[.pointer (some ⟨b,0,none⟩)] w fun e w'=>∃ v,e = .returned v∧OwnL zAC 1 w' w.heap.size 3 v (zCC sj.val sl.val)∧Below w.heap.size w w':=by
 have HV:=zz V;have HL:=zz hl;have hroom:=hl.room;have hnl:=V.nl;have HTG : Hid (∀ W lead,Below w.heap.size w W→Calls Tryz.prog 117 #[.pointer (some ⟨b,0,none⟩), .int .i64 0, .int .i64 lead] W fun e w'=>∃ bm,e = .returned (.map (some bm))∧W.heap.size ≤ bm∧MapAt vi vi I64 w' bm (togA sj.val sl.val 0 lead)∧Below W.heap.size W w'):=zz fun W lead hW=>zDr V 0 lead W (hN.below hW) (hj.jmoved hW);have q0:=hN.leads;clear hN hj V hl;obtain ⟨al,capl,ls⟩:=sl;simp only at hroom hnl;go_enter Tryz.func92,Tryz.ntmps92;go_wp2
 go_loopw [3,13] (fun v i wr=>∃ k : Nat,k ≤ ls.length∧i = .int .i64 k∧Hid (OwnL zAC 1 wr w.heap.size 3 v (((ls.take k).filter (zBF sj.val ls)).map (·.id)))∧Hid (Below w.heap.size w wr)) (fun _ i _=>ls.length - (intOf i).toNat)
 case atStart=>exact ⟨0,Nat.zero_le _,rfl,zz (OwnL.nil _ _ _ _ _),zz (Below.refl _ _)⟩
 case round=>
  obtain ⟨k,hk,rfl,HO,HB⟩:=hrel
  by_cases hlt : k < ls.length
  ·obtain ⟨x,hx⟩ : ∃ x,ls[k]? = some x:=⟨_,List.getElem?_eq_getElem hlt⟩
   obtain ⟨bb,o,rfl,hbb,_,hok,hcell⟩:=HL.out.at hx;have HC : Hid (∀ j,j < (zAd x).size→wr.cell? ⟨bb,o + k * 8 + j,none⟩ = (zAd x)[j]?):=zz fun j hj=>by
    rw [(Ext.of_below (D:=fun _=>False) HB.out).cell hbb id];exact hcell j hj
   obtain ⟨i1,i2,i3⟩:=HV.out.leadI (List.mem_of_getElem? hx);have I2:=zz i2;have I3:=zz i3;have hb3 : zAe (wr.alloc (.cells (zAd x) 31)) wr.heap.size 31 (zAd x):=zAe.new _ _ _;have HB3 : Hid (Below w.heap.size w (wr.alloc (.cells (zAd x) 31))):=zz (HB.out.alloc HB.out.size _);have z0 : (wr.alloc (.cells (zAd x) 31)).cell? ⟨wr.heap.size,0,none⟩ = some (.int .i64 x.id):=(hb3.cell 0).trans rfl;have HO3 : Hid (OwnL zAC 1 (wr.alloc (.cells (zAd x) 31)) w.heap.size 3 u3 (((ls.take k).filter (zBF sj.val ls)).map (·.id))):=zz (HO.out.belowAll ((Below.refl _ _).alloc (Nat.le_refl _) _));have HFL : Hid (((ls.take (k + 1)).filter (zBF sj.val ls)).map (·.id) = ((ls.take k).filter (zBF sj.val ls)).map (·.id) ++ if zBF sj.val ls x then [x.id] else []):=zz (by
    rw [zB5 hx,List.map_append];split <;> rfl)
   have HLE : Hid ((((ls.take k).filter (zBF sj.val ls)).map (·.id)).length + 1 ≤ 4294967296):=zz (by
    rw [List.length_map];have h1:=List.length_filter_le (zBF sj.val ls) (ls.take k);rw [List.length_take] at h1;omega)
   obtain ⟨pa,hpa⟩ : ∃ z,(aget (togA sj.val ls 0 x.id) x.a).getD 0 = z:=⟨_,rfl⟩
   obtain ⟨pb,hpb⟩ : ∃ z,(aget (togA sj.val ls 0 x.id) x.b).getD 0 = z:=⟨_,rfl⟩
   have HPA:=zz hpa;have HPB:=zz hpb;have HIB : Hid (zBF sj.val ls x = !decide (pa = pb)):=zz (by unfold zBF zA8;rw [hpa,hpb]);have HCT:=zz (HTG.out _ x.id HB3.out);clear hx hok hcell hbb i1 i2 i3 HO HB hpa hpb;have HLI : Hid (zBF sj.val ls x = zBF sj.val ls x):=zz rfl
   by_cases hpp : pa = pb
   ·have HPP:=zz hpp;have hpq : (pa != pb) = false:=by simpa using hpp
    clear hpp
    go_wp2_with (first | ((with_reducible refine zAm 16 ?_);refine zLe 16 bb (o + k * 8) (zAd x) HC.out zuD ?_) | ((with_reducible refine zAv 31 ?_);refine zAk (cs:=zAd x) rfl 31 _ _ rfl rfl rfl rfl (by kernel_rfl) rfl (zA9 _) ?_) | (go_at_call 117;refine HCT.out.mono ?_;rintro e w2 ⟨bm,rfl,hbm,hm2,hb2⟩;have q1:=((hb3.belowAll hb2).cell 1).trans (show _ = some (.int .i64 x.a) from rfl);have q2:=((hb3.belowAll hb2).cell 2).trans (show _ = some (.int .i64 x.b) from rfl);have q3:=((hb3.belowAll hb2).cell 0).trans (show _ = some (.int .i64 x.id) from rfl);have HB4:=zz (HB3.out.trans (hb2.mono HB3.out.size));have HO4:=zz (HO3.out.belowAll hb2)) | ((with_reducible refine zAm 24 ?_);refine zAY rfl _ _ 168 rfl zAQ zuE (0 : Int) (zBZ _) rfl hm2 x.a I2.out rfl ?_;rw [HPA.out]) | ((with_reducible refine zAm 28 ?_);refine zAY rfl _ _ 168 rfl zAQ zuE (0 : Int) (zBZ _) rfl hm2 x.b I3.out rfl ?_;rw [HPB.out]) | ((with_reducible refine zAm 34 ?_);refine zAU rfl _ _ 50 rfl w.heap.size zCm (fun _=>rfl) (by decide) zB4 (by decide) u3 _ rfl (HO4.out.belowAll ((Below.refl _ _).alloc (Nat.le_refl _) _)) w2.heap.size 0 1 x.id rfl (fun j hj=>by rw [Nat.zero_add];exact (zAe.new w2 3 (zAC x.id)).cell j) HLE.out (Nat.le_trans HB4.out.size (by simp)) ?_;intro v5 w5 ho5 hg5 hv5))
    go_roundw
    case rel=>exact ⟨k + 1,by omega,by go_num,zz (by rw [HFL.out,HIB.out,HPP.out];simpa using HO4.out),HB4⟩
    case measure=>simp [intOf];omega
   ·have HPP:=zz hpp;have hpq : (pa != pb) = true:=by simpa using hpp
    clear hpp
    go_wp2_with (first | ((with_reducible refine zAm 16 ?_);refine zLe 16 bb (o + k * 8) (zAd x) HC.out zuD ?_) | ((with_reducible refine zAv 31 ?_);refine zAk (cs:=zAd x) rfl 31 _ _ rfl rfl rfl rfl (by kernel_rfl) rfl (zA9 _) ?_) | (go_at_call 117;refine HCT.out.mono ?_;rintro e w2 ⟨bm,rfl,hbm,hm2,hb2⟩;have q1:=((hb3.belowAll hb2).cell 1).trans (show _ = some (.int .i64 x.a) from rfl);have q2:=((hb3.belowAll hb2).cell 2).trans (show _ = some (.int .i64 x.b) from rfl);have q3:=((hb3.belowAll hb2).cell 0).trans (show _ = some (.int .i64 x.id) from rfl);have HB4:=zz (HB3.out.trans (hb2.mono HB3.out.size));have HO4:=zz (HO3.out.belowAll hb2)) | ((with_reducible refine zAm 24 ?_);refine zAY rfl _ _ 168 rfl zAQ zuE (0 : Int) (zBZ _) rfl hm2 x.a I2.out rfl ?_;rw [HPA.out]) | ((with_reducible refine zAm 28 ?_);refine zAY rfl _ _ 168 rfl zAQ zuE (0 : Int) (zBZ _) rfl hm2 x.b I3.out rfl ?_;rw [HPB.out]) | ((with_reducible refine zAm 34 ?_);refine zAU rfl _ _ 50 rfl w.heap.size zCm (fun _=>rfl) (by decide) zB4 (by decide) u3 _ rfl (HO4.out.belowAll ((Below.refl _ _).alloc (Nat.le_refl _) _)) w2.heap.size 0 1 x.id rfl (fun j hj=>by rw [Nat.zero_add];exact (zAe.new w2 3 (zAC x.id)).cell j) HLE.out (Nat.le_trans HB4.out.size (by simp)) ?_;intro v5 w5 ho5 hg5 hv5))
    go_roundw
    case rel=>
     refine ⟨k + 1,by omega,by go_num,zz (by rw [HFL.out,HIB.out,show decide (pa = pb) = false by simpa using HPP.out];exact ho5),zz ?_⟩;exact (HB4.out.alloc HB4.out.size _).grown hg5 (Nat.le_trans HB4.out.size (by simp)) fun g e=>(HO4.out.block g e).1
    case measure=>simp [intOf];omega
  ·have hkv : k = ls.length:=by omega
   subst hkv;rw [List.take_length] at HO;go_wp2;go_ret;exact ⟨_,rfl,HO.out,HB.out⟩
end Go.Proofs.YtbbblemfodpmaaaGreat
end
section
namespace Go.Proofs.YtbbblemfodpmaaaGreat
open Go.RowKit
theorem tog_vals (js : List Joint) (ls : List Lead) (joint lead : Int) {q v : Int} (h : aget (togA js ls joint lead) q = some v) : ∃ y ∈ js,y.id = v:=by
 have key : ∀ (l : List Joint) (m : List (Int × Int)),(∀ q v,aget m q = some v→∃ y ∈ js,y.id = v)→(∀ y ∈ l,y ∈ js)→∀ q v,aget (l.foldl (fun m x=>zAT js ls joint lead x.id (js.length + 1) m x.id) m) q = some v→∃ y ∈ js,y.id = v:=by
  intro l
  induction l with
  | nil=>exact fun m h _=>h
  | cons x l ih=>
   intro m hm hl;rw [List.foldl_cons];refine ih _ (fun q v hq=>?_) (fun y hy=>hl y (List.mem_cons_of_mem _ hy))
   rcases (zD5 js ls joint lead x.id (js.length + 1) m x.id).2 q v hq with h | ⟨_,rfl⟩
   ·exact hm q v h
   ·exact ⟨x,hl x (by simp),rfl⟩
 exact key js [] (by simp [aget]) (fun y hy=>hy) q v h
def restL (T : List (Int × Int)) (c : Int × Int→Bool) : List (Int × Bool):=(T.filter c).foldl (fun m p=>aput m p.2 true) []
theorem restL_has (T : List (Int × Int)) (c : Int × Int→Bool) (v : Int) : ahas (restL T c) v = true ↔ ∃ p ∈ T,c p = true∧p.2 = v:=by
 have key : ∀ (l : List (Int × Int)) (m : List (Int × Bool)),ahas (l.foldl (fun m p=>aput m p.2 true) m) v = true ↔ (∃ p ∈ l,p.2 = v) ∨ ahas m v = true:=by
  intro l
  induction l with
  | nil=>simp
  | cons p l ih=>
   intro m;rw [List.foldl_cons,ih,zCJ];simp only [List.mem_cons,Bool.or_eq_true,decide_eq_true_eq]
   constructor
   ·rintro (⟨q,hq,e⟩ | rfl | h)
    ·exact .inl ⟨q, .inr hq,e⟩
    ·exact .inl ⟨p, .inl rfl,rfl⟩
    ·exact .inr h
   ·rintro (⟨q,rfl | hq,e⟩ | h)
    ·exact .inr (.inl e.symm)
    ·exact .inl ⟨q,hq,e⟩
    ·exact .inr (.inr h)
 unfold restL;rw [key];simp [ahas,List.mem_filter]
theorem zFE (T : List (Int × Int)) (c : Int × Int→Bool) : ((restL T c).map Prod.fst).Nodup:=by
 have key : ∀ (l : List (Int × Int)) (m : List (Int × Bool)),(m.map Prod.fst).Nodup→((l.foldl (fun m p=>aput m p.2 true) m).map Prod.fst).Nodup:=by
  intro l
  induction l with
  | nil=>exact fun m h=>h
  | cons p l ih=>exact fun m h=>by rw [List.foldl_cons];exact ih _ (zET h _ _)
 exact key _ _ (by simp)
structure PinI (T : List (Int × Int)) (c : Int × Int→Bool) (left : List (Int × Int)) (m : List (Int × Bool)) : Prop where
 has : ∀ v,ahas m v = true ↔ ∃ p ∈ T,p.1 ∉ left.map Prod.fst∧c p = true∧p.2 = v
 nd : (left.map Prod.fst).Nodup
 sub : ∀ p ∈ left,p ∈ T
theorem PinI.start {T : List (Int × Int)} (c : Int × Int→Bool) (h : (T.map Prod.fst).Nodup) : PinI T c T []:=
 ⟨fun v=>⟨fun h=>by simp [ahas] at h,fun ⟨p,hp,hn,_⟩=>absurd (List.mem_map.2 ⟨p,hp,rfl⟩) hn⟩,h,fun p hp=>hp⟩
theorem PinI.step {T : List (Int × Int)} {c : Int × Int→Bool} {l1 l2 : List (Int × Int)} {p : Int × Int} {m : List (Int × Bool)} (hT : (T.map Prod.fst).Nodup) (h : PinI T c (l1 ++ p :: l2) m) : PinI T c (l1 ++ l2) (if c p then aput m p.2 true else m):=by
 have hp : p ∈ T:=h.sub p (by simp);have hnd:=h.nd;rw [List.map_append,List.map_cons,List.nodup_append,List.nodup_cons] at hnd;obtain ⟨n1,⟨n2,n3⟩,n4⟩:=hnd;have hpn : p.1 ∉ (l1 ++ l2).map Prod.fst:=by
  rw [List.map_append,List.mem_append];rintro (h1 | h1)
  ·exact n4 _ h1 _ (by simp) rfl
  ·exact n2 h1
 refine ⟨fun v=>?_, ?_,fun q hq=>h.sub q ?_⟩
 ·have hh : ahas (if c p then aput m p.2 true else m) v = true ↔ ahas m v = true ∨ (c p = true∧p.2 = v):=by
   split
   ·rename_i hc;rw [zCJ];simp only [Bool.or_eq_true,decide_eq_true_eq,hc,true_and];exact ⟨fun h=>h.elim (fun e=>.inr e.symm) .inl,fun h=>h.elim .inr (fun e=>.inl e.symm)⟩
   ·rename_i hc;simp [hc]
  rw [hh,h.has v]
  constructor
  ·rintro (⟨q,hq,hn,hc,e⟩ | ⟨hc,e⟩)
   ·exact ⟨q,hq,fun hi=>hn (by rw [List.map_append,List.mem_append] at hi ⊢;exact hi.imp id fun z=>List.mem_cons_of_mem _ z),hc,e⟩
   ·exact ⟨p,hp,hpn,hc,e⟩
  ·rintro ⟨q,hq,hn,hc,e⟩
   by_cases hqp : q.1 = p.1
   ·have : q = p:=by
     have a1:=zCl hT hq;have a2:=zCl hT hp;rw [hqp,a2] at a1;exact Prod.ext hqp (by simpa using a1.symm)
    subst this;exact .inr ⟨hc,e⟩
   ·refine .inl ⟨q,hq,fun hi=>hn ?_,hc,e⟩;rw [List.map_append,List.map_cons,List.mem_append,List.mem_cons] at hi;rw [List.map_append,List.mem_append]
    rcases hi with hi | hi | hi
    ·exact .inl hi
    ·exact absurd hi hqp
    ·exact .inr hi
 ·rw [List.map_append,List.nodup_append];exact ⟨n1,n3,fun a ha b hb=>n4 a ha b (List.mem_cons_of_mem _ hb)⟩
 ·rcases List.mem_append.1 hq with hq | hq
  ·exact List.mem_append_left _ hq
  ·exact List.mem_append_right _ (List.mem_cons_of_mem _ hq)
theorem PinI.done {T : List (Int × Int)} {c : Int × Int→Bool} {m : List (Int × Bool)} (h : PinI T c [] m) (hn : (m.map Prod.fst).Nodup) : m.length = (restL T c).length:=by
 have e : ∀ v,v ∈ m.map Prod.fst ↔ v ∈ (restL T c).map Prod.fst:=fun v=>by
  rw [← zES,← zES,restL_has,h.has v];simp
 have h1:=zDj hn fun x hx=>(e x).1 hx;have h2:=zDj (zFE T c) fun x hx=>(e x).2 hx;rw [List.length_map,List.length_map] at h1 h2;omega
def zCd (js : List Joint) (ls : List Lead) (x : Joint) : Bool:=decide (1 < (restL (togA js ls x.id 0) fun p=>decide (zA8 (togA js ls 0 0) p.1 = zA8 (togA js ls 0 0) x.id)).length)
def zCD (js : List Joint) (ls : List Lead) : List Int:=(js.filter (zCd js ls)).map (·.id)
theorem OwnL.no_map {α κ ν : Type} [DecidableEq κ] {enc : α→Array Value} {sz : Nat} {W : World} {N c : Nat} {T : TypeId} {v : Value} {l : List α} {K : κ→Value} {V : ν→Value} {good : κ→Prop} {m : List (κ × ν)} (h : OwnL enc sz W N T v l) (hm : MapAt K V good W c m) : v.ownBlock ≠ some c:=fun e=>by
 obtain ⟨_,cur,h1⟩:=h.cellsAt e;obtain ⟨es,clock,h2,_⟩:=hm.raw;rw [h1] at h2;cases h2
theorem OwnL.no_iter {α κ ν : Type} [DecidableEq κ] {enc : α→Array Value} {sz : Nat} {W : World} {N b r : Nat} {T : TypeId} {v : Value} {l : List α} {K : κ→Value} {V : ν→Value} {good : κ→Prop} {m left : List (κ × ν)} (h : OwnL enc sz W N T v l) (hm : RangeAt K V good W b r m left) : v.ownBlock ≠ some r:=fun e=>by
 obtain ⟨_,cur,h1⟩:=h.cellsAt e;obtain ⟨x,y,z,t,h2⟩:=hm.iter;rw [h1] at h2;cases h2
theorem zAe.no_map {κ ν : Type} [DecidableEq κ] {W : World} {b c : Nat} {T : TypeId} {cs : Array Value} {K : κ→Value} {V : ν→Value} {good : κ→Prop} {m : List (κ × ν)} (h : zAe W b T cs) (hm : MapAt K V good W c m) : b ≠ c:=fun e=>by
 obtain ⟨es,clock,h2,_⟩:=hm.raw;rw [← e] at h2;exact absurd (h.symm.trans h2) (by simp)
theorem zAe.no_iter {κ ν : Type} [DecidableEq κ] {W : World} {b c r : Nat} {T : TypeId} {cs : Array Value} {K : κ→Value} {V : ν→Value} {good : κ→Prop} {m left : List (κ × ν)} (h : zAe W b T cs) (hm : RangeAt K V good W c r m left) : b ≠ r:=fun e=>by
 obtain ⟨x,y,z,t,h2⟩:=hm.iter;rw [← e] at h2;exact absurd (h.symm.trans h2) (by simp)
theorem pinches_any {b : Nat} {sj : Sl Joint} {sl : Sl Lead} (V : ValidW sj.val sl.val) (w : World) (hN : zA5 w b sj sl) (hj : sj.OK 3 zAh zAs (fun _=>False) w) :
  Calls Tryz.prog 94 #[.pointer (some ⟨b,0,none⟩)] w fun e w'=>∃ v,e = .returned v∧OwnL zAC 1 w' w.heap.size 3 v (zCD sj.val sl.val)∧Below w.heap.size w w':=by
 have HV:=zz V;have HJ:=zz hj;have hroom:=hj.room;have hnj:=V.nj;have hmm:=@run_makeMap Tryz.prog;have HTG : Hid (∀ W joint,Below w.heap.size w W→Calls Tryz.prog 117 #[.pointer (some ⟨b,0,none⟩), .int .i64 joint, .int .i64 0] W fun e w'=>∃ bm,e = .returned (.map (some bm))∧W.heap.size ≤ bm∧MapAt vi vi I64 w' bm (togA sj.val sl.val joint 0)∧Below W.heap.size W w'):=zz fun W joint hW=>zDr V joint 0 W (hN.below hW) (hj.jmoved hW);have HNJ : Hid (∀ W,Below w.heap.size w W→W.cell? ⟨b,0,none⟩ = some (.slice sj.a sj.val.length sj.cap)):=zz fun W hW=>(hN.below hW).joints;have HC0:=zz (HTG.out w 0 (Below.refl _ _));clear hN hj V;obtain ⟨W0,hW0⟩ : ∃ P,togA sj.val sl.val 0 0 = P:=⟨_,rfl⟩
 have HW0:=zz hW0;simp only [hW0] at HC0;clear hW0;obtain ⟨aj,capj,js⟩:=sj;simp only at hroom hnj;go_enter Tryz.func94,Tryz.ntmps94
 go_wp2_with (first
  | (go_at_call 117;refine HC0.out.mono ?_;rintro e w1 ⟨bm0,rfl,hbm0,hm1,hb1⟩;have q1:=HNJ.out w1 hb1))
 have HM1:=zz hm1;have HB1:=zz hb1;clear q1 hm1 hb1
 go_loopw [4,19] (fun v i wr=>∃ k : Nat,k ≤ js.length∧i = .int .i64 k∧Hid (OwnL zAC 1 wr w.heap.size 3 v (((js.take k).filter (zCd js sl.val)).map (·.id)))∧Hid (MapAt vi vi I64 wr bm0 W0)∧Hid (Below w.heap.size w wr)) (fun _ i _=>js.length - (intOf i).toNat)
 case atStart=>exact ⟨0,Nat.zero_le _,rfl,zz (OwnL.nil _ _ _ _ _),HM1,HB1⟩
 case round=>
  obtain ⟨k,hk,rfl,HO,HM,HB⟩:=hrel
  by_cases hlt : k < js.length
  ·obtain ⟨x,hx⟩ : ∃ x,js[k]? = some x:=⟨_,List.getElem?_eq_getElem hlt⟩
   obtain ⟨bb,o,rfl,hbb,_,hok,hcell⟩:=HJ.out.at hx;have HC : Hid (∀ j,j < (zAh x).size→wr.cell? ⟨bb,o + k * 3 + j,none⟩ = (zAh x)[j]?):=zz fun j hj=>by
    rw [(Ext.of_below (D:=fun _=>False) HB.out).cell hbb id];exact hcell j hj
   have HXI : Hid (I64 x.id):=zz hok.1;have hb3 : zAe (wr.alloc (.cells (zAh x) 29)) wr.heap.size 29 (zAh x):=zAe.new _ _ _;have HB3 : Hid (Below w.heap.size w (wr.alloc (.cells (zAh x) 29))):=zz (HB.out.alloc HB.out.size _);have z0 : (wr.alloc (.cells (zAh x) 29)).cell? ⟨wr.heap.size,0,none⟩ = some (.int .i64 x.id):=(hb3.cell 0).trans rfl;obtain ⟨acc,hacc⟩ : ∃ z,((js.take k).filter (zCd js sl.val)).map (·.id) = z:=⟨_,rfl⟩
   have HFL : Hid (((js.take (k + 1)).filter (zCd js sl.val)).map (·.id) = acc ++ if zCd js sl.val x then [x.id] else []):=zz (by
    rw [zB5 hx,List.map_append,hacc];split <;> rfl)
   have HLE : Hid (acc.length + 1 ≤ 4294967296):=zz (by
    rw [← hacc,List.length_map];have h1:=List.length_filter_le (zCd js sl.val) (js.take k);rw [List.length_take] at h1;omega)
   rw [hacc] at HO;have HO3 : Hid (OwnL zAC 1 (wr.alloc (.cells (zAh x) 29)) w.heap.size 3 u4 acc):=zz (HO.out.belowAll ((Below.refl _ _).alloc (Nat.le_refl _) _));have HM3 : Hid (MapAt vi vi I64 (wr.alloc (.cells (zAh x) 29)) bm0 W0):=zz (HM.out.alloc _);obtain ⟨T,hT⟩ : ∃ z,togA js sl.val x.id 0 = z:=⟨_,rfl⟩
   have HTV : Hid (∀ p ∈ T,(T.map Prod.fst).Nodup→I64 p.2):=zz fun p hp hn=>by
    obtain ⟨y,hy,e⟩:=tog_vals js sl.val x.id 0 (q:=p.1) (v:=p.2) (by rw [hT];exact zCl hn hp);rw [← e];exact HV.out.idI hy
   have HPX : Hid (zCd js sl.val x = decide (1 < (restL T fun p=>decide (zA8 W0 p.1 = zA8 W0 x.id)).length)):=zz (by unfold zCd;rw [hT,HW0.out]);obtain ⟨px,hpx⟩ : ∃ z,(aget W0 x.id).getD 0 = z:=⟨_,rfl⟩
   have HPXV:=zz hpx;have HCT:=zz (HTG.out _ x.id HB3.out);simp only [hT] at HCT;clear hx hok hcell hbb HO HB HM hT hacc hpx
   go_wp2_with (first
    | ((with_reducible refine zAm 22 ?_);refine zLe 22 bb (o + k * 3) (zAh x) HC.out zuG ?_)
    | ((with_reducible refine zAv 29 ?_);refine zAk (cs:=zAh x) rfl 29 _ _ rfl rfl rfl rfl (by kernel_rfl) rfl (zBj _) ?_)
    | (go_at_call 117;refine HCT.out.mono ?_;rintro e w2 ⟨bm,rfl,hbm,hm2,hb2⟩;have hmT:=hm2.alloc (.map #[] 0))
    | ((with_reducible refine zAm 29 ?_);refine zD9 rfl _ 168 rfl zuE rfl hmT ?_;intro ob hrg))
   have hnd:=hm2.nodup;have hl2:=hm2.lt;have h6 : Below w2.heap.size w2 ((w2.alloc (.map #[] 0)).alloc ob):=((Lays.refl w2).alloc _ |>.alloc _).below (Nat.le_refl _);have HM6 : Hid (MapAt vi vBool I64 ((w2.alloc (.map #[] 0)).alloc ob) w2.heap.size []):=zz ((MapAt.made _ _ _ _).alloc _);have h26:=(hb2.trans (h6.mono hb2.size))
   have HB6:=zz (HB3.out.trans (h26.mono HB3.out.size));have HO6:=zz (HO3.out.belowAll h26);have HJ6:=zz (hb3.belowAll h26);have HW6:=zz (HM3.out.below h26 HM3.out.lt);have HND:=zz hnd;have hsw : w.heap.size ≤ w2.heap.size:=Nat.le_trans HB3.out.size hb2.size;have hb0 : bm0 < w2.heap.size:=Nat.lt_of_lt_of_le HM3.out.lt hb2.size;simp only [World.size_alloc] at hrg;simp only [pTs,pTz,pTc,World.size_alloc];have HRG:=zz hrg;obtain ⟨jb,hjb⟩ : ∃ z,wr.heap.size = z:=⟨_,rfl⟩
   simp only [hjb] at HJ6 ⊢;clear hrg hmT hm2 h6 h26 hb2 hnd z0 hb3;obtain ⟨W6,hW6⟩ : ∃ W,(w2.alloc (.map #[] 0)).alloc ob = W:=⟨_,rfl⟩
   simp only [hW6] at HM6 HB6 HO6 HJ6 HW6 HRG ⊢;clear hW6
   go_loopw [9,10] (fun _ _ wq=>∃ (left : List (Int × Int)) (m3 : List (Int × Bool)),Hid (RangeAt vi vi I64 wq bm (w2.heap.size + 1) T left)∧Hid (MapAt vi vBool I64 wq w2.heap.size m3)∧Hid (PinI T (fun p=>decide (zA8 W0 p.1 = zA8 W0 x.id)) left m3)∧Hid (zAe wq jb 29 (zAh x))∧Hid (MapAt vi vi I64 wq bm0 W0)∧Hid (OwnL zAC 1 wq w.heap.size 3 u4 acc)∧Hid (Below w.heap.size w wq)) (fun _ _ wq=>zEl wq bm (w2.heap.size + 1))
   case atStart=>exact ⟨T,[],HRG,HM6,zz (PinI.start _ HND.out),HJ6,HW6,HO6,HB6⟩
   case round=>
    obtain ⟨left,m3,HR,HM7,HI7,HJ7,HW7,HO7,HB7⟩:=hrel;have hcount:=HR.out.count
    rcases HR.out.next (P:=Tryz.prog) (by have:=HR.out.map.lt;omega) 0 with ⟨hl0,hnx⟩ | ⟨l1,p,l2,w',hl,hnx,hR',hT,hen⟩
    ·subst hl0;have HLN:=zz (HI7.out.done HM7.out.nodup);have hm7:=HM7.out;have z7:=(HJ7.out.cell 0).trans (show _ = some (.int .i64 x.id) from rfl);have HAP : Hid (OwnL zAC 1 (wr.alloc (.cells #[.int .i64 x.id] 3)) w.heap.size 3 u4 acc):=zz (HO7.out.belowAll ((Below.refl _ _).alloc (Nat.le_refl _) _))
     by_cases hp1 : 1 < m3.length
     ·have hp2 : (1 : Int) < (m3.length : Int):=by omega
      have HP1:=zz hp1;clear hp1
      go_wp2_with (first
       | ((with_reducible refine zAm 46 ?_);refine zEL rfl _ 165 rfl Tryz.underlying165 rfl hm7 ?_)
       | ((with_reducible refine zAm 52 ?_);refine zAU rfl _ _ 50 rfl w.heap.size zCm (fun _=>rfl) (by decide) zB4 (by decide) u4 acc rfl HAP.out wr.heap.size 0 1 x.id rfl (fun j hj=>by rw [Nat.zero_add];exact (zAe.new wr 3 (zAC x.id)).cell j) HLE.out (Nat.le_trans HB7.out.size (by simp)) ?_;intro v5 w5 ho5 hg5 hv5))
      go_roundw
      case rel=>
       refine ⟨k + 1,by omega,by go_num,zz (by rw [HFL.out,HPX.out,← HLN.out,decide_eq_true HP1.out];exact ho5),zz ?_,zz ?_⟩
       ·have hmw:=HW7.out.alloc (.cells #[.int .i64 x.id] 3);exact hmw.of_block (hg5.block _ hmw.lt fun e=>HAP.out.no_map hmw e.symm)
       ·exact (HB7.out.alloc HB7.out.size _).grown hg5 (Nat.le_trans HB7.out.size (by simp)) fun g e=>(HAP.out.block g e).1
      case measure=>simp [intOf];omega
     ·have hp2 : ¬ (1 : Int) < (m3.length : Int):=by omega
      have HP1:=zz hp1;clear hp1
      go_wp2_with (first
       | ((with_reducible refine zAm 46 ?_);refine zEL rfl _ 165 rfl Tryz.underlying165 rfl hm7 ?_))
      go_roundw
      case rel=>exact ⟨k + 1,by omega,by go_num,zz (by rw [HFL.out,HPX.out,← HLN.out,decide_eq_false HP1.out];simpa using HO7.out),HW7,HB7⟩
      case measure=>simp [intOf];omega
    ·obtain ⟨q,f⟩:=p;replace hnx : (Instr.next (.pointer (some ⟨w2.heap.size + 1,0,none⟩)) false 0).run Tryz.prog wr = .ok (.tuple #[.bool true, .int .i64 q, .int .i64 f]) w':=hnx;replace hen : (Instr.entry (.pointer (some ⟨w2.heap.size + 1,0,none⟩))).run Tryz.prog w' = .ok (.tuple #[.int .i64 q, .int .i64 f]) w':=hen;have hpm:=HI7.out.sub (q,f) (by rw [hl];simp);have HQI : Hid (I64 q):=zz (HR.out.good _ hpm);have HFI : Hid (I64 f):=zz (HTV.out _ hpm HND.out);have hmw:=HW7.out.turn hT fun e=>by
      obtain ⟨es,clock,h2,_⟩:=HW7.out.raw;obtain ⟨a1,a2,a3,a4,h3⟩:=HR.out.iter;rw [e,h3] at h2;cases h2
     have hm8:=HM7.out.turn hT (by omega);have hj8:=HJ7.out.turn hT (HJ7.out.no_iter HR.out);have HO8:=zz (HO7.out.turn hT (HO7.out.no_iter HR.out));have HB8:=zz (HB7.out.trans (hT.below (by omega)));have z8:=(hj8.cell 0).trans (show _ = some (.int .i64 x.id) from rfl);have HR8:=zz hR';have hs8:=hT.size;obtain ⟨pq,hpq⟩ : ∃ z,(aget W0 q).getD 0 = z:=⟨_,rfl⟩
     have HPQ:=zz hpq;have HI8 : Hid (PinI T (fun p=>decide (zA8 W0 p.1 = zA8 W0 x.id)) (l1 ++ l2) (if decide (pq = px) then aput m3 f true else m3)):=zz (by
      have h:=(hl ▸ HI7.out).step HND.out;have e : decide (zA8 W0 q = zA8 W0 x.id) = decide (pq = px):=by unfold zA8;rw [hpq,HPXV.out]
      simpa only [e] using h)
     have HLC : Hid ((l1 ++ l2).length < left.length):=zz (by rw [hl];simp);clear hl hpm hT hR' hpq
     by_cases hqx : pq = px
     ·have hqb : (pq == px) = true:=by simpa using hqx
      have HQX:=zz hqx;clear hqx
      go_wp2_with (first | ((with_reducible refine zAm 37 ?_);refine zAY rfl _ _ 168 rfl zAQ zuE (0 : Int) (zBZ _) rfl hmw q HQI.out rfl ?_;rw [HPQ.out]) | ((with_reducible refine zAm 41 ?_);refine zAY rfl _ _ 168 rfl zAQ zuE (0 : Int) (zBZ _) rfl hmw x.id HXI.out rfl ?_;rw [HPXV.out]) | (at_mapUpdate;refine zBx rfl _ _ _ 165 rfl zAQ Tryz.underlying165 rfl hm8 f HFI.out rfl true rfl ?_;intro w9 hm9 hT9;simp only [pTn]))
      go_roundw
      case rel=>
       have hr9 : RangeAt vi vi I64 w9 bm (w2.heap.size + 1) T (l1 ++ l2):=HR8.out.of_block (hT9.block _ (by omega)) (hT9.block _ (by omega));refine ⟨l1 ++ l2,_,zz hr9,zz hm9,zz (by have h:=HI8.out;rw [decide_eq_true HQX.out] at h;exact h),zz (hj8.turn hT9 (hj8.no_map hm8)),zz (hmw.turn hT9 ?_),zz (HO8.out.turn hT9 (HO8.out.no_map hm8)),zz (HB8.out.trans (hT9.below (by omega)))⟩;omega
      case measure=>
       have hr9 : RangeAt vi vi I64 w9 bm (w2.heap.size + 1) T (l1 ++ l2):=HR8.out.of_block (hT9.block _ (by omega)) (hT9.block _ (by omega));have:=hr9.count;have:=HLC.out;omega
     ·have hqb : (pq == px) = false:=by simpa using hqx
      have HQX:=zz hqx;clear hqx
      go_wp2_with (first | ((with_reducible refine zAm 37 ?_);refine zAY rfl _ _ 168 rfl zAQ zuE (0 : Int) (zBZ _) rfl hmw q HQI.out rfl ?_;rw [HPQ.out]) | ((with_reducible refine zAm 41 ?_);refine zAY rfl _ _ 168 rfl zAQ zuE (0 : Int) (zBZ _) rfl hmw x.id HXI.out rfl ?_;rw [HPXV.out]))
      go_roundw
      case rel=>exact ⟨l1 ++ l2,m3,HR8,zz hm8,zz (by have h:=HI8.out;rw [decide_eq_false HQX.out] at h;exact h),zz hj8,zz hmw,HO8,HB8⟩
      case measure=>have:=HR8.out.count;have:=HLC.out;omega
  ·have hkv : k = js.length:=by omega
   subst hkv;rw [List.take_length] at HO;go_wp2;go_ret;exact ⟨_,rfl,HO.out,HB.out⟩
end Go.Proofs.YtbbblemfodpmaaaGreat
end
