/-The joints that hang together, as lists.-/
import Derived.Test.YtbbblemfodpmaaaGreatWebGk
import Derived.Deep.CutBlock
set_option linter.unusedVariables false
set_option linter.unusedSimpArgs false
set_option maxHeartbeats 16000000
set_option maxRecDepth 100000
namespace Go.Proofs.YtbbblemfodpmaaaGreat
open Go.RowKit
theorem zCm : zBU Tryz.prog 50 3 1 8:=⟨Tryz.underlying50,by kernel_rfl⟩
theorem einfo_LI : zBU Tryz.prog 47 50 1 24:=⟨Tryz.underlying47,by kernel_rfl⟩
def zBa (P : List (Int × Int)) (a : List (List Int) × List (Int × Int)) (j : Int) : List (List Int) × List (Int × Int):=
 if (aget P j).getD 0 = j then (a.1 ++ [[j]],aput a.2 j (a.1.length : Int)) else (a.1.modify ((aget a.2 ((aget P j).getD 0)).getD 0).toNat (· ++ [j]),a.2)
def zCF (js : List Joint) (ls : List Lead) : List (List Int):=((js.map (·.id)).foldl (zBa (togA js ls 0 0)) ([],[])).1
def IxOK (a : List (List Int) × List (Int × Int)) : Prop:=∀ q v,aget a.2 q = some v→∃ n : Nat,v = n∧n < a.1.length
theorem ix_step {P : List (Int × Int)} {a : List (List Int) × List (Int × Int)} (h : IxOK a) (j : Int) : IxOK (zBa P a j):=by
 unfold zBa
 split
 ·intro q v hq;simp only [List.length_append,List.length_singleton] at hq ⊢;rw [zBS] at hq
  split at hq
  ·simp only [Option.some.injEq] at hq;exact ⟨_,hq.symm,by omega⟩
  ·obtain ⟨n,e,hn⟩:=h q v hq;exact ⟨n,e,by omega⟩
 ·intro q v hq;obtain ⟨n,e,hn⟩:=h q v hq;exact ⟨n,e,by simpa using hn⟩
theorem comp_has {P : List (Int × Int)} {q : Int} (hq : (aget P q).getD 0 = q) : ∀ (l : List Int) (a : List (List Int) × List (Int × Int)),(q ∈ l ∨ (aget a.2 q).isSome = true)→(aget (l.foldl (zBa P) a).2 q).isSome = true
 | [],a,h=>by rcases h with h | h;cases h;exact h
 | j :: l,a,h=>by
  rw [List.foldl_cons];refine comp_has hq l _ ?_
  rcases h with h | h
  ·rcases List.mem_cons.1 h with rfl | h
   ·right
    unfold zBa;rw [if_pos hq,zBS,if_pos rfl];rfl
   ·exact .inl h
  ·right
   unfold zBa
   split
   ·rw [zBS]
    split
    ·rfl
    ·exact h
   ·exact h
theorem comp_ix {P : List (Int × Int)} : ∀ (l : List Int) (a : List (List Int) × List (Int × Int)),IxOK a→IxOK (l.foldl (zBa P) a)
 | [],a,h=>h
 | j :: l,a,h=>by rw [List.foldl_cons];exact comp_ix l _ (ix_step h j)
theorem comp_len {P : List (Int × Int)} : ∀ (l : List Int) (a : List (List Int) × List (Int × Int)),(l.foldl (zBa P) a).1.length ≤ a.1.length + l.length
 | [],a=>by simp
 | j :: l,a=>by
  rw [List.foldl_cons];have h:=comp_len (P:=P) l (zBa P a j);have : (zBa P a j).1.length ≤ a.1.length + 1:=by
   unfold zBa;split
   ·simp
   ·simp
  simp only [List.length_cons];omega
theorem comp_each {P : List (Int × Int)} {B : Nat} : ∀ (l : List Int) (a : List (List Int) × List (Int × Int)),(∀ x ∈ a.1,x.length ≤ B)→∀ x ∈ (l.foldl (zBa P) a).1,x.length ≤ B + l.length
 | [],a,h=>by simpa using h
 | j :: l,a,h=>by
  rw [List.foldl_cons];intro x hx;have:=comp_each (P:=P) (B:=B + 1) l (zBa P a j) (fun y hy=>by
   unfold zBa at hy
   split at hy
   ·rcases List.mem_append.1 hy with hy | hy
    ·exact Nat.le_succ_of_le (h y hy)
    ·simp at hy;subst hy;simp
   ·obtain ⟨i,hi⟩:=List.mem_iff_getElem?.1 hy;rw [List.getElem?_modify] at hi
    cases hz : a.1[i]? with
    | none=>rw [hz] at hi;simp at hi
    | some z=>
     rw [hz] at hi;have hzl:=h z (List.mem_of_getElem? hz);simp at hi
     split at hi <;> subst hi
     ·simp;omega
     ·omega) x hx
  simp only [List.length_cons];omega
structure CompI (P : List (Int × Int)) (js : List Joint) (k : Nat) (a : List (List Int) × List (Int × Int)) : Prop where
 fold : ((js.take k).map (·.id)).foldl (zBa P) ([],[]) = a
 ix : IxOK a
 len : a.1.length ≤ 200
 each : ∀ x ∈ a.1,x.length ≤ 200
theorem compI {js : List Joint} {ls : List Lead} (V : ValidW js ls) (P : List (Int × Int)) (k : Nat) : CompI P js k (((js.take k).map (·.id)).foldl (zBa P) ([],[])):=by
 have hl : ((js.take k).map (·.id)).length ≤ 200:=by rw [List.length_map,List.length_take];have:=V.nj;omega
 refine ⟨rfl,comp_ix _ _ (fun q v h=>by simp [aget] at h), ?_,fun x hx=>?_⟩
 ·have:=comp_len (P:=P) ((js.take k).map (·.id)) ([],[]);have e : (([],[]) : List (List Int) × List (Int × Int)).1.length = 0:=rfl;omega
 ·have:=comp_each (P:=P) (B:=0) ((js.take k).map (·.id)) ([],[]) (by simp) x hx;omega
theorem comp_next {P : List (Int × Int)} {js : List Joint} {k : Nat} {a : List (List Int) × List (Int × Int)} (h : ((js.take k).map (·.id)).foldl (zBa P) ([],[]) = a) {x : Joint} (hx : js[k]? = some x) : ((js.take (k + 1)).map (·.id)).foldl (zBa P) ([],[]) = zBa P a x.id:=by
 rw [List.take_add_one,hx,List.map_append,List.foldl_append,h];rfl
theorem comp_old {js : List Joint} {ls : List Lead} (V : ValidW js ls) {k : Nat} {x : Joint} (hx : js[k]? = some x) {a : List (List Int) × List (Int × Int)} (h : CompI (togA js ls 0 0) js k a) (hn : (aget (togA js ls 0 0) x.id).getD 0 ≠ x.id) :
  ∃ n : Nat,(aget a.2 ((aget (togA js ls 0 0) x.id).getD 0)).getD 0 = n∧n < a.1.length:=by
 obtain ⟨i,y,hik,hy,e1,e2⟩:=tog_first V 0 hx;rw [e1] at hn ⊢;simp only [Option.getD_some] at hn ⊢;have hik' : i < k:=by
  rcases Nat.lt_or_ge i k with h1 | h1
  ·exact h1
  ·obtain rfl : i = k:=by omega
   rw [hx] at hy;cases hy;exact absurd rfl hn
 have hs:=comp_has (P:=togA js ls 0 0) (q:=y.id) (by rw [e2];rfl) ((js.take k).map (·.id)) ([],[]) (.inl (List.mem_map.2 ⟨y,List.mem_of_getElem? (by rw [List.getElem?_take,if_pos hik'];exact hy),rfl⟩));rw [h.fold] at hs;obtain ⟨v,hv⟩:=Option.isSome_iff_exists.1 hs;obtain ⟨n,e,hn2⟩:=h.ix _ _ hv;exact ⟨n,by rw [hv,e];rfl,hn2⟩
theorem map_set {α : Type} {ss : List (Sl α)} {i : Nat} {s t : Sl α} (hi : ss[i]? = some s) {f : List α→List α} (ht : t.val = f s.val) : (ss.set i t).map Sl.val = (ss.map Sl.val).modify i f:=by
 apply List.ext_getElem?
 intro k;rw [List.getElem?_map,List.getElem?_modify,List.getElem?_map]
 by_cases e : i = k
 ·subst e;rw [List.getElem?_set_self (List.getElem?_eq_some_iff.1 hi).1,hi];simp [ht]
 ·rw [List.getElem?_set_ne e]
  cases ss[k]? <;> simp [e]
theorem zFD {β : Type} : ∀ (l : List β) (x : β) (f : β→β),(l ++ [x]).modify l.length f = l ++ [f x]
 | [],x,f=>by simp
 | y :: l,x,f=>by simp [zFD l x f]
structure CompW (w w1 : World) (bm bx : Nat) (P : List (Int × Int)) (v : Value) (ss : List (Sl Int)) (ix : List (Int × Int)) (W : World) : Prop where
 below : Below w.heap.size w W
 part : MapAt vi vi I64 W bm P
 indx : MapAt vi vi I64 W bx ix
 out : OwnLL zAC 1 3 50 W (w1.heap.size + 1) v ss
 size : w1.heap.size + 1 ≤ W.heap.size
theorem CompW.belowAll {w w1 W W' : World} {bm bx : Nat} {P ix : List (Int × Int)} {v : Value} {ss : List (Sl Int)} (h : CompW w w1 bm bx P v ss ix W) (hb : Below W.heap.size W W') : CompW w w1 bm bx P v ss ix W':=
 ⟨h.below.trans (hb.mono h.below.size),h.part.below hb h.part.lt,h.indx.below hb h.indx.lt,h.out.belowAll hb,Nat.le_trans h.size hb.size⟩
theorem OwnL.shape {α : Type} {enc : α→Array Value} {sz : Nat} {W : World} {N : Nat} {T : TypeId} {v : Value} {l : List α} (h : OwnL enc sz W N T v l) : ∃ a c,v = .slice a l.length c:=by
 rcases h.2 with ⟨rfl,h0⟩ | ⟨g,cap,cur,rfl,_⟩
 ·exact ⟨none,0,by rw [h0]⟩
 ·exact ⟨_,_,rfl⟩
theorem OwnL.place {α : Type} {W : World} {N : Nat} {T : TypeId} {v : Value} {ss : List (Sl α)} (h : OwnL encS 1 W N T v ss) (hl : ss.length ≤ 4294967296) {i : Nat} {s : Sl α} (hi : ss[i]? = some s) :
  ∃ g cap cur,v = .slice (some ⟨g,0,none⟩) ss.length cap∧zAe W g T cur∧i + 1 ≤ cur.size∧cur[i]? = some (.slice s.a s.val.length s.cap)∧∀ W' t,zAe W' g T (zAx cur i (encS t).toList)→OwnL encS 1 W' N T v (ss.set i t):=by
 obtain ⟨g,cap,cur,e,hb,hs,hset⟩:=OwnL.store (enc:=encS) (sz:=1) (fun _=>rfl) h (List.getElem?_eq_some_iff.1 hi).1;obtain ⟨t,ht,hts,htok,_⟩:=OwnL.sl (enc:=encS) (sz:=1) h (fun _=>rfl) (fun _ _ _=>True) (fun _=>False) (fun _ _=>trivial) (fun _ _ h=>h) hl;subst hts;obtain ⟨b,o,h1,_,_,_,h2⟩:=htok.at hi;have hbo : b = g∧o = 0:=by
  rw [e] at ht;simp only [Sl.v,Value.slice.injEq] at ht;rw [h1] at ht;have:=ht.1;simp at this;exact ⟨this.1.symm,this.2.symm⟩
 obtain ⟨rfl,rfl⟩:=hbo;have h3:=h2 0 Nat.one_pos;rw [hb.cell,Nat.mul_one,Nat.zero_add,Nat.add_zero] at h3;refine ⟨b,cap,cur,e,hb,by rw [Nat.mul_one] at hs;exact hs,h3.trans rfl,fun W' t hW=>hset W' t (by rw [Nat.mul_one];exact hW)⟩
theorem zBZ (w : World) : (zeroValue 3).run Tryz.prog w = .ok (vi 0) w:=by kernel_rfl
theorem zB4 (x : Int) : (zAC x).all (·.oneCell') = true:=by simp [zAC,Value.oneCell']
theorem zGq {b : Nat} {sj : Sl Joint} {sl : Sl Lead} (V : ValidW sj.val sl.val) (w : World) (hN : zA5 w b sj sl) (hj : sj.OK 3 zAh zAs (fun _=>False) w) :
  Calls Tryz.prog 89 #[.pointer (some ⟨b,0,none⟩)] w fun e w'=>∃ v ss,e = .returned v∧OwnLL zAC 1 3 50 w' w.heap.size v ss∧ss.map Sl.val = zCF sj.val sl.val∧Below w.heap.size w w':=by
 have HV:=zz V;have HJ:=zz hj;have hroom:=hj.room;have hnj:=V.nj;have hmm:=@run_makeMap Tryz.prog;have HTG:=zz (zDr V 0 0 w hN hj);have C1 : Hid (∀ W,Below w.heap.size w W→W.cell? ⟨b,0,none⟩ = some (.slice sj.a sj.val.length sj.cap)):=zz fun W hW=>by
  obtain ⟨ba,bl,bo,N,mo,hbN,haN,hlN,hoN,hb,_⟩:=hN.below hW;exact (hb.cell 0).trans rfl
 clear hN hj V;obtain ⟨P,hP⟩ : ∃ P,togA sj.val sl.val 0 0 = P:=⟨_,rfl⟩
 have HP:=zz hP;simp only [hP] at HTG;clear hP;obtain ⟨aj,capj,js⟩:=sj;simp only at hroom hnj;go_enter Tryz.func89,Tryz.ntmps89
 go_wp2_with (first
  | (go_at_call 117;refine HTG.out.mono ?_;rintro e w1 ⟨bm,rfl,hbm,hm1,hb1⟩;have q1:=C1.out (w1.alloc (.map #[] 0)) (hb1.alloc hb1.size _)))
 have hlt1:=hm1.lt;have h0 : CompW w w1 bm w1.heap.size P (.slice none 0 0) [] [] (w1.alloc (.map #[] 0)):=⟨hb1.alloc hb1.size _,hm1.alloc _,MapAt.made _ _ _ _,OwnLL.nil _ _,by simp⟩
 have H0:=zz h0;clear q1 h0 HTG hm1
 go_loopw [4,18] (fun v i wr=>∃ (k : Nat) (ss : List (Sl Int)) (ix : List (Int × Int)),k ≤ js.length∧i = .int .i64 k∧Hid (CompI P js k (ss.map Sl.val,ix))∧Hid (CompW w w1 bm w1.heap.size P v ss ix wr)) (fun _ i _=>js.length - (intOf i).toNat)
 case atStart=>exact ⟨0,[],[],Nat.zero_le _,rfl,zz (by have h:=compI HV.out P 0;simpa using h),H0⟩
 case round=>
  obtain ⟨k,ss,ix,hk,rfl,hci,hcw⟩:=hrel;obtain ⟨ov,oc,rfl⟩:=hcw.out.out.outer.shape
  by_cases hlt : k < js.length
  ·obtain ⟨x,hx⟩ : ∃ x,js[k]? = some x:=⟨_,List.getElem?_eq_getElem hlt⟩
   have HX:=zz hx;obtain ⟨bb,o,rfl,hbb,_,hok,hcell⟩:=HJ.out.at hx;have HC : Hid (∀ j,j < (zAh x).size→wr.cell? ⟨bb,o + k * 3 + j,none⟩ = (zAh x)[j]?):=zz fun j hj=>by
    rw [(Ext.of_below (D:=fun _=>False) hcw.out.below).cell hbb id];exact hcell j hj
   have HXI : Hid (I64 x.id):=zz hok.1;have hb3 : zAe (wr.alloc (.cells (zAh x) 29)) wr.heap.size 29 (zAh x):=zAe.new _ _ _;have HW3:=zz (hcw.out.belowAll ((Below.refl wr.heap.size wr).alloc (Nat.le_refl _) (.cells (zAh x) 29)));have hm3:=HW3.out.part;have hi3:=HW3.out.indx;have z0 : (wr.alloc (.cells (zAh x) 29)).cell? ⟨wr.heap.size,0,none⟩ = some (.int .i64 x.id):=(hb3.cell 0).trans rfl;obtain ⟨f,hf⟩ : ∃ f,(aget P x.id).getD 0 = f:=⟨_,rfl⟩
   have HF:=zz hf;have HLL : Hid (ss.length ≤ 200):=zz (by have:=hci.out.len;rwa [List.length_map] at this);have HFI : Hid (I64 f):=zz (by
    obtain ⟨i,y,_,hy,e1,_⟩:=tog_first HV.out 0 hx;rw [HP.out] at e1;rw [← hf,e1];exact HV.out.idI (List.mem_of_getElem? hy))
   have hci2 : Hid (w1.heap.size + 1 ≤ wr.heap.size):=zz hcw.out.size;clear hx hok hcell hbb hf hcw
   go_upto_if 29 with (first
     | ((with_reducible refine zAm 21 ?_);refine zLe 21 bb (o + k * 3) (zAh x) HC.out zuG ?_)
     | ((with_reducible refine zAv 29 ?_);refine zAk (cs:=zAh x) rfl 29 _ _ rfl rfl rfl rfl (by kernel_rfl) rfl (zBj _) ?_)
     | ((with_reducible refine zAm 25 ?_);refine zAY rfl _ _ 168 rfl zAQ zuE (0 : Int) (by kernel_rfl) rfl hm3 x.id HXI.out rfl ?_;rw [HF.out]))
   go_cut [4] from 19 to 52 (fun v wc=>∃ (ss5 : List (Sl Int)) (n5 : Nat) (s5 : Sl Int) (ix5 : List (Int × Int)),Hid (OwnLL zAC 1 3 50 wc (w1.heap.size + 1) v ss5)∧Hid (ss5[n5]? = some s5)∧Hid (MapAt vi vi I64 wc w1.heap.size ix5)∧Hid ((aget ix5 f).getD 0 = (n5 : Int))∧Hid (zAe wc wr.heap.size 29 (zAh x))∧Hid (MapAt vi vi I64 wc bm P)∧Hid (Below w.heap.size w wc)∧Hid (w1.heap.size + 1 ≤ wc.heap.size)∧
    Hid (zBa P (ss.map Sl.val,ix) x.id = ((ss5.map Sl.val).modify n5 (· ++ [x.id]),ix5))∧Hid (s5.val.length ≤ 200)∧Hid (ss5.length ≤ 201))
   case first=>
    by_cases hfx : f = x.id
    ·have hfb : (f == x.id) = true:=by simpa using hfx
     have HFX:=zz hfx;have HLS : Hid (I64 (ss.length : Int)):=zz (by unfold I64;have:=HLL.out;omega);have HWS : Hid (w1.heap.size < wr.heap.size):=zz (by have:=HW3.out.size;have:=hci2.out;omega);have HO4 : Hid (∀ w4,Turn w1.heap.size (wr.alloc (.cells (zAh x) 29)) w4→OwnL encS 1 (w4.alloc (.cells #[.slice none 0 0] 50)) (w1.heap.size + 1) 50 (.slice ov ss.length oc) ss):=zz fun w4 hT4=>((HW3.out.out).turn hT4 (Nat.lt_succ_self _)).outer.belowAll ((Below.refl _ _).alloc (Nat.le_refl _) _);have HC4 : Hid (∀ w4 : World,∀ j,j < 1→(w4.alloc (.cells #[.slice none 0 0] 50)).cell? ⟨w4.heap.size,0 + j,none⟩ = (encS (Sl.nil : Sl Int))[j]?):=zz fun w4 j hj=>by rw [Nat.zero_add];exact (zAe.new w4 50 #[.slice none 0 0]).cell j
     have HLN4 : Hid (ss.length + 1 ≤ 4294967296):=zz (by have:=HLL.out;omega);have HSZ4 : Hid (∀ w4,Turn w1.heap.size (wr.alloc (.cells (zAh x) 29)) w4→w1.heap.size + 1 ≤ (w4.alloc (.cells #[.slice none 0 0] 50)).heap.size):=zz fun w4 hT4=>by rw [World.size_alloc,hT4.size];have:=HW3.out.size;omega
     clear hfx
     go_wp2_with (first
      | (at_mapUpdate;refine zBx rfl _ _ _ 168 rfl zAQ zuE rfl hi3 f HFI.out rfl (ss.length : Int) rfl ?_;intro w4 hm4 hT4)
      | ((with_reducible refine zAm 36 ?_);refine zAU rfl _ _ 47 rfl (w1.heap.size + 1) einfo_LI (fun _=>rfl) (by decide) encS_one (by decide) (.slice ov ss.length oc) ss rfl (HO4.out w4 hT4) w4.heap.size 0 1 Sl.nil rfl (HC4.out w4) HLN4.out (HSZ4.out w4 hT4) ?_;intro v5 w5 ho5 hg5 hv5))
     have HLL4:=OwnLL.snoc (t:=Sl.nil) (by decide) (((HW3.out.out).turn hT4 (Nat.lt_succ_self _)).belowAll ((Below.refl w4.heap.size w4).alloc (Nat.le_refl _) (.cells #[.slice none 0 0] 50))) (OwnL.nil _ _ _ _ _) (by simp [Sl.nil,Sl.v,Value.ownBlock]) ho5 hg5;have hbl4:=(HW3.out.out.outer).block;have hBN : Below w4.heap.size w4 (w4.alloc (.cells #[.slice none 0 0] 50)):=(Below.refl _ _).alloc (Nat.le_refl _) _;have ko : ∀ g,(Value.slice ov ss.length oc).ownBlock = some g→w1.heap.size + 1 ≤ g∧∃ cur,(w4.alloc (.cells #[.slice none 0 0] 50)).heap[g]? = some (.cells cur 50 (0,0)):=fun g hg=>((HO4.out w4 hT4)).cellsAt hg;have hi5 : MapAt vi vi I64 w5 w1.heap.size (aput ix f (ss.length : Int)):=(hm4.below hBN hm4.lt).of_block (hg5.block _ (hm4.below hBN hm4.lt).lt fun e=>by have:=(ko _ e.symm).1;omega);have hjb4:=(hb3.turn hT4 (by have:=HW3.out.indx.lt;have:=hi3.lt;have:=HWS.out;omega)).belowAll hBN;have hjb5 : zAe w5 wr.heap.size 29 (zAh x):=hjb4.of_block (hg5.block _ hjb4.lt fun e=>by
      obtain ⟨_,cur,h4⟩:=ko _ e.symm;rw [hjb4] at h4;cases h4)
     have hp4:=((HW3.out.part).turn hT4 (by omega))|>.below hBN (by rw [hT4.size];have:=HWS.out;simp;omega);have hp5 : MapAt vi vi I64 w5 bm P:=hp4.of_block (hg5.block _ hp4.lt fun e=>by have:=(ko _ e.symm).1;omega);have hB5 : Below w.heap.size w w5:=((HW3.out.below.trans (hT4.below (by have:=hb1.size;omega))).trans (hBN.mono (by have:=HW3.out.below.size;rw [hT4.size];exact this))).grown hg5 (by have:=HW3.out.below.size;rw [World.size_alloc,hT4.size];omega) fun g e=>by have:=(ko g e).1;have:=hb1.size;omega
     have hs5 : w1.heap.size + 1 ≤ w5.heap.size:=Nat.le_trans (by have:=HW3.out.size;rw [World.size_alloc,hT4.size];omega) hg5.size
     go_meet
     case rel=>
      refine ⟨ss ++ [Sl.nil],ss.length,Sl.nil,_,zz HLL4,zz (by simp),zz hi5,zz (by rw [zBS,if_pos rfl];rfl),zz hjb5,zz hp5,zz hB5,zz hs5,zz ?_,zz (by simp [Sl.nil]),zz (by rw [List.length_append];have:=HLL.out;simp;omega)⟩;unfold zBa;rw [HF.out,if_pos HFX.out,HFX.out];have e:=zFD (ss.map Sl.val) ([] : List Int) (· ++ [x.id]);rw [List.length_map] at e;rw [List.map_append,List.map_singleton,show (Sl.nil : Sl Int).val = [] from rfl,e];simp
    ·have hfb : (f == x.id) = false:=by simpa using hfx
     have HFX:=zz hfx;clear hfx;obtain ⟨n,hn,hnl⟩:=comp_old HV.out HX.out (by rw [HP.out];exact hci.out) (by rw [HP.out,HF.out];exact HFX.out);rw [HP.out,HF.out] at hn;rw [List.length_map] at hnl;have HNV:=zz hn;have HNL:=zz hnl;clear hn hnl;go_wp2
     go_meet
     case rel=>
      have hnl:=HNL.out;obtain ⟨s5,hs5⟩ : ∃ z,ss[n]? = some z:=⟨_,List.getElem?_eq_getElem hnl⟩
      refine ⟨ss,n,s5,ix,zz HW3.out.out,zz hs5,zz HW3.out.indx,HNV,zz hb3,zz HW3.out.part,zz HW3.out.below,zz HW3.out.size,zz ?_,zz ?_,zz (by have:=HLL.out;omega)⟩
      ·unfold zBa;rw [HF.out,if_neg HFX.out,HNV.out];rfl
      ·exact hci.out.each _ (List.mem_map.2 ⟨s5,List.mem_of_getElem? hs5,rfl⟩)
   obtain ⟨ss5,n5,s5,ix5,HLL5,HN5,HIX5,HV5,HJB5,HP5,HB5,HS5,HRES,HSL5,HL5⟩:=hcut;obtain ⟨go,gc,cur,rfl,hgo,hgs,hgv,hset⟩:=HLL5.out.outer.place (by have:=HL5.out;omega) HN5.out;have HGO:=zz hgo;have HGV:=zz hgv;have HSET:=zz hset;have HFIT : Hid (Nat.ble (n5 + 1) cur.size = true):=zz (Nat.ble_eq_true_of_le hgs);have hn5l : n5 < ss5.length:=(List.getElem?_eq_some_iff.1 HN5.out).1;have hin:=(HLL5.out.inner s5 (List.mem_of_getElem? HN5.out))
   have HIN : Hid (OwnL zAC 1 wc.drew (w1.heap.size + 1) 3 s5.v s5.val):=zz (hin.kept fun g hg=>rfl);have HS1 : Hid ((fun W=>MapAt vi vi I64 W w1.heap.size ix5∧zAe W wr.heap.size 29 (zAh x)∧zAe W go 50 cur) wc.drew):=zz ⟨HIX5.out.of_block rfl,HJB5.out.drew,hgo.drew⟩;have HOWN : Hid (OwnL zAC 1 (wc.drew.alloc (.cells #[.int .i64 x.id] 3)) (w1.heap.size + 1) 3 s5.v s5.val):=zz (HIN.out.belowAll ((Below.refl _ _).alloc (Nat.le_refl _) _));have HKP : Hid (∀ w6,(wc.drew.alloc (.cells #[.int .i64 x.id] 3)).grownBy w6 s5.v.ownBlock→MapAt vi vi I64 w6 w1.heap.size ix5∧zAe w6 wr.heap.size 29 (zAh x)∧zAe w6 go 50 cur):=zz fun w6 hg=>by
    have m1:=HS1.out.1.alloc (.cells #[.int .i64 x.id] 3);have m2:=HS1.out.2.1.alloc (.cells #[.int .i64 x.id] 3);have m3:=HS1.out.2.2.alloc (.cells #[.int .i64 x.id] 3);have kk : ∀ g,s5.v.ownBlock = some g→w1.heap.size + 1 ≤ g∧∃ cur,(wc.drew.alloc (.cells #[.int .i64 x.id] 3)).heap[g]? = some (.cells cur 3 (0,0)):=fun g hg=>HOWN.out.cellsAt hg;refine ⟨m1.of_block (hg.block _ m1.lt fun e=>?_),m2.of_block (hg.block _ m2.lt fun e=>?_),m3.of_block (hg.block _ m3.lt fun e=>?_)⟩
    ·have:=(kk _ e.symm).1;omega
    ·obtain ⟨_,cu,h4⟩:=kk _ e.symm;rw [m2] at h4;cases h4
    ·obtain ⟨_,cu,h4⟩:=kk _ e.symm;rw [m3] at h4;cases h4
   have HLN : Hid (s5.val.length + 1 ≤ 4294967296):=zz (by have:=HSL5.out;omega);have HSZ : Hid (w1.heap.size + 1 ≤ (wc.drew.alloc (.cells #[.int .i64 x.id] 3)).heap.size):=zz (by rw [World.size_alloc];exact Nat.le_succ_of_le HS5.out);have HFV : Hid ((vi ((aget ix5 f).getD 0)) = .int .i64 (n5 : Int)):=zz (by rw [HV5.out]);clear hgo hgs hgv hset hin;go_wp2;refine zCb (fun W=>MapAt vi vi I64 W w1.heap.size ix5∧zAe W wr.heap.size 29 (zAh x)∧zAe W go 50 cur) 15 [(0,none),(1,none),(2,none),(4,none),(5,none),(6,none),(10,none),(3,some true),(7,some true),(8,none),(9,some true),(11,some true),(12,some false),(13,some false),(14,none),(15,some false)] rfl (by kernel_rfl) (by kernel_rfl) (fun d _ _ _ _ h=>by cases d <;> exact h) HS1.out ?_;iterate 7 (refine zBQ rfl rfl (fun W=>by go_simp;with_reducible rfl) ?_;simp only [pT])
   iterate 2 (refine zBA (v:=.int .i64 (n5 : Int)) rfl rfl (fun W hW=>Eq.trans (zA6 zAQ zuE (0 : Int) (zBZ _) rfl hW.1 f HFI.out rfl) (by rw [HV5.out];rfl)) ?_;simp only [pT])
   refine zBQ rfl rfl (fun W=>by go_simp;with_reducible rfl) ?_;simp only [pT];refine zBA (v:=.slice s5.a s5.val.length s5.cap) rfl rfl (fun W hW=>by have e : W.cell? ⟨go,n5,none⟩ = some (.slice s5.a s5.val.length s5.cap):=(hW.2.2.cell n5).trans HGV.out;go_simp) ?_;simp only [pT];refine zBA (v:=.int .i64 x.id) rfl rfl (fun W hW=>by have e : W.cell? ⟨wr.heap.size,0,none⟩ = some (.int .i64 x.id):=(hW.2.1.cell 0).trans rfl;go_simp) ?_;simp only [pT];refine zCp rfl rfl rfl (fun K hK=>?_)
   go_simp
   refine hK _ _ ⟨HS1.out.1.alloc _,HS1.out.2.1.alloc _,HS1.out.2.2.alloc _⟩ ?_;clear hK K
   try simp only [pT]
   refine zCp rfl rfl rfl (fun K hK=>?_);refine zCa _ _ 50 rfl (w1.heap.size + 1) zCm (fun _=>rfl) (by decide) zB4 (by decide) s5.v s5.val rfl HOWN.out wc.drew.heap.size 0 1 x.id rfl (fun j hj=>by have h:=(zAe.new wc.drew 3 (zAC x.id)).cell (0 + j);rw [Nat.zero_add] at h ⊢;exact h) HLN.out HSZ.out ?_;intro v2 w6 ho6 hg6 hv6;obtain ⟨a6,c6,rfl⟩:=ho6.shape;refine hK _ _ (HKP.out _ hg6) ?_;clear hK K
   try simp only [pT]
   refine zBQ rfl rfl (fun W=>by go_simp;with_reducible rfl) ?_;simp only [pT];refine zDz rfl rfl (fun K hK=>?_);refine zAr (HKP.out _ hg6).2.2 _ _ _ rfl rfl (.slice a6 (s5.val ++ [x.id]).length c6) rfl (by kernel_rfl) HFIT.out (by simp [Value.cells,Value.oneCell']) ?_;intro w7 hb7 hT7;refine hK _ _ ?_;clear hK K
   try simp only [pT]
   simp only [wpE];go_wp2;go_roundw
   case rel=>
    have hoo:=HLL5.out;refine ⟨k + 1,ss5.set n5 ⟨a6,c6,s5.val ++ [x.id]⟩,ix5,by omega,by go_num,zz ?_,zz ?_⟩
    ·have h:=compI HV.out P (k + 1);rw [comp_next hci.out.fold HX.out,HRES.out,← map_set HN5.out (f:=(· ++ [x.id])) (t:=⟨a6,c6,s5.val ++ [x.id]⟩) rfl] at h;exact h
    ·have hgd : Below wc.heap.size wc (wc.drew.alloc (.cells #[.int .i64 x.id] 3)):=((Lays.refl wc).drew.alloc _).below (Nat.le_refl _);have kk : ∀ g,s5.v.ownBlock = some g→w1.heap.size + 1 ≤ g:=fun g hg=>(HOWN.out.cellsAt hg).1;have hgn : w1.heap.size + 1 ≤ go:=(hoo.outer.cellsAt rfl).1;have hW6 : Below w.heap.size w w6:=(HB5.out.trans (hgd.mono HB5.out.size)).grown hg6 (by have:=HB5.out.size;simp;omega) fun g e=>by have:=kk g e;have:=hb1.size;omega
     have hm6:=(HKP.out _ hg6)
     have hp6 : MapAt vi vi I64 w6 bm P:=(HP5.out.below hgd HP5.out.lt).of_block (hg6.block _ (by have:=HP5.out.lt;simp;omega) fun e=>by have:=kk _ e.symm;omega);refine ⟨hW6.trans (hT7.below (by have:=hb1.size;omega)),hp6.turn hT7 (by omega),hm6.1.turn hT7 (by omega), ?_,by rw [hT7.size];exact Nat.le_trans HSZ.out hg6.size⟩;exact OwnLL.set (by decide) (hoo.belowAll hgd) HN5.out ho6 hg6 (hv6.imp id fun e=>⟨_,e,by simp⟩) (g:=go) rfl hT7 (HSET.out w7 ⟨a6,c6,s5.val ++ [x.id]⟩ (hb7.eqv rfl))
   case measure=>simp [intOf];omega
  ·have hkv : k = js.length:=by omega
   subst hkv;go_wp2;go_ret;refine ⟨_,ss,rfl,hcw.out.out.base_le (by omega), ?_,hcw.out.below⟩;have h:=hci.out.fold;rw [List.take_length] at h;unfold zCF;rw [HP.out,h]
end Go.Proofs.YtbbblemfodpmaaaGreat
