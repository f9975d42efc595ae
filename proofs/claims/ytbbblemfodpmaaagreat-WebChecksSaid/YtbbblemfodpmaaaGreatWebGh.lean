/-slices.SortFunc of sides by the method value around{n, j}.compare: the sides come out in their one order.-/
import Derived.Test.YtbbblemfodpmaaaGreatWebS8
import Derived.Test.YtbbblemfodpmaaaGreatWebGa
import Derived.Test.YtbbblemfodpmaaaGreatWebGc
import Derived.Test.YtbbblemfodpmaaaGreatOrd
set_option linter.unusedVariables false
set_option linter.unusedSimpArgs false
set_option linter.unusedSectionVars false
set_option maxHeartbeats 16000000
set_option maxRecDepth 100000
section
namespace Go.Proofs.YtbbblemfodpmaaaGreat
open Go.RowKit
open Go.Sort
theorem bitsLen_small {n : Nat} (h : n ≤ 4294967296) : bitsLen n ≤ 100:=by
 have:=(bitsLen_le_iff n 33).2 (by omega);omega
theorem blen_x (n : Nat) (hn : n ≤ 4294967296) (w : World) : Calls Tryz.prog 177 #[.int .u64 (n : Int)] w fun e w'=>e = .returned (.int .i64 (bitsLen n : Nat))∧w' = w:=by
 have h:=Any.bits_Len (SlLaysF0.n15.bits (P:=Tryz.prog) (ρ:=Tryz.sortSide_ren) { Tryz.sortSide with }) (n : Int) w (by omega) (by omega);rw [Int.toNat_natCast,bitLen_eq _ (by omega)] at h;exact h
section
variable {α : Type} [Inhabited α] {en : α→Side} {w0 : World} {blk : Nat} {tail : List Value} {recv : Value} {cf : α→α→Int}
theorem sortFunc_s (HCM : zCX en w0 blk recv cf) (hO : SWO (ltC cf)) (hblk : blk < w0.heap.size) (d : Array α) (cap : Nat) (w : World) (hS : SW en w0 blk tail d w) (hsz : d.size ≤ 4294967296) :
  Calls Tryz.prog 186 #[.slice (some ⟨blk,0,none⟩) d.size cap,(.func (.func 187) #[recv] #[])] w fun e w'=>e = .returned (.tuple #[])∧∃ d2,PermIn 0 d.size d d2∧SortedIn (ltC cf) 0 d.size d2∧SW en w0 blk tail d2 w':=by
 obtain ⟨n,hn⟩ : ∃ n,d.size = n:=⟨_,rfl⟩
 have HP:=zz (pdq_s (tail:=tail) HCM hO hblk n cap (by omega) (n + 1) d 0 n (bitsLen n) w (by omega) hn hS (by omega) (by omega) (.inl rfl) (bitsLen_small (by omega)) 0 n rfl rfl);have HB:=zz (blen_x n (by omega) w);rw [hn] at hsz ⊢;clear hn HCM hO hS hblk;go_enter Tryz.func186,Tryz.ntmps186
 go_wp2_with (first
  | (go_at_call 177;(with_reducible refine HB.out.mono ?_);rintro e w2 ⟨rfl,hw⟩;subst hw)
  | (go_at_call 212;(with_reducible refine HP.out.mono ?_);rintro e w3 ⟨rfl,d2,p2,s2,hS2⟩))
 first | go_end0 | refine bodyPost_ret (results_none rfl _ _ _) rfl ?_
 exact ⟨rfl,d2,p2,s2,hS2⟩
end
theorem zFe {w W : World} {b o : Nat} (h : W.heap[b]? = w.heap[b]?) : W.cell? ⟨b,o,none⟩ = w.cell? ⟨b,o,none⟩:=by simp [World.cell?,h]
section
variable {js : List Joint} {ls : List Lead} (V : ValidW js ls)
include V
theorem ValidW.small (id : Int) : zAy (ptA js id):=zEp (fun j hj=>(V.jok j hj).2) id
theorem ValidW.idI {j : Joint} (hj : j ∈ js) : I64 j.id:=by
 have:=(V.jok j hj).1;simp only [zBg,Bool.and_eq_true,decide_eq_true_eq] at this;unfold I64;omega
theorem ValidW.leadI {l : Lead} (hl : l ∈ ls) : I64 l.id∧I64 l.a∧I64 l.b:=by
 have h:=V.lok l hl;simp only [zBI,zBg,Bool.and_eq_true,decide_eq_true_eq] at h;obtain ⟨i,hi,k,hk,h1,h2,_⟩:=V.ends hl;refine ⟨?_,h1 ▸ V.idI hi,h2 ▸ V.idI hk⟩;have:=h.1.1.1.1.1.1.1.1;unfold I64;omega
theorem ValidW.endI (x : Side) : I64 (zAl ls x).1∧I64 (zAl ls x).2:=by
 have key : ∀ l,(zBT ls x.lead).getD zCW = l→I64 l.a∧I64 l.b:=fun l hl=>by
  cases h : zBT ls x.lead with
  | none=>rw [h] at hl;subst hl;exact ⟨by unfold I64 zCW;simp,by unfold I64 zCW;simp⟩
  | some m=>
   rw [h] at hl;have hm : m ∈ ls:=List.mem_of_find?_eq_some h;simp only [Option.getD_some] at hl;subst hl;exact (V.leadI hm).2
 have k:=key _ rfl;unfold zAl
 split
 ·exact ⟨k.2,k.1⟩
 ·exact k
theorem ValidW.sideI {j : Int} {s : Side} (h : s ∈ zAp j ls) : I64 s.lead:=by
 obtain ⟨l,hl,h1,_⟩:=V.leave h;rw [h1];exact (V.leadI hl).1
def cfAt (js : List Joint) (ls : List Lead) (j : Int) (x y : { s : Side // s ∈ zAp j ls }) : Int:=zEH (ptA js j) (ptA js (zAl ls x.1).2) (ptA js (zAl ls y.1).2)
omit V in
theorem ltC_at (j : Int) (x y : { s : Side // s ∈ zAp j ls }) : ltC (cfAt js ls j) x y = ltAt js ls j x.1 y.1:=rfl
theorem ValidW.swo (j : Int) : SWO (ltC (cfAt js ls j)) where
 irrefl x:=by rw [ltC_at];exact (V.ord j).irr _ x.2
 trans x y z h k:=by rw [ltC_at] at *;exact (V.ord j).tr _ _ _ x.2 y.2 z.2 h k
 ntrans x y z h k:=by rw [ltC_at] at *;exact (V.ord j).nt z.2 y.2 x.2 k h
theorem sides_sort {b ba bl : Nat} (j : Int) (hj : I64 j) (w : World) (base : Nat) (v : Value) (hne : zAp j ls ≠ []) (hown : OwnL zAa 2 w base 59 v (zAp j ls)) (hlen : (zAp j ls).length ≤ 4294967296)
  (hb : b < w.heap.size) (hc2 : w.cell? ⟨b,2,none⟩ = some (.map (some ba))) (hc3 : w.cell? ⟨b,3,none⟩ = some (.map (some bl))) (hma : MapAt vi zAL I64 w ba (zA7 js)) (hml : MapAt vi zC7 I64 w bl (zCc ls))
  (hd : ∀ g,v.ownBlock = some g→g ≠ b∧g ≠ ba∧g ≠ bl) :
  Calls Tryz.prog 186 #[v,(.func (.func 187) #[.agg #[.pointer (some ⟨b,0,none⟩), .int .i64 j]] #[])] w fun e w'=>e = .returned (.tuple #[])∧OwnL zAa 2 w' base 59 v (outA js ls j)∧w.grownBy w' v.ownBlock:=by
 obtain ⟨hfl,h | ⟨blk,cap,cur,rfl,h3,h4,h5,h6,h7,h8⟩⟩:=hown
 ·exact absurd (List.eq_nil_of_length_eq_zero h.2) hne
 obtain ⟨d1,d2,d3⟩:=hd blk rfl;have hbl : blk < w.heap.size:=(Array.getElem?_eq_some_iff.1 h4).1;obtain ⟨x0,hx0⟩:=List.exists_mem_of_ne_nil _ hne
 haveI : Inhabited { s : Side // s ∈ zAp j ls }:=⟨⟨x0,hx0⟩⟩
 have hmap : (zAp j ls).attach.map Subtype.val = zAp j ls:=by simp
 have hflat : ∀ l : List { s : Side // s ∈ zAp j ls },flat (fun x : { s : Side // s ∈ zAp j ls }=>zAa x.1) l = flat zAa (l.map Subtype.val):=fun l=>by
  unfold flat;rw [List.flatMap_map]
 have hrow : rowC (fun x : { s : Side // s ∈ zAp j ls }=>x.1) (zAp j ls).attach.toArray (cur.toList.drop ((zAp j ls).length * 2)) = cur:=by
  unfold rowC;rw [show (zAp j ls).attach.toArray.toList = (zAp j ls).attach from rfl,hflat,hmap,← h8,List.take_append_drop]
 have hS : SW (fun x : { s : Side // s ∈ zAp j ls }=>x.1) w blk (cur.toList.drop ((zAp j ls).length * 2)) (zAp j ls).attach.toArray w:=⟨by rw [hrow];exact h4,World.grownBy.refl w _⟩
 have HCM : zCX (fun x : { s : Side // s ∈ zAp j ls }=>x.1) w blk (.agg #[.pointer (some ⟨b,0,none⟩), .int .i64 j]) (cfAt js ls j):=fun W hg x y=>by
  have e : ∀ k,k < w.heap.size→k ≠ blk→W.heap[k]? = w.heap[k]?:=fun k hk hn=>hg.block k hk (fun e=>hn (by simpa using e));exact compare_any j x.1 y.1 W (Nat.lt_of_lt_of_le hb hg.size) ((zFe (e b hb (Ne.symm d1))).trans hc2) ((zFe (e b hb (Ne.symm d1))).trans hc3) (hma.of_block (e ba hma.lt (Ne.symm d2))) (hml.of_block (e bl hml.lt (Ne.symm d3)))
   hj (V.sideI x.2) (V.sideI y.2) V.small fun x=>(V.endI x).2
 have h:=sortFunc_s HCM (V.swo j) hbl (zAp j ls).attach.toArray cap w hS (by simpa using hlen);rw [show (zAp j ls).attach.toArray.size = (zAp j ls).length by simp] at h;refine h.mono ?_;rintro e w' ⟨rfl,dd,⟨p1,p2,p3⟩,hs,hS2⟩;have hn : (zAp j ls).attach.toArray.size = (zAp j ls).length:=by simp
 have hdn : dd.size = (zAp j ls).length:=p1.trans hn;have hperm : dd.toList.Perm (zAp j ls).attach:=by
  have e1 : dd.extract 0 (zAp j ls).length = dd:=by rw [← hdn];exact Array.extract_size
  have e2 : (zAp j ls).attach.toArray.extract 0 (zAp j ls).length = (zAp j ls).attach.toArray:=by
   have h9:=Array.extract_size (xs:=(zAp j ls).attach.toArray)
   rwa [hn] at h9
  rw [e1,e2] at p3;exact p3
 have hval : dd.toList.map Subtype.val = outA js ls j:=by
  refine upB_eq (V.ord j) (fun a ha=>?_) ?_ ?_ (V.out_up j)
  ·obtain ⟨x,_,rfl⟩:=List.mem_map.1 ha;exact x.2
  ·have:=hperm.map Subtype.val;rw [hmap] at this;exact this.trans (zB2 _ _).symm
  ·unfold UpB;rw [List.pairwise_map,List.pairwise_iff_getElem];intro i k hi hk hik;have hk' : k < dd.size:=by simpa using hk
   have:=hs i k (Nat.zero_le _) hik (by omega);rw [ltC_at,getElem!_pos dd k hk',getElem!_pos dd i (by omega)] at this;simpa using this
 have hlen' : (outA js ls j).length = (zAp j ls).length:=by rw [← hval,List.length_map,Array.length_toList];exact hdn
 have hcs : (zAp j ls).length * 2 ≤ cur.size:=by rw [h7];exact Nat.mul_le_mul_right _ h5
 have hfl2 : (flat zAa (outA js ls j)).length = (zAp j ls).length * 2:=by rw [zBn (enc:=zAa) (sz:=2) (fun _=>rfl),hlen']
 refine ⟨rfl, ?_,hS2.out⟩;unfold OwnL;refine ⟨zBn (enc:=zAa) (sz:=2) (fun _=>rfl) _, .inr ⟨blk,cap,rowC (fun x : { s : Side // s ∈ zAp j ls }=>x.1) dd (cur.toList.drop ((zAp j ls).length * 2)),by rw [hlen'],h3,hS2.row,by rw [hlen'];exact h5,h6, ?_, ?_⟩⟩
 ·rw [zFm,hdn,List.length_drop];exact (Nat.add_sub_cancel' hcs).trans h7
 ·unfold rowC;rw [hflat,hval,hlen']
  show List.take _ (_ ++ _) = _
  rw [List.take_append_of_le_length (by rw [hfl2];exact Nat.le_refl _),List.take_of_length_le (by rw [hfl2];exact Nat.le_refl _)]
end
end Go.Proofs.YtbbblemfodpmaaaGreat
end
section
namespace Go.Proofs.YtbbblemfodpmaaaGreat
open Go.RowKit
def nilS : Value:=.slice none 0 0
structure Outs (N : Nat) (W : World) (mo : List (Int × Value)) (f : Int→List Side) : Prop where
 own : ∀ p ∈ mo,OwnL zAa 2 W N 59 p.2 (f p.1)
 ne : ∀ p ∈ mo,f p.1 ≠ []
 miss : ∀ j,ahas mo j = false→f j = []
 nd : (mo.map Prod.fst).Nodup
 sep : ∀ p ∈ mo,∀ q ∈ mo,p.1 ≠ q.1→∀ g,p.2.ownBlock = some g→q.2.ownBlock ≠ some g
theorem Outs.at {N : Nat} {W : World} {mo : List (Int × Value)} {f : Int→List Side} (h : Outs N W mo f) (j : Int) : OwnL zAa 2 W N 59 ((aget mo j).getD nilS) (f j):=by
 cases hk : aget mo j with
 | none=>
  have : ahas mo j = false:=by rw [← zBm,hk];rfl
  rw [h.miss j this];exact OwnL.nil _ _ _ _ _
 | some v=>exact h.own _ (zFy hk)
theorem Outs.below {N : Nat} {W W' : World} {mo : List (Int × Value)} {f : Int→List Side} (h : Outs N W mo f) (hb : Below W.heap.size W W') : Outs N W' mo f:=
 ⟨fun p hp=>(h.own p hp).belowAll hb,h.ne,h.miss,h.nd,h.sep⟩
theorem Outs.turn {N b : Nat} {W W' : World} {mo : List (Int × Value)} {f : Int→List Side} (h : Outs N W mo f) (hb : Turn b W W') (hN : b < N) : Outs N W' mo f:=
 ⟨fun p hp=>(h.own p hp).turn hb (fun e=>by have:=((h.own p hp).block b e).1;omega),h.ne,h.miss,h.nd,h.sep⟩
theorem Outs.nil (N : Nat) (W : World) : Outs N W [] (fun _=>[]):=⟨by simp,by simp,fun _ _=>rfl, .nil,by simp⟩
theorem zEs {κ ν : Type} [DecidableEq κ] {m : List (κ × ν)} {k : κ} {v : ν} {p : κ × ν} (h : p ∈ aput m k v) : p = (k,v) ∨ (p ∈ m∧p.1 ≠ k):=by
 unfold aput at h
 split at h
 ·obtain ⟨q,hq,rfl⟩:=List.mem_map.1 h
  by_cases e : q.1 = k
  ·rw [if_pos e];exact .inl rfl
  ·rw [if_neg e];exact .inr ⟨hq,e⟩
 ·rename_i hn
  rcases List.mem_append.1 h with h | h
  ·exact .inr ⟨h,zBP.1 (by simpa using hn) p h⟩
  ·exact .inl (by simpa using h)
theorem Outs.put {N : Nat} {W W' : World} {mo : List (Int × Value)} {f : Int→List Side} (h : Outs N W mo f) (j : Int) (s : Side) {v' : Value} (ho : OwnL zAa 2 W' N 59 v' (f j ++ [s]))
  (hg : W.grownBy W' ((aget mo j).getD nilS).ownBlock) (hb : v'.ownBlock = ((aget mo j).getD nilS).ownBlock ∨ ∃ X,v'.ownBlock = some X∧W.heap.size ≤ X) :
  Outs N W' (aput mo j v') (fun i=>if i = j then f i ++ [s] else f i):=by
 have hv : ∀ q ∈ mo,q.1 ≠ j→∀ g,((aget mo j).getD nilS).ownBlock = some g→q.2.ownBlock ≠ some g:=fun q hq hqj g hgv e=>by
  cases hk : aget mo j with
  | none=>rw [hk] at hgv;cases hgv
  | some v=>
   rw [hk] at hgv;exact h.sep _ (zFy hk) q hq (Ne.symm hqj) g hgv e
 have hv' : ∀ q ∈ mo,q.1 ≠ j→∀ g,v'.ownBlock = some g→q.2.ownBlock ≠ some g:=fun q hq hqj g hgv e=>by
  rcases hb with hb | ⟨X,hX,hXs⟩
  ·exact hv q hq hqj g (hb ▸ hgv) e
  ·rw [hX] at hgv;have:=((h.own q hq).block g e).2;have : X = g:=by simpa using hgv
   omega
 refine ⟨fun p hp=>?_,fun p hp=>?_,fun i hi=>?_,zET h.nd _ _,fun p hp q hq hpq g hgp hgq=>?_⟩
 ·rcases zEs hp with rfl | ⟨hp,hpj⟩
  ·simpa using ho
  ·rw [if_neg hpj];refine (h.own p hp).kept fun g hgg=>hg.block g ((h.own p hp).block g hgg).2 (fun e=>hv p hp hpj g e.symm hgg)
 ·rcases zEs hp with rfl | ⟨hp,hpj⟩
  ·simp
  ·simp only [if_neg hpj];exact h.ne p hp
 ·rw [zCJ] at hi;simp only [Bool.or_eq_false_iff,decide_eq_false_iff_not] at hi;simp only [if_neg hi.1];exact h.miss i hi.2
 ·rcases zEs hp with rfl | ⟨hp,hpj⟩ <;> rcases zEs hq with rfl | ⟨hq,hqj⟩
  ·exact hpq rfl
  ·exact hv' q hq hqj g hgp hgq
  ·exact hv' p hp hpj g hgq hgp
  ·exact h.sep p hp q hq hpq g hgp hgq
theorem Outs.turned {N : Nat} {W W' : World} {mo : List (Int × Value)} {f g : Int→List Side} (h : Outs N W mo f) {p : Int × Value} (hp : p ∈ mo) (ho : OwnL zAa 2 W' N 59 p.2 (g p.1)) (hg : W.grownBy W' p.2.ownBlock)
  (hne : g p.1 ≠ []) (he : ∀ i,i ≠ p.1→g i = f i) : Outs N W' mo g:=by
 refine ⟨fun q hq=>?_,fun q hq=>?_,fun i hi=>?_,h.nd,h.sep⟩
 ·by_cases e : q.1 = p.1
  ·have : q = p:=by
    have h1:=zCl h.nd hp;have h2:=zCl h.nd hq;rw [e,h1] at h2;exact Prod.ext e (by simpa using h2.symm)
   subst this;exact ho
  ·rw [he _ e];exact (h.own q hq).kept fun k hk=>hg.block k ((h.own q hq).block k hk).2 (fun e2=>h.sep p hp q hq (Ne.symm e) k e2.symm hk)
 ·by_cases e : q.1 = p.1
  ·rw [e];exact hne
  ·rw [he _ e];exact h.ne q hq
 ·have : i ≠ p.1:=fun e=>by
   subst e;exact absurd (zBP.1 hi p hp) (by simp)
  rw [he _ this];exact h.miss i hi
theorem zDT {κ ν : Type} [DecidableEq κ] {P : Program} {K : κ→Value} {V : ν→Value} {good : κ→Prop} {w : World} {b : Nat} {m : List (κ × ν)} {kt et : TypeId} {o : Oper} {a : Act} {Kk : Act→World→Prop} {Q : Exit→Act→World→Prop}
  (mm x v : Operand) (t : TypeId) (hop : o.op = Op.mapUpdate t mm x v) (KO : KeyOK P kt K good) (ht : P.underlying t = some (.map kt et))
  (hm : a.eval mm = .map (some b)) (h : MapAt K V good w b m) (k : κ) (hk : good k) (hx : a.eval x = K k) (y : ν) (hv : a.eval v = V y)
  (hK : ∀ w',MapAt K V good w' b (aput m k y)→Turn b w w'→Kk (a.put o.dst undef) w') : o.wp P a w Kk Q:=by
 obtain ⟨w',hrun,r1,r2⟩:=h.store KO ht hk y;unfold Oper.wp;simp [execOp,hop,hm,hx,hv,hrun,Result.andThen];exact hK w' r1 r2
theorem leadM_put {ls : List Lead} (hp : ls.Pairwise fun a b=>a.id < b.id) {k : Nat} {x : Lead} (hx : ls[k]? = some x) : aput (zCc (ls.take k)) x.id x = zCc (ls.take (k + 1)):=by
 have hn : ahas (zCc (ls.take k)) x.id = false:=by
  rw [zBP];intro q hq e;obtain ⟨y,hy,rfl⟩:=List.mem_map.1 hq;obtain ⟨i,hi⟩:=List.mem_iff_getElem?.1 hy;rw [List.getElem?_take] at hi
  split at hi
  ·rename_i hik;obtain ⟨h1,h2⟩:=List.getElem?_eq_some_iff.1 hi;obtain ⟨h3,h4⟩:=List.getElem?_eq_some_iff.1 hx;have:=List.pairwise_iff_getElem.1 hp i k h1 h3 hik;rw [h2,h4] at this;simp only at e;omega
  ·cases hi
 unfold aput;rw [hn,zBJ hx];simp [zCc]
theorem zF3 (j : Int) (x : Lead) : ∀ l : List Lead,zAp j (l ++ [x]) = zAp j l ++ (if x.a = j then [⟨x.id,false⟩] else []) ++ (if x.b = j then [⟨x.id,true⟩] else [])
 | []=>by simp [zAp]
 | y :: l=>by simp only [List.cons_append,zAp,zF3 j x l,List.append_assoc]
def zA5 (W : World) (b : Nat) (sj : Sl Joint) (sl : Sl Lead) : Prop:=∃ ba bl bo N mo,b < N∧ba < N∧bl < N∧bo < N∧
 zAe W b 125 #[.slice sj.a sj.val.length sj.cap, .slice sl.a sl.val.length sl.cap, .map (some ba), .map (some bl), .map (some bo)]∧
 MapAt vi zAL I64 W ba (zA7 sj.val)∧MapAt vi zC7 I64 W bl (zCc sl.val)∧MapAt vi id I64 W bo mo∧Outs N W mo (outA sj.val sl.val)
theorem zA5.below {W W' : World} {b : Nat} {sj : Sl Joint} {sl : Sl Lead} (h : zA5 W b sj sl) (hb : Below W.heap.size W W') : zA5 W' b sj sl:=by
 obtain ⟨ba,bl,bo,N,mo,h1,h2,h3,h4,h5,h6,h7,h8,h9⟩:=h;exact ⟨ba,bl,bo,N,mo,h1,h2,h3,h4,h5.belowAll hb,h6.below hb h6.lt,h7.below hb h7.lt,h8.below hb h8.lt,h9.below hb⟩
end Go.Proofs.YtbbblemfodpmaaaGreat
end
