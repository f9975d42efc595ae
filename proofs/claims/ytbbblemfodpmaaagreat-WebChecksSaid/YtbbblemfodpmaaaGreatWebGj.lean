/-The walk of a side: the iterator.-/
import Derived.Test.YtbbblemfodpmaaaGreatWebGi
import Derived.Test.YtbbblemfodpmaaaGreatWebGa
import Derived.Test.YtbbblemfodpmaaaGreatWebGd
set_option linter.unusedVariables false
set_option linter.unusedSimpArgs false
set_option maxHeartbeats 16000000
set_option maxRecDepth 100000
section
namespace Go.Proofs.YtbbblemfodpmaaaGreat
open Go.RowKit
section
variable {F : Fence} {n : Nat} {P : Program} {ops : Array Oper} {rest : List Oper} {o : Oper} {a : Act} {w : World} {Q : Exit→Act→World→Prop}
theorem zCA (d : Nat) {op : Op} {ty : TypeId} {pos : String} {af : Array Edge} {g : Option (Nat × Bool)}
  (h : wpListIn F n P ops Q (⟨some d,op,ty,pos,af,g⟩ :: rest) a w) : wpListIn F n P ops Q (⟨some d,op,ty,pos,af,g⟩ :: rest) a w:=h
theorem zC8 {tt : TypeId} {x y : Operand} {ty : TypeId} {pos : String} {af : Array Edge} {g : Option (Nat × Bool)}
  (h : wpListIn F n P ops Q (⟨none, .store tt x y,ty,pos,af,g⟩ :: rest) a w) : wpListIn F n P ops Q (⟨none, .store tt x y,ty,pos,af,g⟩ :: rest) a w:=h
theorem zBB {b off : Nat} {T : TypeId} {cs : Array Value} (hb : zAe w b T cs)
  (hw : Region.wanted o (yielded ops a.tmps) = true) (ty : TypeId) (x : Operand) (ho : o.op = .load ty x) (hx : a.eval x = .pointer (some ⟨b,off,none⟩)) (ds : Array Value) {d : TypeDesc} (hds : ∀ j,j < ds.size→cs[off + j]? = ds[j]?)
  (hu : P.underlying ty = some d) (h : wpListIn F n P ops Q rest (a.put o.dst (.agg ds)) w) (hd : (match d with | .struct _ | .array _ _=>true | _=>false) = true:=by rfl) (hi : (P.info? ty).map (·.size) = some ds.size:=by kernel_rfl) : wpListIn F n P ops Q (o :: rest) a w:=
 Go.BigFrame.wpListIn_want hw fun K hK=>by
  obtain ⟨dst,op,ty0,pos,af,g⟩:=o;simp only at ho;subst ho;have hr:=zAc (P:=P) (W:=w) (ev:=a.eval) (dst:=dst) (ty0:=ty0) (pos:=pos) (af:=af) (g:=g) ds hb hx hds hu hd hi;unfold Oper.wpIn;refine ⟨fun f hf=>by simp [Oper.about] at hf, ?_⟩;rw [Oper.semAt_plain F _ _ (fun c e=>by cases e),hr];exact hK _ _ h
theorem zBM {b off : Nat} {T : TypeId} {cs : Array Value} (hb : zAe w b T cs)
  (hgd : o.guard = none) (ty : TypeId) (x y : Operand) (ho : o.op = .store ty x y) (hx : a.eval x = .pointer (some ⟨b,off,none⟩)) (v : Value) (hy : a.eval y = v)
  (hi : (P.info? ty).map (·.size) = some v.cells.size) (hfit : Nat.ble (off + v.cells.size) cs.size = true) (h1 : v.cells.all (·.oneCell') = true)
  (h : ∀ w',zAe w' b T (zAx cs off v.cells.toList)→Turn b w w'→wpListIn F n P ops Q rest (a.put o.dst undef) w') : wpListIn F n P ops Q (o :: rest) a w:=by
 refine wpListIn_plain hgd fun K' hK'=>?_;have hfit':=Nat.le_of_ble_eq_true hfit;have hst:=run_storeCells_cells (P:=P) b off v.cells.toList 0 w (fun j hj=>by
   rw [Nat.add_zero,hb.cell,Array.getElem?_eq_getElem (by simp at hj;omega)];rfl)
  (fun j _=>hb.frozen _) (fun u hu=>(Array.all_eq_true_iff_forall_mem.1 h1) u (by simpa using hu))
 obtain ⟨h2,h3⟩:=zCZ v.cells.toList off cs w hb;unfold Oper.wpIn;refine ⟨fun f hf=>by simp [Oper.about,ho] at hf, ?_⟩;rw [Oper.semAt_plain F _ _ (fun c e=>by rw [ho] at e;cases e)];unfold execOp
 cases hq : P.info? ty with
 | none=>simp [hq] at hi
 | some i=>
  have hs : i.size = v.cells.size:=by simpa [hq] using hi
  simp only [Nat.add_zero] at hst;simp [ho,hx,hy,Instr.storeAt,Instr.sureAddr,storeVar,Sem.run_bind,sizeOf,typeInfo,hq,hs,hst];exact hK' _ _ (h _ h2 h3)
end
def zEP (v : Value) (W : World) : Side:=
 match v with
 | .pointer (some p)=>(match W.cell? p,W.cell? ⟨p.block,p.off + 1,none⟩ with | some (.int _ z),some (.bool c)=>⟨z,c⟩ | _,_=>zDg)
 | _=>zDg
theorem zF5 {W : World} {b : Nat} {s : Side} (h : zAe W b 59 (zAa s)) : zEP (.pointer (some ⟨b,0,none⟩)) W = s:=by
 have e0:=(h.cell 0).trans (show _ = some (.int .i64 s.lead) from rfl);have e1:=(h.cell 1).trans (show _ = some (.bool s.back) from rfl);simp [zEP,e0,e1]
theorem Below.grownNone {W W' : World} (h : Below W.heap.size W W') : W.grownBy W' none:=⟨h.os,h.tape,h.output,h.size,fun k hk _=>h.block k hk⟩
theorem Turn.grown {b : Nat} {W W' : World} (h : Turn b W W') : W.grownBy W' (some b):=⟨h.os,h.tape,h.output,Nat.le_of_eq h.size.symm,fun k _ hk=>h.block k (fun e=>hk (by rw [e]))⟩
section
variable {js : List Joint} {ls : List Lead} (V : ValidW js ls)
include V
theorem ValidW.walk_fwd {s t : Side} (h : zAM ls s) {k : Nat} (hk : (zAH js ls s)[k]? = some t) (hne : zAV js ls t ≠ s) : k + 1 < (zAH js ls s).length∧(zAH js ls s)[k + 1]? = some (zAV js ls t):=by
 have h1:=V.walk_step h hk;have hlt:=(List.getElem?_eq_some_iff.1 hk).1
 rcases Nat.lt_or_ge (k + 1) (zAH js ls s).length with q | q
 ·rw [Nat.mod_eq_of_lt q] at h1;exact ⟨q,h1⟩
 ·exfalso;have : k + 1 = (zAH js ls s).length:=by omega
  rw [this,Nat.mod_self] at h1;have h0 : (zAH js ls s)[0]? = some s:=by unfold zAH;rfl
  rw [h0] at h1;exact hne (by simpa using h1.symm)
theorem ValidW.walk_end {s t : Side} (h : zAM ls s) {k : Nat} (hk : (zAH js ls s)[k]? = some t) (he : zAV js ls t = s) : k + 1 = (zAH js ls s).length:=by
 have h1:=V.walk_step h hk;have hlt:=(List.getElem?_eq_some_iff.1 hk).1
 rcases Nat.lt_or_ge (k + 1) (zAH js ls s).length with q | q
 ·exfalso;rw [Nat.mod_eq_of_lt q,he] at h1;have h0 : (zAH js ls s)[0]? = some s:=by unfold zAH;rfl
  have hn:=V.walk_nodup h;obtain ⟨a1,a2⟩:=List.getElem?_eq_some_iff.1 h1;obtain ⟨b1,b2⟩:=List.getElem?_eq_some_iff.1 h0;have:=(List.getElem_inj hn).1 (a2.trans b2.symm);omega
 ·omega
theorem ValidW.walk_idx {s t : Side} (h : zAM ls s) {k : Nat} (hk : (zAH js ls s)[k]? = some t) : (zAH js ls s).idxOf t = k:=by
 obtain ⟨a1,a2⟩:=List.getElem?_eq_some_iff.1 hk;rw [← a2];exact idx_at (V.walk_nodup h) a1
end
theorem walk1_seq {sj : Sl Joint} {sl : Sl Lead} (V : ValidW sj.val sl.val) (s : Side) (hs : zAM sl.val s) (n b cs cn : Nat) (w0 : World) (hN : zA5 w0 b sj sl) (h1 : zAe w0 cs 59 (zAa s)) (h2 : zAe w0 cn 109 #[.pointer (some ⟨b,0,none⟩)]) :
  SeqTb Fence.wide n Tryz.prog 166 #[.pointer (some ⟨cs,0,none⟩), .pointer (some ⟨cn,0,none⟩)] (fun x=>#[.agg (zAa x)]) (zAH sj.val sl.val s) w0:=by
 intro l J W hB hT hF hY h0;have HV:=zz V;obtain ⟨xs,hxs⟩ : ∃ xs,zAH sj.val sl.val s = xs:=⟨_,rfl⟩
 have hx0 : xs[0]? = some s:=by rw [← hxs];unfold zAH;rfl
 have HGO : Hid (∀ k t,xs[k]? = some t→zAV sj.val sl.val t ≠ s→k + 1 < xs.length∧xs[k + 1]? = some (zAV sj.val sl.val t)):=zz fun k t hk hne=>by rw [← hxs] at hk ⊢;exact V.walk_fwd hs hk hne
 have HEN : Hid (∀ k t,xs[k]? = some t→zAV sj.val sl.val t = s→k + 1 = xs.length):=zz fun k t hk he=>by rw [← hxs] at hk ⊢;exact V.walk_end hs hk he
 have HIX : Hid (∀ k t,xs[k]? = some t→xs.idxOf t = k):=zz fun k t hk=>by rw [← hxs] at hk ⊢;exact V.walk_idx hs hk
 have HSD : Hid (∀ k t,xs[k]? = some t→zAM sl.val t):=zz fun k t hk=>by rw [← hxs] at hk;exact (V.walk_next hs (List.mem_of_getElem? hk)).1
 rw [hxs] at hY ⊢;clear hxs;have HNX : Hid (∀ t,zAM sl.val t→∀ A,Below w0.heap.size w0 A→CallsIn Fence.wide (n - 1) Tryz.prog 101 #[.pointer (some ⟨b,0,none⟩), .agg (zAa t)] A fun e A'=>e = .returned (.agg (zAa (zAV sj.val sl.val t)))∧Below A.heap.size A A'):=zz fun t ht A hA=>callsIn_wide.2 (next_any V t ht A (hN.below hA));have HBX : Hid (∀ A,Below w0.heap.size w0 A→zAe A cs 59 (zAa s)∧zAe A cn 109 #[.pointer (some ⟨b,0,none⟩)]):=zz fun A hA=>⟨h1.belowAll hA,h2.belowAll hA⟩
 have HY:=zz hY;have h1l:=zz h1.lt;have HF:=zz hF;have HT:=zz hT;have H0:=zz h0;have g1:=(HBX.out W hB).1;clear hY hF hT h0 h1 h2 hN V;refine callsIn_of_wp Tryz.func166 rfl trivial ?_ rfl;simp only [Tryz.ntmps166,List.size_toArray,List.length_cons,List.length_nil,Nat.reduceAdd,Nat.reduceSub,Array.replicate_succ,Array.replicate_zero,List.push_toArray,List.append_toArray,List.nil_append,List.cons_append]
 gi_wp2_with (first
  | ((with_reducible refine zCA 5 ?_);refine zBB g1 rfl 59 _ rfl rfl (zAa s) (zAg _) zuA ?_)
  | ((with_reducible refine zC8 ?_);refine zBM (zAe.new W 59 #[.int .i64 0, .bool false]) rfl 59 _ _ rfl rfl (.agg (zAa s)) rfl (by kernel_rfl) rfl (zD8 (zAn _)) ?_;intro w1 hb1 ht1))
 have hJ1 : J W.heap.size [] w1:=HT.out _ _ _ _ _ (HT.out _ _ _ _ _ (H0.out _ (Nat.le_refl _)) (World.grownBy_alloc W _ none) (fun r e=>by cases e)) ht1.grown (fun r e=>by cases e;rfl);have hbb1 : zAe w1 W.heap.size 59 (zAa s):=hb1.eqv (by simp [zAx,zAa,Value.cells]);have hW1 : Below w0.heap.size W w1:=(((Below.refl W.heap.size W).alloc (Nat.le_refl _) _).trans (ht1.below (Nat.le_refl _))).mono hB.size;clear hb1 ht1
 gi_loopw [4] (fun p wr=>∃ (tb k : Nat) (t : Side),p = .pointer (some ⟨tb,0,none⟩)∧Hid (xs[k]? = some t)∧zAe wr tb 59 (zAa t)∧w0.heap.size ≤ tb∧Hid (J tb (xs.take k) wr)∧Below w0.heap.size W wr) (fun p wr=>xs.length - xs.idxOf (zEP p wr))
 case atStart=>exact ⟨_,0,s,rfl,zz hx0,hbb1,hB.size,zz hJ1,hW1⟩
 case round=>
  obtain ⟨tb,k,t,rfl,hk,hbt,htb0,hJ,hWr⟩:=hrel;have hkl:=(List.getElem?_eq_some_iff.1 hk.out).1;obtain ⟨fn,tmps,assign,body,hy,hR⟩:=HY.out tb (xs.take k) t wr hJ.out hbt.lt htb0 (by rw [List.length_take];omega);obtain ⟨r,hr⟩ : ∃ r,zAV sj.val sl.val t = r:=⟨_,rfl⟩
  have HR:=zz hr;have HK : Hid (xs.take k ++ [t] = xs.take (k + 1)):=zz (by rw [List.take_add_one,hk.out];rfl);have hNXT : Hid (∀ A,Below w0.heap.size w0 A→CallsIn Fence.wide (n - 1) Tryz.prog 101 #[.pointer (some ⟨b,0,none⟩), .agg (zAa t)] A fun e A'=>e = .returned (.agg (zAa r))∧Below A.heap.size A A'):=zz (by rw [← hr];exact HNX.out t (HSD.out k t hk.out));have hms : xs.idxOf (zEP (.pointer (some ⟨tb,0,none⟩)) wr) = k:=by rw [zF5 hbt];exact HIX.out k t hk.out
  clear hr
  gi_wp2_with (first
   | ((with_reducible refine zCA 7 ?_);refine zBB hbt rfl 59 _ rfl rfl (zAa t) (zAg _) zuA ?_))
  refine ⟨fun h=>by simp [Fence.wide] at h,hR.mono ?_⟩;rintro e w3 ⟨rfl,hJ3,hkeep,hb3⟩;rw [HK.out] at hJ3;have HJ3:=zz hJ3;have g3 : zAe w3 tb 59 (zAa t):=hbt.of_block hkeep;have hW3:=hWr.trans hb3;obtain ⟨c1,c2⟩:=HBX.out w3 (hB.trans (hW3.mono (Nat.le_refl _)));have q2:=(c2.cell 0).trans (show _ = some (.pointer (some ⟨b,0,none⟩)) from rfl);have HRW:=zz hR;clear hJ3 hkeep hb3 hR HRW
  by_cases hq : r = s
  ·have HQ : Hid (zBp r s = true):=zz (by simp [zBp,hq]);have hqe:=HQ.out;have HLN:=zz (HEN.out k t hk.out (HR.out.trans hq));clear hq
   gi_wp2_with (first
    | ((with_reducible refine zCA 10 ?_);refine zBB g3 rfl 59 _ rfl rfl (zAa t) (zAg _) zuA ?_))
   refine ⟨trivial,fun h=>by simp [Fence.wide] at h,(hNXT.out w3 (hB.trans (hW3.mono (Nat.le_refl _)))).mono ?_⟩;rintro e w4 ⟨rfl,hb4⟩;have g4:=g3.belowAll hb4;have c4:=c1.belowAll hb4
   gi_wp2_with (first
    | ((with_reducible refine zC8 ?_);refine zBM g4 rfl 59 _ _ rfl rfl (.agg (zAa r)) rfl (by kernel_rfl) rfl (zD8 (zAn _)) ?_;intro w5 hb5 ht5;have g5 : zAe w5 tb 59 (zAa r):=hb5.eqv (by simp [zAx,zAa,Value.cells]);have hne : cs ≠ tb:=(by have:=h1l.out;omega);have c5:=c4.turn ht5 hne)
    | ((with_reducible refine zCA 12 ?_);refine zBB g5 rfl 59 _ rfl rfl (zAa r) (zAg _) zuA ?_)
    | ((with_reducible refine zCA 13 ?_);refine zBB c5 rfl 59 _ rfl rfl (zAa s) (zAg _) zuA ?_))
   refine bodyPost_ret (results_none rfl _ _ _) rfl ?_;refine ⟨⟨_,rfl⟩,tb, ?_,hW3.trans ((hb4.mono (by have:=hbt.lt;have:=hW3.size;have:=hB.size;omega)).trans (ht5.below htb0))⟩;have e1 : xs.take (k + 1) = xs:=List.take_of_length_le (by have:=HLN.out;omega);have hJ5:=HT.out _ _ _ _ _ (HT.out _ _ _ _ _ HJ3.out (Below.grownNone hb4) (fun r e=>by cases e)) ht5.grown (fun r e=>by cases e;rfl);rw [e1] at hJ5;exact hJ5
  ·have HQ : Hid (zBp r s = false):=zz (by simp [zBp,hq]);have hqe:=HQ.out;have HLN:=zz (HGO.out k t hk.out (by rw [HR.out];exact hq));clear hq
   gi_wp2_with (first
    | ((with_reducible refine zCA 10 ?_);refine zBB g3 rfl 59 _ rfl rfl (zAa t) (zAg _) zuA ?_))
   refine ⟨trivial,fun h=>by simp [Fence.wide] at h,(hNXT.out w3 (hB.trans (hW3.mono (Nat.le_refl _)))).mono ?_⟩;rintro e w4 ⟨rfl,hb4⟩;have g4:=g3.belowAll hb4;have c4:=c1.belowAll hb4
   gi_wp2_with (first
    | (refine ⟨fun _ _=>trivial, ?_⟩;gi_at_call 101;refine ((hNXT.out w3 (hB.trans (hW3.mono (Nat.le_refl _)))).mono ?_);rintro e w4 ⟨rfl,hb4⟩;have g4:=g3.belowAll hb4;have c4:=c1.belowAll hb4)
    | ((with_reducible refine zC8 ?_);refine zBM g4 rfl 59 _ _ rfl rfl (.agg (zAa r)) rfl (by kernel_rfl) rfl (zD8 (zAn _)) ?_;intro w5 hb5 ht5;have g5 : zAe w5 tb 59 (zAa r):=hb5.eqv (by simp [zAx,zAa,Value.cells]);have hne : cs ≠ tb:=(by have:=h1l.out;omega);have c5:=c4.turn ht5 hne)
    | ((with_reducible refine zCA 12 ?_);refine zBB g5 rfl 59 _ rfl rfl (zAa r) (zAg _) zuA ?_)
    | ((with_reducible refine zCA 13 ?_);refine zBB c5 rfl 59 _ rfl rfl (zAa s) (zAg _) zuA ?_)
    | ((with_reducible refine zCA 15 ?_);refine zBB g5 rfl 59 _ rfl rfl (zAa r) (zAg _) zuA ?_)
    | ((with_reducible refine zC8 ?_);refine zBM (zAe.new w5 59 #[.int .i64 0, .bool false]) rfl 59 _ _ rfl rfl (.agg (zAa r)) rfl (by kernel_rfl) rfl (zD8 (zAn _)) ?_;intro w6 hb6 ht6))
   have hJ5:=HT.out _ _ _ _ _ (HT.out _ _ _ _ _ HJ3.out (Below.grownNone hb4) (fun r e=>by cases e)) ht5.grown (fun r e=>by cases e;rfl);have hJ6:=HT.out _ _ _ _ _ (HT.out _ _ _ _ _ (HF.out _ w5.heap.size _ _ hJ5 (Nat.le_refl _)) (World.grownBy_alloc w5 _ none) (fun r e=>by cases e)) ht6.grown (fun r e=>by cases e;rfl);have hn5 : w0.heap.size ≤ w5.heap.size:=by have:=hbt.lt;have:=hW3.size;have:=hB.size;have:=hb4.size;have:=ht5.size;omega
   have hW6:=hW3.trans ((hb4.mono (by have:=hW3.size;have:=hB.size;omega)).trans ((ht5.below htb0).trans (((Below.refl w5.heap.size w5).alloc (Nat.le_refl _) _).trans (ht6.below (Nat.le_refl _)) |>.mono hn5)));have g6 : zAe w6 w5.heap.size 59 (zAa r):=hb6.eqv (by simp [zAx,zAa,Value.cells]);have hk1 : Hid (xs[k + 1]? = some r):=zz (by rw [HLN.out.2,HR.out]);refine ⟨⟨_,_,_,_,_,_,_,_,_,_,_,⟨w5.heap.size,k + 1,r,rfl,hk1,g6,hn5,zz hJ6,hW6⟩,rfl⟩, ?_⟩
   show xs.length - xs.idxOf (zEP (.pointer (some ⟨w5.heap.size,0,none⟩)) w6) < xs.length - xs.idxOf (zEP (.pointer (some ⟨tb,0,none⟩)) wr)
   rw [zF5 g6,hms,HIX.out _ _ hk1.out];have:=HLN.out.1;omega
end Go.Proofs.YtbbblemfodpmaaaGreat
end
section
namespace Go.Proofs.YtbbblemfodpmaaaGreat
open Go.RowKit
attribute [local go_sem] Oper.semAt_some
theorem zEQ {α : Type} {enc : α→Array Value} {sz : Nat} {F : Fence} {n : Nat} {P : Program} {ops : Array Oper} {rest : List Oper} {o : Oper} {a : Act} {w : World} {Q : Exit→Act→World→Prop} (hgd : o.guard = none) (s x : Operand) (t : TypeId)
  (ho : o.op = .call { callee:=.builtin .append,args:=#[s,x],argTypes:=#[t,t] })
  (base : Nat) {e : TypeId} {bytes : Nat} (hE : zBU P t e sz bytes) (hsz : ∀ x,(enc x).size = sz) (h0 : 0 < sz) (hone : ∀ x,(enc x).all (·.oneCell') = true) (hby : bytes ≤ 10000)
  (v : Value) (l : List α) (hs : a.eval s = v) (hown : OwnL enc sz w base e v l)
  (b off c : Nat) (y : α) (hx : a.eval x = .slice (some ⟨b,off,none⟩) 1 c) (hy : ∀ j,j < sz→w.cell? ⟨b,off + j,none⟩ = (enc y)[j]?)
  (hlen : l.length + 1 ≤ 4294967296) (hbase : base ≤ w.heap.size)
  (h : ∀ v' w',OwnL enc sz w' base e v' (l ++ [y])→w.grownBy w' v.ownBlock→(v'.ownBlock = v.ownBlock ∨ v'.ownBlock = some w.heap.size)→wpListIn F n P ops Q rest (a.put o.dst v') w') : wpListIn F n P ops Q (o :: rest) a w:=by
 refine wpListIn_plain hgd fun K' hK'=>?_;obtain ⟨ht,i,z,hi,hz,hs1,hb1,hzs⟩:=hE.out;have hfl : (flat enc [y]).length = 1 * sz:=zBn hsz [y];obtain ⟨v',w',hr,h2,h3,h4,h5⟩:=run_append_own_at (P:=P) w base t o.type e i z sz bytes ht hi hz hs1 hb1 hzs h0 v l.length (flat enc l) hown ⟨b,off,none⟩ 1 c (flat enc [y]) hfl (by
  intro j u hj;have hjl : j < 1 * sz:=by rw [← hfl];exact (List.getElem?_eq_some_iff.1 hj).1
  have hjs : j < sz:=by omega
  have e1:=zC6 (enc:=enc) hsz [y] 0 y rfl j hjs;rw [Nat.zero_mul,Nat.zero_add] at e1;have hadd : (⟨b,off,none⟩ : Addr).add j = ⟨b,off + j,none⟩:=by unfold Addr.add;split <;> simp_all
  rw [hadd,hy j hjs,← e1,hj]) (zD1 hone [y]) (by unfold maxLen;omega) (by
  calc (l.length + 1) * bytes ≤ 4294967296 * 10000:=Nat.mul_le_mul hlen hby
   _ ≤ 140737488355328:=by decide) hbase
 unfold Oper.wpIn;refine ⟨?_, ?_⟩
 ·simp [Oper.about,ho,resolve,Target.leads,Sem.run_pure]
 ·rw [Oper.semAt_plain F _ _ (by rw [ho];intro c hc';cases hc')];unfold execOp;simp only [ho,resolve,invoke,builtin,Sem.run_bind,Sem.run_pure,Result.andThen_ok,List.map_toArray,List.map_cons,List.map_nil,hs,hx,hr];refine hK' _ _ (h v' w' ?_ h3 h5);unfold OwnL;rw [zEA,List.length_append];exact h2
theorem OwnL.cells_at {α : Type} {enc : α→Array Value} {sz : Nat} {W : World} {N : Nat} {T : TypeId} {v : Value} {l : List α} (h : OwnL enc sz W N T v l) {g : Nat} (hg : v.ownBlock = some g) : g < W.heap.size∧∃ cur,W.heap[g]? = some (.cells cur T (0,0)):=by
 rcases h.2 with ⟨rfl,_⟩ | ⟨g',cap,cur,rfl,h3,h4,h5⟩
 ·cases hg
 ·obtain rfl : g' = g:=by simpa [Value.ownBlock] using hg
  exact ⟨(Array.getElem?_eq_some_iff.1 h4).1,cur,h4⟩
def CollI (w : World) (tb : Nat) (pre : List Side) (W : World) : Prop:=
 ∃ v,zAe W w.heap.size 62 #[v]∧OwnL zAa 2 W w.heap.size 59 v pre∧(∀ g,v.ownBlock = some g→g ≠ tb∧g ≠ w.heap.size)∧w.heap.size < tb∧Below w.heap.size w W
theorem CollI.turn {w : World} {tb : Nat} {pre : List Side} {A B : World} {row : Option Nat} (h : CollI w tb pre A) (hg : A.grownBy B row) (hr : ∀ r,row = some r→r = tb ∨ (w.heap.size + 1 ≤ r∧∃ o : Obj,A.heap[r]? = some o∧o.isCells = false)) : CollI w tb pre B:=by
 obtain ⟨v,hb,ho,hne,htb,hB⟩:=h;refine ⟨v,hb.of_block (hg.block _ hb.lt fun e=>?_),ho.kept fun g hgv=>hg.block g (ho.cells_at hgv).1 fun e=>?_,hne,htb,hB.grown hg hB.size fun k e=>?_⟩
 ·rcases hr _ e.symm with e2 | ⟨h1,_⟩ <;> omega
 ·rcases hr _ e.symm with e2 | ⟨h1,o,h2,h3⟩
  ·exact (hne g hgv).1 e2
  ·obtain ⟨_,cur,h4⟩:=ho.cells_at hgv;rw [h4] at h2;cases h2;cases h3
 ·rcases hr _ e with e2 | ⟨h1,_⟩ <;> omega
theorem CollI.fresh {w : World} {tb tb' : Nat} {pre : List Side} {A : World} (h : CollI w tb pre A) (ht : A.heap.size ≤ tb') : CollI w tb' pre A:=by
 obtain ⟨v,hb,ho,hne,htb,hB⟩:=h;exact ⟨v,hb,ho,fun g hg=>⟨by have:=(ho.cells_at hg).1;omega,(hne g hg).2⟩,by have:=hb.lt;omega,hB⟩
theorem appendSeq_in (n : Nat) (hn : 1 ≤ n) (g : Nat) (lb : Array Value) (eg : ∀ args w,(callFunc g args).run Tryz.prog w = .ok (.enter g args) w) (xs : List Side) (hxs : xs.length ≤ 4294967295) (w : World)
  (hseq : SeqTb Fence.wide (n - 1) Tryz.prog g lb (fun x=>#[.agg (zAa x)]) xs w) :
  CallsIn Fence.wide n Tryz.prog 165 #[.slice none 0 0, .func (.func g) #[] lb] w fun e w'=>∃ v,e = .returned v∧OwnL zAa 2 w' w.heap.size 59 v xs∧Below w.heap.size w w':=by
 refine callsIn_of_wp_marks Tryz.func165 rfl trivial ?_ rfl;simp only [Tryz.ntmps165,List.size_toArray,List.length_cons,List.length_nil,Nat.reduceAdd,Nat.reduceSub,Array.replicate_succ,Array.replicate_zero,List.push_toArray,List.append_toArray,List.nil_append,List.cons_append];gi_wp2;obtain ⟨w1,hw1⟩ : ∃ w1,w.alloc (.cells #[.slice none 0 0] 62) = w1:=⟨_,rfl⟩
 have hbx : zAe w1 w.heap.size 62 #[.slice none 0 0]:=by rw [← hw1];exact zAe.new _ _ _
 have hs1 : w1.heap.size = w.heap.size + 1:=by rw [← hw1];simp
 have hB1 : Below w.heap.size w w1:=by rw [← hw1];exact (Below.refl _ _).alloc (Nat.le_refl _) _
 rw [hw1];clear hw1;refine zFv rfl hn (gf:=g) (lb:=lb) rfl trivial eg hseq hB1 (fun _=>rfl) (CollI w)
  (fun tb pre A B row h hg hr=>h.turn hg (by rw [← hs1];exact hr)) (fun tb tb' pre A h ht=>h.fresh ht)
  (fun tb ht=>⟨_,hbx,OwnL.nil _ _ _ _ _,(fun g hg=>by cases hg),by omega,hB1⟩)
  (fun x a' W=>∃ bx,w.heap.size + 1 ≤ bx∧zAe W bx 59 (zAa x)∧a' = { tmps:=#[.slice none 0 0, .func (.func g) #[] lb, .pointer (some ⟨w.heap.size,0,none⟩),undef, .slice none 0 0, .pointer (some ⟨bx,0,none⟩), .func (.func g) #[] lb, .agg (zAa x),undef,undef,undef,undef,undef],defers:=[] })
  ?hAx ?assign ?body ?done
 case hAx=>
  rintro x a' s A B row ⟨bx,h1,h2,h3⟩ hg hr;refine ⟨bx,h1,h2.of_block (hg.block _ h2.lt fun e=>?_),h3⟩;obtain ⟨_,o,h4,h5⟩:=hr _ e.symm;rw [h2] at h4;cases h4;cases h5
 case assign=>
  intro l tb pre x W K hI htb hK
  gi_wp2_with (first
   | ((with_reducible refine zC8 ?_);refine zBM (zAe.new W 59 #[.int .i64 0, .bool false]) rfl 59 _ _ rfl rfl (.agg (zAa x)) rfl (by kernel_rfl) rfl (zD8 (zAn _)) ?_;intro w2 hb2 ht2))
  have hold : ∀ k,k < W.heap.size→w2.heap[k]? = W.heap[k]?:=fun k hk=>(ht2.block k (by omega)).trans (Below.heap_alloc W _ k hk);have hBw : Below W.heap.size W w2:=((Below.refl W.heap.size W).alloc (Nat.le_refl _) _).trans (ht2.below (Nat.le_refl _));have hsW : w.heap.size + 1 ≤ W.heap.size:=by obtain ⟨v,hv,_⟩:=hI;exact hv.lt
  refine hK _ w2 ⟨hBw.size,fun k o _ ho _=>(hold k (Array.getElem?_eq_some_iff.1 ho).1).trans ho⟩ (hBw.mono (by omega)) (hold _ htb) (hI.turn (Below.grownNone hBw) (fun r e=>by cases e)) ⟨W.heap.size,hsW,hb2.eqv (by simp [zAx,zAa,Value.cells]),rfl⟩
 case body=>
  rintro l tb pre x a' W hl ⟨r,hr⟩ ⟨v,hbv,hov,hne,htb0,hBW⟩ htb ⟨bx,hbx1,hbx2,rfl⟩ hlen;have c0:=(hbv.cell 0).trans (show _ = some v from rfl);have HOV:=zz hov;have HSZ:=zz hBW.size;have hc1 : Hid (∀ j,j < 2→(W.alloc (.cells (zAa x) 59)).cell? ⟨W.heap.size,0 + j,none⟩ = (zAa x)[j]?):=zz fun j hj=>by rw [Nat.zero_add];exact (zAe.new W 59 (zAa x)).cell j
  have HLN : Hid (pre.length + 1 ≤ 4294967296):=zz (by omega);have HBK : Hid (∀ w2 (v2 : Value),(W.alloc (.cells (zAa x) 59)).grownBy w2 v.ownBlock→(v2.ownBlock = v.ownBlock ∨ v2.ownBlock = some (W.alloc (.cells (zAa x) 59)).heap.size)→zAe w2 w.heap.size 62 #[v]∧(∀ b : Unit,v2.ownBlock ≠ some w.heap.size)∧Below w.heap.size W w2):=zz fun w2 v2 hg hv=>by
   refine ⟨(hbv.alloc _).of_block (hg.block _ (hbv.alloc _).lt (fun e=>(hne _ e.symm).2 rfl)),fun _ e=>?_,((Below.refl _ W).alloc hBW.size _).grown hg (by have:=hBW.size;simp;omega) (fun k e=>(hov.block k e).1)⟩
   rcases hv with e2 | e2
   ·rw [e2] at e;exact (hne _ e).2 rfl
   ·rw [e2] at e;have:=hbv.lt;simp at e;omega
  gi_wp2_with (first
   | ((with_reducible refine zCA 9 ?_);refine zBB hbx2 rfl 59 _ rfl rfl (zAa x) (zAg _) zuA ?_)
   | (gi_at_builtin;refine zEQ rfl _ _ 62 rfl w.heap.size zB3 (fun _=>rfl) (by decide) zAn (by decide) v pre rfl (HOV.out.kept fun g hg=>Below.heap_alloc W _ g (HOV.out.cells_at hg).1) W.heap.size 0 1 x rfl hc1.out HLN.out (by have:=HSZ.out;simp;omega) ?_;intro v2 w2 ho2 hg2 hv2;have hob:=HBK.out w2 v2 hg2 hv2;obtain ⟨g',cap',rfl⟩:=ownsRow_succ (k:=pre.length) (by have h:=ho2;unfold OwnL at h;rw [List.length_append] at h;exact h))
   | ((with_reducible refine zC8 ?_);refine zBM hob.1 rfl 62 _ _ rfl rfl (.slice (some ⟨g',0,none⟩) (pre.length + 1) cap') rfl (by kernel_rfl) rfl (by simp [Value.cells,Value.oneCell']) ?_;intro w3 hb3 ht3))
  obtain ⟨q1,q2,q3⟩:=hob;have hold : ∀ k o,W.heap[k]? = some o→v.ownBlock ≠ some k→k ≠ w.heap.size→w3.heap[k]? = some o:=fun k o hk h1 h2=>by
   have hkl:=(Array.getElem?_eq_some_iff.1 hk).1;exact (ht3.block k h2).trans ((hg2.block k (by simp;omega) (fun e=>h1 e.symm)).trans ((Below.heap_alloc W _ k hkl).trans hk))
  refine ⟨⟨Nat.le_trans q3.size (Nat.le_of_eq ht3.size.symm),fun k o hk ho hc=>hold k o ho (fun e=>?_) (by omega)⟩,q3.trans (ht3.below (Nat.le_refl _)), ?_,⟨_,hb3.eqv (by simp [zAx,Value.cells]),ho2.turn ht3 (q2 ()), ?_,htb0,hBW.trans (q3.trans (ht3.below (Nat.le_refl _)))⟩⟩
  ·obtain ⟨_,cur,h4⟩:=hov.cells_at e;rw [h4] at ho;cases ho;cases hc
  ·exact hold tb _ (Array.getElem?_eq_getElem htb) (fun e=>(hne tb e).1 rfl) (by omega)
  ·intro g2 hg2'
   rcases hv2 with e | e
   ·rw [e] at hg2';exact hne g2 hg2'
   ·rw [e] at hg2';have : g2 = W.heap.size + 1:=by simpa using hg2'.symm
    have:=hBW.size;have:=hbv.lt;omega
 case done=>
  rintro D tb W hD ⟨v,hbv,hov,hne,htb0,hBW⟩ hK;have c0:=(hbv.cell 0).trans (show _ = some v from rfl);gi_wp2;refine ⟨by simp, .inl ⟨_,_,rfl,run_takeDeferred hK, ?_⟩⟩;exact ⟨_,results_tmp rfl _ _ _,v,rfl,ownsRow_putObj hov _ hK rfl,hBW.grown (grownBy_putObj' _ _ _) hBW.size (fun k e=>by cases e;omega)⟩
theorem collect_in (n : Nat) (hn : 2 ≤ n) (g : Nat) (lb : Array Value) (eg : ∀ args w,(callFunc g args).run Tryz.prog w = .ok (.enter g args) w) (xs : List Side) (hxs : xs.length ≤ 4294967295) (w : World)
  (hseq : SeqTb Fence.wide (n - 1 - 1) Tryz.prog g lb (fun x=>#[.agg (zAa x)]) xs w) :
  CallsIn Fence.wide n Tryz.prog 106 #[.func (.func g) #[] lb] w fun e w'=>∃ v,e = .returned v∧OwnL zAa 2 w' w.heap.size 59 v xs∧Below w.heap.size w w':=by
 have HC:=zz (appendSeq_in (n - 1) (by omega) g lb eg xs hxs w hseq);clear hseq;refine callsIn_of_wp Tryz.func106 rfl trivial ?_ rfl;simp only [Tryz.ntmps106,List.size_toArray,List.length_cons,List.length_nil,Nat.reduceAdd,Nat.reduceSub,Array.replicate_succ,Array.replicate_zero,List.push_toArray,List.append_toArray,List.nil_append,List.cons_append];gi_wp2;refine ⟨trivial,fun h=>by simp [Fence.wide] at h,HC.out.mono ?_⟩;rintro e w' ⟨v,rfl,ho,hb⟩;gi_wp2;go_ret;exact ⟨v,rfl,ho,hb⟩
theorem walk_any (b : Nat) (s : Side) (w : World) :
  Calls Tryz.prog 107 #[.pointer (some ⟨b,0,none⟩), .agg (zAa s)] w fun e w'=>e = .returned (.func (.func 166) #[] #[.pointer (some ⟨w.heap.size + 1,0,none⟩), .pointer (some ⟨w.heap.size,0,none⟩)])∧w' = (w.alloc (.cells #[.pointer (some ⟨b,0,none⟩)] 109)).alloc (.cells (zAa s) 59):=by
 go_enter Tryz.func107,Tryz.ntmps107;go_wp2;go_ret;exact ⟨by simp,rfl⟩
theorem zDC {js : List Joint} {ls : List Lead} (V : ValidW js ls) {s : Side} (hs : zAM ls s) : (zAH js ls s).length ≤ 800:=by
 have h:=zDj (m:=zBz ls) (V.walk_nodup hs) fun x hx=>zCI.2 (V.walk_next hs hx).1;rw [zB7] at h;have:=V.nl;omega
theorem zEe {sj : Sl Joint} {sl : Sl Lead} (V : ValidW sj.val sl.val) (s : Side) (hs : zAM sl.val s) (b cs cn : Nat) (w : World) (hN : zA5 w b sj sl) (h1 : zAe w cs 59 (zAa s)) (h2 : zAe w cn 109 #[.pointer (some ⟨b,0,none⟩)]) :
  Calls Tryz.prog 106 #[.func (.func 166) #[] #[.pointer (some ⟨cs,0,none⟩), .pointer (some ⟨cn,0,none⟩)]] w fun e w'=>∃ v,e = .returned v∧OwnL zAa 2 w' w.heap.size 59 v (zAH sj.val sl.val s)∧Below w.heap.size w w':=
 (callsIn_wide (n:=4)).1 (collect_in 4 (by omega) 166 _ (enters_of Tryz.func166 (by kernel_rfl) rfl) _ (Nat.le_trans (zDC V hs) (by omega)) w (walk1_seq V s hs _ b cs cn w hN h1 h2))
end Go.Proofs.YtbbblemfodpmaaaGreat
end
section
namespace Go.Proofs.YtbbblemfodpmaaaGreat
open Go.RowKit
theorem field_pt0 (p : Point) (w : World) : (Instr.field 27 (zAL p) 0).run Tryz.prog w = .ok (.int .i64 p.x) w:=by kernel_rfl
theorem field_pt1 (p : Point) (w : World) : (Instr.field 27 (zAL p) 1).run Tryz.prog w = .ok (.int .i64 p.y) w:=by kernel_rfl
def zDh (js : List Joint) (ls : List Lead) (s : Side) : Int:=(ptA js (zAl ls s).1).x * (ptA js (zAl ls s).2).y - (ptA js (zAl ls s).2).x * (ptA js (zAl ls s).1).y
def zBd (js : List Joint) (ls : List Lead) (l : List Side) : Int:=(l.map (zDh js ls)).sum
theorem area_snoc (js : List Joint) (ls : List Lead) (l : List Side) (s : Side) : zBd js ls (l ++ [s]) = zBd js ls l + zDh js ls s:=by simp [zBd]
theorem area_take {js : List Joint} {ls : List Lead} {l : List Side} {k : Nat} {s : Side} (h : l[k]? = some s) : zBd js ls (l.take (k + 1)) = zBd js ls (l.take k) + zDh js ls s:=by
 rw [List.take_add_one,h];exact area_snoc _ _ _ _
theorem step_small {js : List Joint} {ls : List Lead} (hsm : ∀ id,zAy (ptA js id)) (s : Side) : -33554432 ≤ zDh js ls s∧zDh js ls s ≤ 33554432:=by
 obtain ⟨a1,a2,a3,a4⟩:=hsm (zAl ls s).1;obtain ⟨b1,b2,b3,b4⟩:=hsm (zAl ls s).2;unfold zDh;obtain ⟨p0,q0⟩:=zBt (x:=(ptA js (zAl ls s).1).x) (y:=(ptA js (zAl ls s).2).y) (by omega) (by omega) (by omega) (by omega);obtain ⟨p1,q1⟩:=zBt (x:=(ptA js (zAl ls s).2).x) (y:=(ptA js (zAl ls s).1).y) (by omega) (by omega) (by omega) (by omega);omega
theorem zF6 {js : List Joint} {ls : List Lead} (hsm : ∀ id,zAy (ptA js id)) : ∀ l : List Side, -33554432 * (l.length : Int) ≤ zBd js ls l∧zBd js ls l ≤ 33554432 * (l.length : Int)
 | []=>by simp [zBd]
 | s :: l=>by
  have h:=zF6 (ls:=ls) hsm l;have k:=step_small (ls:=ls) hsm s;have e : zBd js ls (s :: l) = zDh js ls s + zBd js ls l:=by simp [zBd]
  rw [e,List.length_cons];omega
theorem area_wrap {js : List Joint} {ls : List Lead} (hsm : ∀ id,zAy (ptA js id)) {l : List Side} {k : Nat} {s : Side} (h : l[k]? = some s) (hl : l.length ≤ 4294967296) :
  IntKind.i64.wrap (zBd js ls (l.take k) + zDh js ls s) = zBd js ls (l.take (k + 1)):=by
 rw [← area_take h];have k1:=zF6 (ls:=ls) hsm (l.take (k + 1));have k2 : (l.take (k + 1)).length ≤ 4294967296:=by rw [List.length_take];omega
 exact IntWalk.i64_in _ (by omega)
theorem zA5.at_map {w W : World} {b : Nat} {sj : Sl Joint} {sl : Sl Lead} (h : zA5 w b sj sl) (hB : Below w.heap.size w W) : ∃ ba,b < W.drew.heap.size∧W.drew.cell? ⟨b,2,none⟩ = some (.map (some ba))∧MapAt vi zAL I64 W.drew ba (zA7 sj.val):=by
 obtain ⟨ba,bl,bo,N,mo,hbN,haN,hlN,hoN,hb,hma,hml,hmo,HO⟩:=h.below hB;exact ⟨ba,hb.lt,(hb.cell 2).trans rfl,hma.of_block rfl⟩
theorem area_any {b : Nat} {sj : Sl Joint} {sl : Sl Lead} (V : ValidW sj.val sl.val) {D : Nat→Prop} {ok : (Nat→Prop)→World→Side→Prop} (s : Sl Side) (hI : ∀ x ∈ s.val,I64 x.lead) (w : World) (hN : zA5 w b sj sl) (hs : s.OK 2 zAa ok D w) :
  Calls Tryz.prog 108 #[.pointer (some ⟨b,0,none⟩), .slice s.a s.val.length s.cap] w fun e w'=>e = .returned (.int .i64 (zBd sj.val sl.val s.val))∧Below w.heap.size w w':=by
 have hroom:=hs.room;have hsm:=V.small;have HS:=zz hs;have HN:=zz hN;have HI:=zz hI;have HW : Hid (∀ (k : Nat) (x : Side),s.val[k]? = some x→IntKind.i64.wrap (zBd sj.val sl.val (s.val.take k) + zDh sj.val sl.val x) = zBd sj.val sl.val (s.val.take (k + 1))):=zz fun k x h=>area_wrap hsm h hroom;have HSM:=zz hsm;have HEI:=zz V.endI;clear hs hN hI V hsm;obtain ⟨a,cap,val⟩:=s;simp only at hroom;go_enter Tryz.func108,Tryz.ntmps108;go_wp2
 go_loopw [5,12] (fun sm i wr=>∃ k : Nat,k ≤ val.length∧i = .int .i64 k∧sm = .int .i64 (zBd sj.val sl.val (val.take k))∧Below w.heap.size w wr) (fun _ i _=>val.length - (intOf i).toNat)
 case atStart=>exact ⟨0,Nat.zero_le _,rfl,by simp [zBd],Below.refl _ _⟩
 case round=>
  obtain ⟨k,hk,rfl,rfl,hB⟩:=hrel
  by_cases hlt : k < val.length
  ·obtain ⟨x,hx⟩ : ∃ x,val[k]? = some x:=⟨_,List.getElem?_eq_getElem hlt⟩
   have HX:=zz hx;obtain ⟨bb,o,rfl,hbb,_,_,hcell⟩:=HS.out.at hx;have HC : Hid (∀ j,j < (zAa x).size→wr.cell? ⟨bb,o + k * 2 + j,none⟩ = (zAa x)[j]?):=zz fun j hj=>by
    rw [(Ext.of_below (D:=fun _=>False) hB).cell hbb id];exact hcell j hj
   have hIx : Hid (I64 x.lead):=zz (HI.out x (List.mem_of_getElem? hx));have h7 : zAe (wr.alloc (.cells (zAa x) 59)) wr.heap.size 59 (zAa x):=zAe.new _ _ _;have hB2 : Below w.heap.size w (wr.alloc (.cells (zAa x) 59)):=hB.alloc hB.size _;obtain ⟨pa,hpa⟩ : ∃ p,ptA sj.val (zAl sl.val x).1 = p:=⟨_,rfl⟩
   obtain ⟨pb,hpb⟩ : ∃ p,ptA sj.val (zAl sl.val x).2 = p:=⟨_,rfl⟩
   have HPA : Hid ((atA sj.val (zAl sl.val x).1).getD zAF = pa):=zz hpa;have HPB : Hid ((atA sj.val (zAl sl.val x).2).getD zAF = pb):=zz hpb;obtain ⟨a1,a2,a3,a4⟩ : zAy pa:=hpa ▸ HSM.out (zAl sl.val x).1;obtain ⟨b1,b2,b3,b4⟩ : zAy pb:=hpb ▸ HSM.out (zAl sl.val x).2;have HST : Hid (zDh sj.val sl.val x = pa.x * pb.y - pb.x * pa.y):=zz (by unfold zDh;rw [hpa,hpb]);have IA:=zz (HEI.out x).1;have IB:=zz (HEI.out x).2;have hkw:=HW.out k x hx;rw [HST.out] at hkw;obtain ⟨p0,q0⟩:=zBt (x:=pa.x) (y:=pb.y) (by omega) (by omega) (by omega) (by omega);obtain ⟨p1,q1⟩:=zBt (x:=pb.x) (y:=pa.y) (by omega) (by omega) (by omega) (by omega);have k0 : IntKind.i64.wrap (pa.x * pb.y) = pa.x * pb.y:=IntWalk.i64_in _ (by omega);have k1 : IntKind.i64.wrap (pb.x * pa.y) = pb.x * pa.y:=IntWalk.i64_in _ (by omega);have k2 : IntKind.i64.wrap (pa.x * pb.y - pb.x * pa.y) = pa.x * pb.y - pb.x * pa.y:=IntWalk.i64_in _ (by omega);obtain ⟨A0,hA0⟩ : ∃ z,zBd sj.val sl.val (val.take k) = z:=⟨_,rfl⟩
   obtain ⟨A1,hA1⟩ : ∃ z,zBd sj.val sl.val (val.take (k + 1)) = z:=⟨_,rfl⟩
   have HA1:=zz hA1;simp only [hA0,hA1] at hkw ⊢;obtain ⟨j1,hj1⟩ : ∃ z,(zAl sl.val x).1 = z:=⟨_,rfl⟩
   obtain ⟨j2,hj2⟩ : ∃ z,(zAl sl.val x).2 = z:=⟨_,rfl⟩
   have HE : Hid (Calls Tryz.prog 111 #[.pointer (some ⟨b,0,none⟩), .agg (zAa x)] (wr.alloc (.cells (zAa x) 59)) fun e w'=>e = .returned (.tuple #[.int .i64 j1, .int .i64 j2])∧Lays (wr.alloc (.cells (zAa x) 59)) w'):=zz (by
    rw [← hj1,← hj2];exact zEZ x hIx.out _ (HN.out.below hB2))
   rw [hj1] at HPA IA;rw [hj2] at HPB IB;clear hx hcell hpa hpb hA0 hA1 hj1 hj2
   go_wp2_with (first
    | ((with_reducible refine zAm 15 ?_);refine zLe 15 bb (o + k * 2) (zAa x) HC.out zuA ?_)
    | ((with_reducible refine zAv 59 ?_);refine zAk (cs:=zAa x) rfl 59 _ _ rfl rfl rfl rfl (by kernel_rfl) rfl (zAn _) ?_)
    | (refine zLd 18 h7 (zAa x) zuA ?_)
    | (go_at_call 111;refine HE.out.mono ?_;rintro e w2 ⟨rfl,l2⟩;have hB3:=hB2.trans ((l2.below (Nat.le_refl _)).mono hB2.size);obtain ⟨ba,hbl,hcm,hmd⟩:=zA5.at_map HN.out hB3))
   refine rgO [(0,true),(1,true),(2,true),(3,true),(4,true),(5,true),(6,true),(7,true),(8,true),(9,true),(10,true),(11,true),(12,true),(13,true),(14,true),(15,true),(16,true),(17,true),(18,true),(19,true),(20,true),(21,true),(22,true),(23,true),(24,true),(25,true),(26,true),(27,true),(28,true),(29,true),(30,true),(31,true),(32,true),(33,true)] ?_;iterate 4 (refine wB rfl ?_;simp only [pT])
   refine zAf (v:=.map (some ba)) rfl rfl (fun W hW=>by have e : W.cell? ⟨b,2,none⟩ = some (.map (some ba)):=(hW.cell (p:=⟨b,2,none⟩) hbl).trans hcm;go_simp) ?_;simp only [pT];refine wB rfl ?_;simp only [pT];refine zAf (v:=zAL pa) rfl rfl (fun W hW=>Eq.trans (zA6 zAQ zuF zAF (zBq _) rfl (hmd.below hW hmd.lt) j1 IA.out rfl) (by rw [zBf,HPA.out];rfl)) ?_;simp only [pT];refine zAf (v:=.int .i64 pa.x) rfl rfl (fun W hW=>by go_simp;rw [field_pt0];rfl) ?_;simp only [pT];iterate 3 (refine wB rfl ?_;simp only [pT])
   refine zAf (v:=.map (some ba)) rfl rfl (fun W hW=>by have e : W.cell? ⟨b,2,none⟩ = some (.map (some ba)):=(hW.cell (p:=⟨b,2,none⟩) hbl).trans hcm;go_simp) ?_;simp only [pT];refine wB rfl ?_;simp only [pT];refine zAf (v:=zAL pb) rfl rfl (fun W hW=>Eq.trans (zA6 zAQ zuF zAF (zBq _) rfl (hmd.below hW hmd.lt) j2 IB.out rfl) (by rw [zBf,HPB.out];rfl)) ?_;simp only [pT];refine zAf (v:=.int .i64 pb.y) rfl rfl (fun W hW=>by go_simp;rw [field_pt1];rfl) ?_;simp only [pT];iterate 4 (refine wB rfl ?_;simp only [pT])
   refine zAf (v:=.map (some ba)) rfl rfl (fun W hW=>by have e : W.cell? ⟨b,2,none⟩ = some (.map (some ba)):=(hW.cell (p:=⟨b,2,none⟩) hbl).trans hcm;go_simp) ?_;simp only [pT];refine wB rfl ?_;simp only [pT];refine zAf (v:=zAL pb) rfl rfl (fun W hW=>Eq.trans (zA6 zAQ zuF zAF (zBq _) rfl (hmd.below hW hmd.lt) j2 IB.out rfl) (by rw [zBf,HPB.out];rfl)) ?_;simp only [pT];refine zAf (v:=.int .i64 pb.x) rfl rfl (fun W hW=>by go_simp;rw [field_pt0];rfl) ?_;simp only [pT];iterate 3 (refine wB rfl ?_;simp only [pT])
   refine zAf (v:=.map (some ba)) rfl rfl (fun W hW=>by have e : W.cell? ⟨b,2,none⟩ = some (.map (some ba)):=(hW.cell (p:=⟨b,2,none⟩) hbl).trans hcm;go_simp) ?_;simp only [pT];refine wB rfl ?_;simp only [pT];refine zAf (v:=zAL pa) rfl rfl (fun W hW=>Eq.trans (zA6 zAQ zuF zAF (zBq _) rfl (hmd.below hW hmd.lt) j1 IA.out rfl) (by rw [zBf,HPA.out];rfl)) ?_;simp only [pT];refine zAf (v:=.int .i64 pa.y) rfl rfl (fun W hW=>by go_simp;rw [field_pt1];rfl) ?_;simp only [pT];iterate 4 (refine wB rfl ?_;simp only [pT])
   simp only [wpB];go_wp2;go_roundw
   case rel=>exact ⟨k + 1,by omega,by go_num,by rw [HA1.out],hB3.drew⟩
   case measure=>simp [intOf];omega
  ·have hkv : k = val.length:=by omega
   subst hkv;go_wp2;go_ret;exact ⟨by rw [List.take_length];rfl,hB⟩
end Go.Proofs.YtbbblemfodpmaaaGreat
end
section
namespace Go.Proofs.YtbbblemfodpmaaaGreat
open Go.RowKit
def zEf (js : List Joint) (ls : List Lead) (s : Side) : Int:=if (zAK js ls).1 ≠ 0 then (zAK js ls).1 else if (zBT ls s.lead).isSome = true then 0 else 3
theorem zC9 {js : List Joint} {ls : List Lead} {s : Side} (h : zEf js ls s = 0) : (zAK js ls).1 = 0∧(zBT ls s.lead).isSome = true:=by
 unfold zEf at h
 split at h
 ·rename_i h1;exact absurd h h1
 ·rename_i h1;refine ⟨by simpa using h1, ?_⟩
  split at h
  ·assumption
  ·cases h
theorem side_of {ls : List Lead} {s : Side} (h : (zBT ls s.lead).isSome = true) : zAM ls s:=by
 obtain ⟨l,hl⟩:=Option.isSome_iff_exists.1 h;have h1:=List.find?_some hl;exact ⟨l,List.mem_of_find?_eq_some hl,by simpa using h1⟩
theorem zF7 (sj : Sl Joint) (sl : Sl Lead) (s : Side) (w : World) (hj : sj.OK 3 zAh zAs (fun _=>False) w) (hl : sl.OK 8 zAd zAA (fun _=>False) w) (hi : I64 s.lead) (h0 : zEf sj.val sl.val s = 0) :
  Calls Tryz.prog 100 #[.agg #[.slice sj.a sj.val.length sj.cap, .slice sl.a sl.val.length sl.cap], .agg (zAa s)] w (NetOut sj sl w):=sided_ok sj sl s w hj hl hi (zC9 h0).1 (zC9 h0).2
theorem Walk_ok (sj : Sl Joint) (sl : Sl Lead) (s : Side) (w : World) (hj : sj.OK 3 zAh zAs (fun _=>False) w) (hl : sl.OK 8 zAd zAA (fun _=>False) w) (hi : I64 s.lead) (h0 : zEf sj.val sl.val s = 0) :
  Calls Tryz.prog 35 #[.agg #[.slice sj.a sj.val.length sj.cap, .slice sl.a sl.val.length sl.cap], .agg (zAa s)] w fun e w'=>∃ v,e = .returned (.tuple #[v, .int .i64 0])∧OwnL zAa 2 w' w.heap.size 59 v (zAH sj.val sl.val s)∧Below w.heap.size w w':=by
 have hL : Lays w ((w.alloc (.cells #[.slice sj.a sj.val.length sj.cap, .slice sl.a sl.val.length sl.cap] 25)).alloc (.cells (zAa s) 59)):=((Lays.refl w).alloc _).alloc _;have hB : Below w.heap.size w ((w.alloc (.cells #[.slice sj.a sj.val.length sj.cap, .slice sl.a sl.val.length sl.cap] 25)).alloc (.cells (zAa s) 59)):=hL.below (Nat.le_refl _);have hb : zAe ((w.alloc (.cells #[.slice sj.a sj.val.length sj.cap, .slice sl.a sl.val.length sl.cap] 25)).alloc (.cells (zAa s) 59)) w.heap.size 25 #[.slice sj.a sj.val.length sj.cap, .slice sl.a sl.val.length sl.cap]:=(zAe.new _ _ _).alloc _;have hc : zAe ((w.alloc (.cells #[.slice sj.a sj.val.length sj.cap, .slice sl.a sl.val.length sl.cap] 25)).alloc (.cells (zAa s) 59)) (w.heap.size + 1) 59 (zAa s):=by have h:=zAe.new (w.alloc (.cells #[.slice sj.a sj.val.length sj.cap, .slice sl.a sl.val.length sl.cap] 25)) 59 (zAa s);rw [World.size_alloc] at h;exact h
 have HS:=zz (zF7 sj sl s ((w.alloc (.cells #[.slice sj.a sj.val.length sj.cap, .slice sl.a sl.val.length sl.cap] 25)).alloc (.cells (zAa s) 59)) (hj.jmoved hB) (hl.lmoved hB) hi h0);have HV:=zz (zDB (zC9 h0).1);have HI:=zz (side_of (zC9 h0).2);clear hj hl hi h0;go_enter Tryz.func35,Tryz.ntmps35
 go_wp2_with (first
  | (refine zLd 9 hb #[.slice sj.a sj.val.length sj.cap, .slice sl.a sl.val.length sl.cap] zuC ?_)
  | (refine zLd 10 hc (zAa s) zuA ?_)
  | (go_at_call 100;refine HS.out.mono ?_;rintro e w1 ⟨b,rfl,hbb,hn1,hb1⟩;have hB1:=hB.trans (hb1.mono hB.size);have g1:=hc.belowAll hb1)
  | (refine zLd 18 g1 (zAa s) zuA ?_)
  | (go_at_call 107;(with_reducible refine (walk_any _ _ _).mono ?_);rintro e w2 ⟨rfl,hw2⟩;have hb2 : Below w1.heap.size w1 w2:=(by rw [hw2];exact (((Lays.refl w1).alloc _).alloc _).below (Nat.le_refl _));have q1 : zAe w2 w1.heap.size 109 #[.pointer (some ⟨b,0,none⟩)]:=(by rw [hw2];exact (zAe.new _ _ _).alloc _);have q2 : zAe w2 (w1.heap.size + 1) 59 (zAa s):=(by rw [hw2];have h:=zAe.new (w1.alloc (.cells #[.pointer (some ⟨b,0,none⟩)] 109)) 59 (zAa s);rw [World.size_alloc] at h;exact h);have hB2:=hB1.trans (hb2.mono hB1.size);have hn2:=hn1.below hb2;clear hw2)
  | (go_at_call 106;(with_reducible refine (zEe HV.out s HI.out b (w1.heap.size + 1) w1.heap.size w2 hn2 q2 q1).mono ?_);rintro e w3 ⟨v,rfl,ho,hb3⟩;have hB3:=hB2.trans (hb3.mono hB2.size)))
 go_ret2;exact ⟨_,rfl,OwnL.base_le ho hB2.size,hB3⟩
theorem Area_ok (sj : Sl Joint) (sl : Sl Lead) (s : Side) (w : World) (hj : sj.OK 3 zAh zAs (fun _=>False) w) (hl : sl.OK 8 zAd zAA (fun _=>False) w) (hi : I64 s.lead) (h0 : zEf sj.val sl.val s = 0) :
  Calls Tryz.prog 37 #[.agg #[.slice sj.a sj.val.length sj.cap, .slice sl.a sl.val.length sl.cap], .agg (zAa s)] w fun e w'=>e = .returned (.tuple #[.int .i64 (zBd sj.val sl.val (zAH sj.val sl.val s)), .int .i64 0])∧Below w.heap.size w w':=by
 have hL : Lays w ((w.alloc (.cells #[.slice sj.a sj.val.length sj.cap, .slice sl.a sl.val.length sl.cap] 25)).alloc (.cells (zAa s) 59)):=((Lays.refl w).alloc _).alloc _;have hB : Below w.heap.size w ((w.alloc (.cells #[.slice sj.a sj.val.length sj.cap, .slice sl.a sl.val.length sl.cap] 25)).alloc (.cells (zAa s) 59)):=hL.below (Nat.le_refl _);have hb : zAe ((w.alloc (.cells #[.slice sj.a sj.val.length sj.cap, .slice sl.a sl.val.length sl.cap] 25)).alloc (.cells (zAa s) 59)) w.heap.size 25 #[.slice sj.a sj.val.length sj.cap, .slice sl.a sl.val.length sl.cap]:=(zAe.new _ _ _).alloc _;have hc : zAe ((w.alloc (.cells #[.slice sj.a sj.val.length sj.cap, .slice sl.a sl.val.length sl.cap] 25)).alloc (.cells (zAa s) 59)) (w.heap.size + 1) 59 (zAa s):=by have h:=zAe.new (w.alloc (.cells #[.slice sj.a sj.val.length sj.cap, .slice sl.a sl.val.length sl.cap] 25)) 59 (zAa s);rw [World.size_alloc] at h;exact h
 have HS:=zz (zF7 sj sl s ((w.alloc (.cells #[.slice sj.a sj.val.length sj.cap, .slice sl.a sl.val.length sl.cap] 25)).alloc (.cells (zAa s) 59)) (hj.jmoved hB) (hl.lmoved hB) hi h0);have HV:=zz (zDB (zC9 h0).1);have HI:=zz (side_of (zC9 h0).2);have HAR : Hid (∀ (W : World) (v : Value) {b N : Nat},zA5 W b sj sl→OwnL zAa 2 W N 59 v (zAH sj.val sl.val s)→Calls Tryz.prog 108 #[.pointer (some ⟨b,0,none⟩),v] W fun e w'=>e = .returned (.int .i64 (zBd sj.val sl.val (zAH sj.val sl.val s)))∧Below W.heap.size W w'):=zz fun W v b N hN ho=>by
  obtain ⟨t,ht,hts,htok,_⟩:=ho.sl (fun _=>rfl) (fun _ _ _=>True) (fun _=>False) (fun _ _=>trivial) (fun _ _ h=>h) (Nat.le_trans (zDC HV.out HI.out) (by omega));rw [ht];have h:=area_any HV.out t (fun x hx=>by
   rw [hts] at hx;obtain ⟨l,hl,e⟩:=(HV.out.walk_next HI.out hx).1;rw [← e];exact (HV.out.leadI hl).1) W hN htok
  rw [hts] at h;rw [show t.v = .slice t.a (zAH sj.val sl.val s).length t.cap by rw [← hts];rfl];exact h
 clear hj hl hi h0;go_enter Tryz.func37,Tryz.ntmps37
 go_wp2_with (first
  | (refine zLd 9 hb #[.slice sj.a sj.val.length sj.cap, .slice sl.a sl.val.length sl.cap] zuC ?_)
  | (refine zLd 10 hc (zAa s) zuA ?_)
  | (go_at_call 100;refine HS.out.mono ?_;rintro e w1 ⟨b,rfl,hbb,hn1,hb1⟩;have hB1:=hB.trans (hb1.mono hB.size);have g1:=hc.belowAll hb1)
  | (refine zLd 19 g1 (zAa s) zuA ?_)
  | (go_at_call 107;(with_reducible refine (walk_any _ _ _).mono ?_);rintro e w2 ⟨rfl,hw2⟩;have hb2 : Below w1.heap.size w1 w2:=(by rw [hw2];exact (((Lays.refl w1).alloc _).alloc _).below (Nat.le_refl _));have q1 : zAe w2 w1.heap.size 109 #[.pointer (some ⟨b,0,none⟩)]:=(by rw [hw2];exact (zAe.new _ _ _).alloc _);have q2 : zAe w2 (w1.heap.size + 1) 59 (zAa s):=(by rw [hw2];have h:=zAe.new (w1.alloc (.cells #[.pointer (some ⟨b,0,none⟩)] 109)) 59 (zAa s);rw [World.size_alloc] at h;exact h);have hB2:=hB1.trans (hb2.mono hB1.size);have hn2:=hn1.below hb2;clear hw2)
  | (go_at_call 106;(with_reducible refine (zEe HV.out s HI.out b (w1.heap.size + 1) w1.heap.size w2 hn2 q2 q1).mono ?_);rintro e w3 ⟨v,rfl,ho,hb3⟩;have hB3:=hB2.trans (hb3.mono hB2.size);have hn3:=hn2.below hb3)
  | (go_at_call 108;(with_reducible refine (HAR.out w3 v hn3 ho).mono ?_);rintro e w4 ⟨rfl,hb4⟩))
 go_ret2;exact ⟨rfl,hB3.trans (hb4.mono hB3.size)⟩
end Go.Proofs.YtbbblemfodpmaaaGreat
end
section
namespace Go.Proofs.YtbbblemfodpmaaaGreat
open Go.RowKit
def zBV (s : Sl Side) : Array Value:=#[.slice s.a s.val.length s.cap]
theorem zEt (s : Sl Side) : (zBV s).all (·.oneCell') = true:=by simp [zBV,Value.oneCell']
theorem zE0 : zBU Tryz.prog 67 62 1 24:=⟨Tryz.underlying67,by kernel_rfl⟩
def zAW (W : World) (N : Nat) (v : Value) (L : List (List Side)) : Prop:=∃ ss : List (Sl Side),OwnL zBV 1 W N 62 v ss∧(∀ s ∈ ss,OwnL zAa 2 W N 59 s.v s.val)∧ss.map Sl.val = L
theorem OwnL.cellsAt {α : Type} {enc : α→Array Value} {sz : Nat} {W : World} {N : Nat} {T : TypeId} {v : Value} {l : List α} (h : OwnL enc sz W N T v l) {g : Nat} (hg : v.ownBlock = some g) : N ≤ g∧∃ cur,W.heap[g]? = some (.cells cur T (0,0)):=⟨(h.block g hg).1,(h.cells_at hg).2⟩
theorem zAW.kept {W W' : World} {N : Nat} {v : Value} {L : List (List Side)} (h : zAW W N v L) (hb : ∀ g cur T,W.heap[g]? = some (.cells cur T (0,0))→N ≤ g→W'.heap[g]? = W.heap[g]?) : zAW W' N v L:=by
 obtain ⟨ss,h1,h2,h3⟩:=h;refine ⟨ss,h1.kept fun g hg=>?_,fun s hs=>(h2 s hs).kept fun g hg=>?_,h3⟩
 ·obtain ⟨a,cur,b⟩:=h1.cellsAt hg;exact hb g cur _ b a
 ·obtain ⟨a,cur,b⟩:=(h2 s hs).cellsAt hg;exact hb g cur _ b a
theorem zAW.belowAll {W W' : World} {N : Nat} {v : Value} {L : List (List Side)} (h : zAW W N v L) (hb : Below W.heap.size W W') : zAW W' N v L:=h.kept fun g cur T hg _=>hb.block g (Array.getElem?_eq_some_iff.1 hg).1
theorem zAW.turn {W W' : World} {N b : Nat} {v : Value} {L : List (List Side)} (h : zAW W N v L) (hb : Turn b W W') (hN : b < N) : zAW W' N v L:=h.kept fun g cur T hg hn=>hb.block g (by omega)
theorem zAW.nil (W : World) (N : Nat) : zAW W N (.slice none 0 0) []:=⟨[],OwnL.nil _ _ _ _ _,by simp,rfl⟩
theorem zAW.append {W W' : World} {N : Nat} {v v' : Value} {ss : List (Sl Side)} {t : Sl Side} (h1 : OwnL zBV 1 W N 62 v ss) (h2 : ∀ s ∈ ss,OwnL zAa 2 W N 59 s.v s.val) (ht : OwnL zAa 2 W N 59 t.v t.val) (h' : OwnL zBV 1 W' N 62 v' (ss ++ [t])) (hg : W.grownBy W' v.ownBlock) :
  zAW W' N v' (ss.map Sl.val ++ [t.val]):=by
 have key : ∀ s : Sl Side,OwnL zAa 2 W N 59 s.v s.val→OwnL zAa 2 W' N 59 s.v s.val:=fun s hs=>hs.kept fun g hgs=>by
  obtain ⟨a,cur,b⟩:=hs.cellsAt hgs;refine hg.block g (Array.getElem?_eq_some_iff.1 b).1 fun e=>?_;obtain ⟨_,cur2,b2⟩:=h1.cellsAt e.symm;rw [b] at b2;cases b2
 refine ⟨ss ++ [t],h',fun s hs=>?_,by simp⟩
 rcases List.mem_append.1 hs with hs | hs
 ·exact key s (h2 s hs)
 ·obtain rfl : s = t:=by simpa using hs
  exact key s ht
def vBool (b : Bool) : Value:=.bool b
structure WI (w : World) (acc : List (List Side)) (m : List (Side × Bool)) (v : Value) (W : World) : Prop where
 map : MapAt zCv vBool (fun _=>True) W w.heap.size m
 seen : ∀ s,aget m s = if s ∈ acc.flatten then some true else none
 out : zAW W (w.heap.size + 1) v acc
 below : Below w.heap.size w W
theorem WI.belowAll {w W W' : World} {acc : List (List Side)} {m : List (Side × Bool)} {v : Value} (h : WI w acc m v W) (hb : Below W.heap.size W W') : WI w acc m v W':=
 ⟨h.map.below hb h.map.lt,h.seen,h.out.belowAll hb,h.below.trans (hb.mono h.below.size)⟩
theorem sideSeen_put {m : List (Side × Bool)} {P : Side→Prop} [DecidablePred P] (h : ∀ s,aget m s = if P s then some true else none) (t s : Side) : aget (aput m t true) s = if s = t ∨ P s then some true else none:=by
 rw [zBS,h s]
 by_cases e : s = t
 ·simp [e]
 ·simp [e]
theorem zAU {α : Type} {enc : α→Array Value} {sz : Nat} {P : Program} {w : World} {ops : Array Oper} {rest : List Oper} {o : Oper} {a : Act} {Q : Exit→Act→World→Prop} (hgd : o.guard = none) (s x : Operand) (t : TypeId)
  (ho : o.op = .call { callee:=.builtin .append,args:=#[s,x],argTypes:=#[t,t] })
  (base : Nat) {e : TypeId} {bytes : Nat} (hE : zBU P t e sz bytes) (hsz : ∀ x,(enc x).size = sz) (h0 : 0 < sz) (hone : ∀ x,(enc x).all (·.oneCell') = true) (hby : bytes ≤ 10000)
  (v : Value) (l : List α) (hs : a.eval s = v) (hown : OwnL enc sz w base e v l)
  (b off c : Nat) (y : α) (hx : a.eval x = .slice (some ⟨b,off,none⟩) 1 c) (hy : ∀ j,j < sz→w.cell? ⟨b,off + j,none⟩ = (enc y)[j]?)
  (hlen : l.length + 1 ≤ 4294967296) (hbase : base ≤ w.heap.size)
  (h : ∀ v' w',OwnL enc sz w' base e v' (l ++ [y])→w.grownBy w' v.ownBlock→(v'.ownBlock = v.ownBlock ∨ v'.ownBlock = some w.heap.size)→wpList P ops Q rest (a.put o.dst v') w') : wpList P ops Q (o :: rest) a w:=
 wpList_plain hgd fun K hK=>zCa s x t ho base hE hsz h0 hone hby v l hs hown b off c y hx hy hlen hbase fun v' w' a1 a2 a3=>hK _ _ (h v' w' a1 a2 a3)
theorem OwnL.elem {W : World} {N g cap n : Nat} {l : List Side} (h : OwnL zAa 2 W N 59 (.slice (some ⟨g,0,none⟩) n cap) l) {k : Nat} {x : Side} (hk : l[k]? = some x) (hl : l.length ≤ 4294967296) : ∀ j,j < (zAa x).size→W.cell? ⟨g,0 + k * 2 + j,none⟩ = (zAa x)[j]?:=by
 obtain ⟨t,ht,hts,htok,_⟩:=h.sl (fun _=>rfl) (fun _ _ _=>True) (fun _=>False) (fun _ _=>trivial) (fun _ _ h=>h) hl;subst hts;simp only [Sl.v,Value.slice.injEq] at ht;obtain ⟨b,o,h1,_,_,_,h2⟩:=htok.at hk;rw [h1] at ht;have e:=ht.1;simp at e;obtain ⟨rfl,rfl⟩:=e;exact fun j hj=>h2 j hj
theorem own_slice {W : World} {N : Nat} {v : Value} {l : List Side} (h : OwnL zAa 2 W N 59 v l) (hl : l ≠ []) : ∃ g cap,v = .slice (some ⟨g,0,none⟩) l.length cap:=by
 rcases h.2 with ⟨_,h0⟩ | ⟨g,cap,cur,rfl,_⟩
 ·exact absurd (List.eq_nil_of_length_eq_zero h0) hl
 ·exact ⟨g,cap,rfl⟩
theorem zDW {js : List Joint} {ls : List Lead} (V : ValidW js ls) : ∀ (l : List Side) (acc : List (List Side)),(l.foldl (zA3 js ls) acc).length ≤ acc.length + l.length
 | [],acc=>by simp
 | s :: l,acc=>by
  have h:=zDW V l (zA3 js ls acc s);have h2 : (zA3 js ls acc s).length ≤ acc.length + 1:=by
   unfold zA3
   split
   ·omega
   ·simp
  simp only [List.foldl_cons,List.length_cons];omega
theorem sides_take (ls : List Lead) {k : Nat} {x : Lead} (h : ls[k]? = some x) : zBz (ls.take (k + 1)) = zBz (ls.take k) ++ [⟨x.id,false⟩,⟨x.id,true⟩]:=by
 rw [List.take_add_one,h];generalize ls.take k = l
 induction l with
 | nil=>rfl
 | cons y l ih=>simp only [List.cons_append,zBz];rw [ih]
theorem walks_any {b : Nat} {sj : Sl Joint} {sl : Sl Lead} (V : ValidW sj.val sl.val) (w : World) (hN : zA5 w b sj sl) (hl : sl.OK 8 zAd zAA (fun _=>False) w) :
  Calls Tryz.prog 96 #[.pointer (some ⟨b,0,none⟩)] w fun e w'=>∃ v,e = .returned v∧zAW w' (w.heap.size + 1) v (zBv sj.val sl.val)∧Below w.heap.size w w':=by
 have HV:=zz V;have HN:=zz hN;have HS:=zz hl;have hnl:=V.nl;have hmm:=@run_makeMap Tryz.prog;have h0 : WI w [] [] (.slice none 0 0) (w.alloc (.map #[] 0)):=⟨MapAt.made _ _ _ _,by simp [aget],zAW.nil _ _,(Below.refl _ _).alloc (Nat.le_refl _) _⟩
 have H0:=zz h0;have c1 : (w.alloc (.map #[] 0)).cell? ⟨b,1,none⟩ = some (.slice sl.a sl.val.length sl.cap):=by
  obtain ⟨ba,bl,bo,N,mo,hbN,haN,hlN,hoN,hb,_⟩:=hN.below h0.below;exact (hb.cell 1).trans rfl
 clear hN hl V h0;obtain ⟨al,cl,ls⟩:=sl;simp only at hnl c1 ⊢;go_enter Tryz.func96,Tryz.ntmps96;go_wp2
 go_loopw [3,19] (fun v i wr=>∃ (k : Nat) (m : List (Side × Bool)),k ≤ ls.length∧i = .int .i64 k∧Hid (WI w ((zBz (ls.take k)).foldl (zA3 sj.val ls) []) m v wr)) (fun _ i _=>ls.length - (intOf i).toNat)
 case atStart=>exact ⟨0,[],Nat.zero_le _,rfl,H0⟩
 case round=>
  obtain ⟨k,m,hk,rfl,hI⟩:=hrel
  by_cases hlt : k < ls.length
  ·obtain ⟨x,hx⟩ : ∃ x,ls[k]? = some x:=⟨_,List.getElem?_eq_getElem hlt⟩
   have HX:=zz hx;have HXM : Hid (x ∈ ls):=zz (List.mem_of_getElem? hx);obtain ⟨bb,o,rfl,hbb,_,_,hcell⟩:=HS.out.at hx;have HC : Hid (∀ j,j < (zAd x).size→wr.cell? ⟨bb,o + k * 8 + j,none⟩ = (zAd x)[j]?):=zz fun j hj=>by
    rw [(Ext.of_below (D:=fun _=>False) hI.out.below).cell hbb id];exact hcell j hj
   have h6 : zAe (wr.alloc (.cells (zAd x) 31)) wr.heap.size 31 (zAd x):=zAe.new _ _ _;have q6:=(h6.cell 0).trans (show _ = some (.int .i64 x.id) from rfl);obtain ⟨acc0,hacc0⟩ : ∃ a,(zBz (ls.take k)).foldl (zA3 sj.val ls) [] = a:=⟨_,rfl⟩
   have HA0:=zz hacc0;rw [hacc0] at hI;have HL : Hid (acc0.length ≤ 800):=zz (by
    have h:=zDW HV.out (zBz (ls.take k)) [];rw [hacc0,zB7,List.length_take] at h;simp at h;omega)
   have HB6 : Hid (Below wr.heap.size wr (wr.alloc (.cells (zAd x) 31))):=zz ((Below.refl _ _).alloc (Nat.le_refl _) _);have HI6 : Hid (WI w acc0 m u3 (wr.alloc (.cells (zAd x) 31))):=zz (hI.out.belowAll HB6.out);clear hx hcell hacc0 h6 hI
   go_wp2_with (first
    | ((with_reducible refine zAm 22 ?_);refine zLe 22 bb (o + k * 8) (zAd x) HC.out zuD ?_)
    | ((with_reducible refine zAv 31 ?_);refine zAk (cs:=zAd x) rfl 31 _ _ rfl rfl rfl rfl (by kernel_rfl) rfl (zA9 _) ?_))
   have HB7 : Below (wr.alloc (.cells (zAd x) 31)).heap.size (wr.alloc (.cells (zAd x) 31)) ((wr.alloc (.cells (zAd x) 31)).alloc (.cells #[.int .i64 x.id, .bool false, .int .i64 x.id, .bool true] 59)):=(Below.refl _ _).alloc (Nat.le_refl _) _;have HI7:=zz (HI6.out.belowAll HB7);have HG7 : Hid (zAe ((wr.alloc (.cells (zAd x) 31)).alloc (.cells #[.int .i64 x.id, .bool false, .int .i64 x.id, .bool true] 59)) (wr.heap.size + 1) 59 #[.int .i64 x.id, .bool false, .int .i64 x.id, .bool true]):=zz (by have h:=zAe.new (wr.alloc (.cells (zAd x) 31)) 59 #[.int .i64 x.id, .bool false, .int .i64 x.id, .bool true];rw [World.size_alloc] at h;exact h);obtain ⟨g,hg⟩ : ∃ g,wr.heap.size + 1 = g:=⟨_,rfl⟩
   have hwg : w.heap.size + 1 ≤ g:=by have:=HI6.out.below.size;simp at this;have:=HI6.out.map.lt;simp at this;omega
   rw [hg] at HG7;simp only [hg];clear hg HB7
   go_loopw [3,31] (fun v i wr=>∃ (q : Nat) (m2 : List (Side × Bool)),q ≤ 2∧i = .int .i64 q∧Hid (WI w (([⟨x.id,false⟩,⟨x.id,true⟩] : List Side).take q |>.foldl (zA3 sj.val ls) acc0) m2 v wr)∧Hid (zAe wr g 59 #[.int .i64 x.id, .bool false, .int .i64 x.id, .bool true])) (fun _ i _=>2 - (intOf i).toNat)
   case atStart=>exact ⟨0,m,by omega,rfl,HI7,HG7⟩
   case round=>
    obtain ⟨q,m2,hq,rfl,hI2,hG2⟩:=hrel
    by_cases hq2 : q < 2
    ·obtain ⟨t,ht⟩ : ∃ t,([⟨x.id,false⟩,⟨x.id,true⟩] : List Side)[q]? = some t:=⟨_,List.getElem?_eq_getElem hq2⟩
     have HT : Hid (zAM ls t):=zz ⟨x,HXM.out,by rcases q with _ | _ | q <;> simp at ht <;> subst ht <;> rfl⟩;have HCT : Hid (∀ j,j < (zAa t).size→wr.cell? ⟨g,q * 2 + j,none⟩ = (zAa t)[j]?):=zz fun j hj=>by
      rw [hG2.out.cell]
      rcases q with _ | _ | q
      ·simp at ht;subst ht;rcases j with _ | _ | j <;> first | rfl | (exfalso;have e2 : ∀ z,(zAa z).size = 2:=fun _=>rfl;rw [e2] at hj;omega)
      ·simp at ht;subst ht;rcases j with _ | _ | j <;> first | rfl | (exfalso;have e2 : ∀ z,(zAa z).size = 2:=fun _=>rfl;rw [e2] at hj;omega)
      ·omega
     obtain ⟨acc,hacc⟩ : ∃ a,(([⟨x.id,false⟩,⟨x.id,true⟩] : List Side).take q).foldl (zA3 sj.val ls) acc0 = a:=⟨_,rfl⟩
     have HACC : Hid ((([⟨x.id,false⟩,⟨x.id,true⟩] : List Side).take (q + 1)).foldl (zA3 sj.val ls) acc0 = zA3 sj.val ls acc t):=zz (by rw [List.take_add_one,ht,List.foldl_append,hacc];rfl);have HL2 : Hid (acc.length ≤ 802):=zz (by
      have h:=zDW HV.out (([⟨x.id,false⟩,⟨x.id,true⟩] : List Side).take q) acc0;rw [hacc,List.length_take] at h;have:=HL.out;simp at h;omega)
     rw [hacc] at hI2;have HB8 : Below wr.heap.size wr (wr.alloc (.cells (zAa t) 59)):=(Below.refl _ _).alloc (Nat.le_refl _) _;have HI8:=zz (hI2.out.belowAll HB8);have h8 : zAe (wr.alloc (.cells (zAa t) 59)) wr.heap.size 59 (zAa t):=zAe.new _ _ _;have HG8:=zz (hG2.out.belowAll HB8);have hm8:=HI8.out.map;obtain ⟨c,hc⟩ : ∃ c,acc.flatten.contains t = c:=⟨_,rfl⟩
     have HLK : Hid ((aget m2 t).getD false = c):=zz (by
      rw [hI2.out.seen t,← hc]
      by_cases h : t ∈ acc.flatten
      ·rw [if_pos h];simp;simpa using h
      ·rw [if_neg h];simp;simpa using h)
     have HCC:=zz hc;clear hc ht hacc HB8 hI2 hG2
     cases c
     case true=>
      go_wp2_with (first
       | ((with_reducible refine zAm 34 ?_);refine zLe 34 g (q * 2) (zAa t) HCT.out zuA ?_)
       | ((with_reducible refine zAv 59 ?_);refine zAk (cs:=zAa t) rfl 59 _ _ rfl rfl rfl rfl (by kernel_rfl) rfl (zAn _) ?_)
       | (refine zLd 36 h8 (zAa t) zuA ?_)
       | ((with_reducible refine zAm 37 ?_);refine zAY rfl _ _ 217 rfl sideKey Tryz.underlying217 false (by kernel_rfl) rfl hm8 t trivial rfl ?_;rw [HLK.out]))
      go_roundw
      case rel=>exact ⟨q + 1,m2,by omega,by go_num,zz (by rw [HACC.out];unfold zA3;rw [HCC.out];exact HI8.out),HG8⟩
      case measure=>simp [intOf];omega
     case false=>
      go_wp2_with (first
       | ((with_reducible refine zAm 34 ?_);refine zLe 34 g (q * 2) (zAa t) HCT.out zuA ?_)
       | ((with_reducible refine zAv 59 ?_);refine zAk (cs:=zAa t) rfl 59 _ _ rfl rfl rfl rfl (by kernel_rfl) rfl (zAn _) ?_)
       | (refine zLd 36 h8 (zAa t) zuA ?_)
       | ((with_reducible refine zAm 37 ?_);refine zAY rfl _ _ 217 rfl sideKey Tryz.underlying217 false (by kernel_rfl) rfl hm8 t trivial rfl ?_;rw [HLK.out])
       | (refine zLd 39 h8 (zAa t) zuA ?_)
       | (go_at_call 107;(with_reducible refine (walk_any _ _ _).mono ?_);rintro e w2 ⟨rfl,hw2⟩;have hb2 : Below (wr.alloc (.cells (zAa t) 59)).heap.size (wr.alloc (.cells (zAa t) 59)) w2:=(by rw [hw2];exact (((Lays.refl _).alloc _).alloc _).below (Nat.le_refl _));have q1 : zAe w2 (wr.alloc (.cells (zAa t) 59)).heap.size 109 #[.pointer (some ⟨b,0,none⟩)]:=(by rw [hw2];exact (zAe.new _ _ _).alloc _);have q2 : zAe w2 ((wr.alloc (.cells (zAa t) 59)).heap.size + 1) 59 (zAa t):=(by rw [hw2];have h:=zAe.new ((wr.alloc (.cells (zAa t) 59)).alloc (.cells #[.pointer (some ⟨b,0,none⟩)] 109)) 59 (zAa t);rw [World.size_alloc] at h;exact h);have HI9:=zz (HI8.out.belowAll hb2);have HG9:=zz (HG8.out.belowAll hb2);simp only [World.size_alloc] at q1 q2;clear hw2 hb2)
       | (go_at_call 106;refine (zEe HV.out t HT.out b (wr.heap.size + 1 + 1) (wr.heap.size + 1) w2 (HN.out.below HI9.out.below) q2 q1).mono ?_;rintro e w3 ⟨v9,rfl,ho,hb3⟩;have HI10:=zz (HI9.out.belowAll hb3);have HG10:=zz (HG9.out.belowAll hb3);obtain ⟨g9,cap9,rfl⟩:=own_slice ho (List.ne_nil_of_mem (self_mem HT.out));have HO:=zz (OwnL.base_le ho (show w.heap.size + 1 ≤ w2.heap.size from HI9.out.map.lt))))
      obtain ⟨xs,hxs⟩ : ∃ xs,zAH sj.val ls t = xs:=⟨_,rfl⟩
      have HXS:=zz hxs;have HXL : Hid (xs.length ≤ 800):=zz (by rw [← hxs];exact zDC HV.out HT.out);clear hxs;rw [HXS.out] at HO;simp only [HXS.out];have hs10:=HI10.out.seen
      go_loopw [44] (fun i wr=>∃ (r : Nat) (m3 : List (Side × Bool)),r ≤ xs.length∧i = .int .i64 r∧Hid (MapAt zCv vBool (fun _=>True) wr w.heap.size m3)∧Hid (∀ s,aget m3 s = if s ∈ xs.take r ∨ s ∈ acc.flatten then some true else none)∧
       Hid (zAW wr (w.heap.size + 1) u3 acc)∧Hid (OwnL zAa 2 wr (w.heap.size + 1) 59 (.slice (some ⟨g9,0,none⟩) xs.length cap9) xs)∧Hid (zAe wr g 59 #[.int .i64 x.id, .bool false, .int .i64 x.id, .bool true])∧Hid (Below w.heap.size w wr)) (fun i _=>xs.length - (intOf i).toNat)
      case atStart=>exact ⟨0,m2,Nat.zero_le _,rfl,zz HI10.out.map,zz (by intro s;rw [hs10 s];simp),zz HI10.out.out,HO,HG10,zz HI10.out.below⟩
      case round=>
       have hxl:=HXL.out;obtain ⟨r,m3,hr,rfl,hm3,hse3,hS3,hO3,hG3,hB3⟩:=hrel
       by_cases hrl : r < xs.length
       ·obtain ⟨y,hy⟩ : ∃ y,xs[r]? = some y:=⟨_,List.getElem?_eq_getElem hrl⟩
        have HCY : Hid (∀ j,j < (zAa y).size→wr.cell? ⟨g9,r * 2 + j,none⟩ = (zAa y)[j]?):=zz fun j hj=>by
         have h:=OwnL.elem hO3.out hy (by have:=HXL.out;omega) j hj;rw [Nat.zero_add] at h;exact h
        have HRL:=zz hrl;have HTK : Hid (xs.take (r + 1) = xs.take r ++ [y]):=zz (by rw [List.take_add_one,hy];rfl);have HB11 : Hid (Below wr.heap.size wr (wr.alloc (.cells (zAa y) 59))):=zz ((Below.refl _ _).alloc (Nat.le_refl _) _);have h11 : zAe (wr.alloc (.cells (zAa y) 59)) wr.heap.size 59 (zAa y):=zAe.new _ _ _;have hm11:=hm3.out.below HB11.out hm3.out.lt;clear hy
        go_wp2_with (first
         | ((with_reducible refine zAm 47 ?_);refine zLe 47 g9 (r * 2) (zAa y) HCY.out zuA ?_)
         | ((with_reducible refine zAv 59 ?_);refine zAk (cs:=zAa y) rfl 59 _ _ rfl rfl rfl rfl (by kernel_rfl) rfl (zAn _) ?_)
         | (refine zLd 49 h11 (zAa y) zuA ?_)
         | (at_mapUpdate;refine zBx rfl _ _ _ 217 rfl sideKey Tryz.underlying217 rfl hm11 y trivial rfl true rfl ?_;intro w5 hm5 hT5))
        go_roundw
        case rel=>
         have hlt:=hm3.out.lt;have hg1:=hwg;have hrl2:=HRL.out;refine ⟨r + 1,_,by omega,by go_num,zz hm5,zz fun s=>?_,zz ((hS3.out.belowAll HB11.out).turn hT5 (by omega)),zz ((hO3.out.belowAll HB11.out).turn hT5 (fun e=>?_)),zz ((hG3.out.belowAll HB11.out).turn hT5 (by omega)),zz ((hB3.out.trans (HB11.out.mono hB3.out.size)).trans (hT5.below (Nat.le_refl _)))⟩
         ·rw [sideSeen_put hse3.out y s,HTK.out];simp only [List.mem_append,List.mem_singleton]
          by_cases h1 : s = y <;> by_cases h2 : s ∈ xs.take r <;> simp [h1,h2]
         ·have:=(hO3.out.block _ e).1;omega
        case measure=>have hrl2:=HRL.out;simp [intOf];omega
       ·have hrv : r = xs.length:=by omega
        subst hrv;obtain ⟨ss,s1,s2,s3⟩:=hS3.out;have S1:=zz s1;have S2:=zz s2;have S3:=zz s3;have HLS : Hid (ss.length + 1 ≤ 4294967296):=zz (by
         have h:=congrArg List.length s3;rw [List.length_map] at h;have:=HL2.out;omega)
        have HSZ : Hid (w.heap.size + 1 ≤ (wr.alloc (.cells #[.slice (some ⟨g9,0,none⟩) xs.length cap9] 62)).heap.size):=zz (by have:=hm3.out.lt;simp;omega);have HCL : Hid (∀ j,j < 1→(wr.alloc (.cells #[.slice (some ⟨g9,0,none⟩) xs.length cap9] 62)).cell? ⟨wr.heap.size,0 + j,none⟩ = (zBV ⟨some ⟨g9,0,none⟩,cap9,xs⟩)[j]?):=zz fun j hj=>by rw [Nat.zero_add];exact (zAe.new wr 62 #[.slice (some ⟨g9,0,none⟩) xs.length cap9]).cell j
        have S1A : Hid (OwnL zBV 1 (wr.alloc (.cells #[.slice (some ⟨g9,0,none⟩) xs.length cap9] 62)) (w.heap.size + 1) 62 u3 ss):=zz (s1.belowAll ((Below.refl _ _).alloc (Nat.le_refl _) _));clear s1 s2 s3
        go_wp2_with (first
         | ((with_reducible refine zAm 54 ?_);refine zAU rfl _ _ 67 rfl (w.heap.size + 1) zE0 (fun _=>rfl) (by decide) zEt (by decide) u3 ss rfl S1A.out wr.heap.size 0 1 ⟨some ⟨g9,0,none⟩,cap9,xs⟩ rfl HCL.out HLS.out HSZ.out ?_;intro v6 w6 ho6 hg6 hv6))
        go_roundw
        case rel=>
         have hBn : Below wr.heap.size wr (wr.alloc (.cells #[.slice (some ⟨g9,0,none⟩) xs.length cap9] 62)):=(Below.refl _ _).alloc (Nat.le_refl _) _;have hob:=S1A.out.block;have hB6 : Below w.heap.size w w6:=(hB3.out.trans (hBn.mono hB3.out.size)).grown hg6 (by have:=hB3.out.size;simp;omega) (fun k e=>by have:=(hob k e).1;omega);have hm6 : MapAt zCv vBool (fun _=>True) w6 w.heap.size m3:=(hm3.out.alloc _).of_block (hg6.block _ (hm3.out.alloc _).lt (fun e=>by have:=(hob _ e.symm).1;omega));have hG6 : zAe w6 g 59 #[.int .i64 x.id, .bool false, .int .i64 x.id, .bool true]:=(hG3.out.alloc _).of_block (hg6.block _ (hG3.out.alloc _).lt (fun e=>by
          obtain ⟨_,cur,h4⟩:=S1A.out.cellsAt e.symm;have h5:=hG3.out.alloc (.cells #[.slice (some ⟨g9,0,none⟩) xs.length cap9] 62);rw [h5] at h4;cases h4))
         have hstep : zA3 sj.val ls acc t = acc ++ [xs]:=by unfold zA3;rw [HCC.out,HXS.out];rfl
         have hSS:=zAW.append (t:=⟨some ⟨g9,0,none⟩,cap9,xs⟩) S1A.out (fun s hs=>(S2.out s hs).belowAll hBn) (hO3.out.belowAll hBn) ho6 hg6;rw [S3.out] at hSS;refine ⟨q + 1,m3,by omega,by go_num,zz ?_,zz hG6⟩;rw [HACC.out,hstep];refine ⟨hm6,fun s=>?_,hSS,hB6⟩;rw [hse3.out s,List.take_length]
         by_cases h1 : s ∈ xs <;> by_cases h2 : s ∈ acc.flatten <;> simp [h1,h2] <;> simpa using h2
        case measure=>simp [intOf];omega
    ·have hqv : q = 2:=by omega
     subst hqv;go_wp2;go_roundw
     case rel=>exact ⟨k + 1,m2,by omega,by go_num,zz (by rw [sides_take ls HX.out,List.foldl_append,HA0.out];exact hI2.out)⟩
     case measure=>simp [intOf];omega
  ·have hkv : k = ls.length:=by omega
   subst hkv;rw [List.take_length] at hI;go_wp2;go_ret;exact ⟨_,rfl,hI.out.out,hI.out.below⟩
end Go.Proofs.YtbbblemfodpmaaaGreat
end
