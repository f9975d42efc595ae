/-newNet: the net of a valid web.-/
import Derived.Test.YtbbblemfodpmaaaGreatWebGh
set_option linter.unusedVariables false
set_option linter.unusedSimpArgs false
set_option maxHeartbeats 16000000
set_option maxRecDepth 100000
namespace Go.Proofs.YtbbblemfodpmaaaGreat
open Go.RowKit
theorem zB3 : zBU Tryz.prog 62 59 2 16:=⟨Tryz.underlying62,by kernel_rfl⟩
theorem zDU (w : World) : (zeroValue 62).run Tryz.prog w = .ok (id nilS) w:=by kernel_rfl
theorem zDV (j : Int) : ∀ l : List Lead,(zAp j l).length ≤ 2 * l.length
 | []=>by simp [zAp]
 | x :: l=>by
  have:=zDV j l;simp only [zAp,List.length_append,List.length_cons]
  split <;> split <;> simp <;> omega
theorem List.nodup_middle_iff {α : Type} {a : α} {l1 l2 : List α} : (l1 ++ a :: l2).Nodup ↔ a ∉ l1 ++ l2∧(l1 ++ l2).Nodup:=by
 rw [List.perm_middle.nodup_iff,List.nodup_cons]
structure NB (w : World) (sj : Sl Joint) (sl : Sl Lead) (W : World) (ma : List (Int × Point)) (ml : List (Int × Lead)) (mo : List (Int × Value)) (f : Int→List Side) : Prop where
 below : Below w.heap.size w W
 size : w.heap.size + 5 ≤ W.heap.size
 arg : zAe W w.heap.size 25 #[.slice sj.a sj.val.length sj.cap, .slice sl.a sl.val.length sl.cap]
 net : zAe W (w.heap.size + 1 + 1 + 1 + 1) 125 #[.slice sj.a sj.val.length sj.cap, .slice sl.a sl.val.length sl.cap, .map (some (w.heap.size + 1)), .map (some (w.heap.size + 1 + 1)), .map (some (w.heap.size + 1 + 1 + 1))]
 at_ : MapAt vi zAL I64 W (w.heap.size + 1) ma
 lead : MapAt vi zC7 I64 W (w.heap.size + 1 + 1) ml
 out : MapAt vi id I64 W (w.heap.size + 1 + 1 + 1) mo
 outs : Outs (w.heap.size + 5) W mo f
section
variable {w : World} {sj : Sl Joint} {sl : Sl Lead} {W W' : World} {ma ma' : List (Int × Point)} {ml ml' : List (Int × Lead)} {mo mo' : List (Int × Value)} {f f' : Int→List Side}
theorem NB.under (h : NB w sj sl W ma ml mo f) (hb : Below W.heap.size W W') : NB w sj sl W' ma ml mo f:=
 ⟨h.below.trans (hb.mono h.below.size),Nat.le_trans h.size hb.size,h.arg.belowAll hb,h.net.belowAll hb,h.at_.below hb h.at_.lt,h.lead.below hb h.lead.lt,h.out.below hb h.out.lt,h.outs.below hb⟩
theorem NB.alloc (h : NB w sj sl W ma ml mo f) (o : Obj) : NB w sj sl (W.alloc o) ma ml mo f:=h.under ((Below.refl _ _).alloc (Nat.le_refl _) _)
theorem NB.drew (h : NB w sj sl W ma ml mo f) : NB w sj sl W.drew ma ml mo f:=h.under ((Below.refl _ _).drew)
theorem NB.setAt (h : NB w sj sl W ma ml mo f) (hm : MapAt vi zAL I64 W' (w.heap.size + 1) ma') (ht : Turn (w.heap.size + 1) W W') : NB w sj sl W' ma' ml mo f:=
 ⟨h.below.trans (ht.below (by omega)),by rw [ht.size];exact h.size,h.arg.turn ht (by omega),h.net.turn ht (by omega),hm,h.lead.turn ht (by omega),h.out.turn ht (by omega),h.outs.turn ht (by omega)⟩
theorem NB.setLead (h : NB w sj sl W ma ml mo f) (hm : MapAt vi zC7 I64 W' (w.heap.size + 1 + 1) ml') (ht : Turn (w.heap.size + 1 + 1) W W') : NB w sj sl W' ma ml' mo f:=
 ⟨h.below.trans (ht.below (by omega)),by rw [ht.size];exact h.size,h.arg.turn ht (by omega),h.net.turn ht (by omega),h.at_.turn ht (by omega),hm,h.out.turn ht (by omega),h.outs.turn ht (by omega)⟩
theorem NB.grown (h : NB w sj sl W ma ml mo f) {v : Value} (hv : ∀ g,v.ownBlock = some g→w.heap.size + 5 ≤ g) (hg : W.grownBy W' v.ownBlock) (ho : Outs (w.heap.size + 5) W' mo f') : NB w sj sl W' ma ml mo f':=by
 have e : ∀ k,k < w.heap.size + 5→W'.heap[k]? = W.heap[k]?:=fun k hk=>hg.block k (by have:=h.size;omega) (fun e=>by have:=hv k e.symm;omega);exact ⟨h.below.trans ⟨hg.os,hg.tape,hg.output,hg.size,fun k hk=>e k (by omega)⟩,Nat.le_trans h.size hg.size,h.arg.of_block (e _ (by omega)),h.net.of_block (e _ (by omega)),h.at_.of_block (e _ (by omega)),h.lead.of_block (e _ (by omega)),h.out.of_block (e _ (by omega)),ho⟩
end
theorem NB.toNet {w W : World} {sj : Sl Joint} {sl : Sl Lead} {mo : List (Int × Value)} (h : NB w sj sl W (zA7 sj.val) (zCc sl.val) mo (outA sj.val sl.val)) : zA5 W (w.heap.size + 1 + 1 + 1 + 1) sj sl:=
 ⟨w.heap.size + 1,w.heap.size + 1 + 1,w.heap.size + 1 + 1 + 1,w.heap.size + 5,mo,by omega,by omega,by omega,by omega,h.net,h.at_,h.lead,h.out,h.outs⟩
theorem NB.append {w W W1 W2 : World} {sj : Sl Joint} {sl : Sl Lead} {ma : List (Int × Point)} {ml : List (Int × Lead)} {mo : List (Int × Value)} {f : Int→List Side} (h : NB w sj sl W ma ml mo f) (hb : Below W.heap.size W W1) (j : Int) (s : Side) {v' : Value}
  (ho : OwnL zAa 2 W2 (w.heap.size + 5) 59 v' (f j ++ [s])) (hg : W1.grownBy W2 ((aget mo j).getD nilS).ownBlock) (hv : v'.ownBlock = ((aget mo j).getD nilS).ownBlock ∨ v'.ownBlock = some W1.heap.size) {W3 : World}
  (hm : MapAt vi id I64 W3 (w.heap.size + 1 + 1 + 1) (aput mo j v')) (ht : Turn (w.heap.size + 1 + 1 + 1) W2 W3) : NB w sj sl W3 ma ml (aput mo j v') (fun i=>if i = j then f i ++ [s] else f i):=by
 have h1:=h.under hb;have hown:=(h1.outs.at j).block;have hput:=h1.outs.put j s ho hg (hv.imp id fun e=>⟨_,e,Nat.le_refl _⟩);have e : ∀ k,k < w.heap.size + 5→W2.heap[k]? = W1.heap[k]?:=fun k hk=>hg.block k (by have:=h1.size;omega) (fun e=>by have:=(hown k e.symm).1;omega);have hB2 : Below (w.heap.size + 5) W1 W2:=⟨hg.os,hg.tape,hg.output,hg.size,e⟩
 exact ⟨(h1.below.trans (hB2.mono (by omega))).trans (ht.below (by omega)),by rw [ht.size];exact Nat.le_trans h1.size hg.size,(h1.arg.of_block (e _ (by omega))).turn ht (by omega),(h1.net.of_block (e _ (by omega))).turn ht (by omega),
  (h1.at_.of_block (e _ (by omega))).turn ht (by omega),(h1.lead.of_block (e _ (by omega))).turn ht (by omega),hm,hput.turn ht (by omega)⟩
theorem newNet_any (sj : Sl Joint) (sl : Sl Lead) (w : World) (hj : sj.OK 3 zAh zAs (fun _=>False) w) (hl : sl.OK 8 zAd zAA (fun _=>False) w) (V : ValidW sj.val sl.val) :
  Calls Tryz.prog 152 #[.agg #[.slice sj.a sj.val.length sj.cap, .slice sl.a sl.val.length sl.cap]] w fun e w'=>e = .returned (.pointer (some ⟨w.heap.size + 1 + 1 + 1 + 1,0,none⟩))∧zA5 w' (w.heap.size + 1 + 1 + 1 + 1) sj sl∧Below w.heap.size w w':=by
 have HJ:=zz hj;have HL:=zz hl;have HV:=zz V;have hnj:=V.nj;have hnl:=V.nl;clear hj hl V;obtain ⟨aj,cj,js⟩:=sj;obtain ⟨al,cl,ls⟩:=sl;simp only at hnj hnl ⊢;have hmm:=@run_makeMap Tryz.prog;have HN0 : Hid (NB w ⟨aj,cj,js⟩ ⟨al,cl,ls⟩ (((((w.alloc (.cells #[.slice aj js.length cj, .slice al ls.length cl] 25)).alloc (.map #[] 0)).alloc (.map #[] 0)).alloc (.map #[] 0)).alloc (.cells #[.slice aj js.length cj, .slice al ls.length cl, .map (some (w.heap.size + 1)), .map (some (w.heap.size + 1 + 1)), .map (some (w.heap.size + 1 + 1 + 1))] 125)) [] [] [] (fun _=>[])):=zz (by
  have b0:=(Below.refl w.heap.size w).alloc (Nat.le_refl _) (.cells #[.slice aj js.length cj, .slice al ls.length cl] 25);refine ⟨((((b0.alloc (by simp) _).alloc (by simp;omega) _).alloc (by simp;omega) _).alloc (by simp;omega) _),by simp,((((zAe.new w 25 #[.slice aj js.length cj, .slice al ls.length cl]).alloc _).alloc _).alloc _).alloc _, ?_, ?_, ?_, ?_,Outs.nil _ _⟩
  ·have h:=zAe.new ((((w.alloc (.cells #[.slice aj js.length cj, .slice al ls.length cl] 25)).alloc (.map #[] 0)).alloc (.map #[] 0)).alloc (.map #[] 0)) 125 #[.slice aj js.length cj, .slice al ls.length cl, .map (some (w.heap.size + 1)), .map (some (w.heap.size + 1 + 1)), .map (some (w.heap.size + 1 + 1 + 1))];simp only [World.size_alloc] at h;exact h
  ·have h:=MapAt.made vi zAL I64 (w.alloc (.cells #[.slice aj js.length cj, .slice al ls.length cl] 25));simp only [World.size_alloc] at h;exact ((h.alloc _).alloc _).alloc _
  ·have h:=MapAt.made vi zC7 I64 ((w.alloc (.cells #[.slice aj js.length cj, .slice al ls.length cl] 25)).alloc (.map #[] 0));simp only [World.size_alloc] at h;exact (h.alloc _).alloc _
  ·have h:=MapAt.made (ν:=Value) vi id I64 (((w.alloc (.cells #[.slice aj js.length cj, .slice al ls.length cl] 25)).alloc (.map #[] 0)).alloc (.map #[] 0));simp only [World.size_alloc] at h;exact h.alloc _)
 have g0 : zAe (w.alloc (.cells #[.slice aj js.length cj, .slice al ls.length cl] 25)) w.heap.size 25 #[.slice aj js.length cj, .slice al ls.length cl]:=zAe.new _ _ _;have q0 : (((((w.alloc (.cells #[.slice aj js.length cj, .slice al ls.length cl] 25)).alloc (.map #[] 0)).alloc (.map #[] 0)).alloc (.map #[] 0)).alloc (.cells #[.slice aj js.length cj, .slice al ls.length cl, .map (some (w.heap.size + 1)), .map (some (w.heap.size + 1 + 1)), .map (some (w.heap.size + 1 + 1 + 1))] 125)).cell? ⟨w.heap.size,0,none⟩ = some (.slice aj js.length cj):=(HN0.out.arg.cell 0).trans rfl;go_enter Tryz.func152,Tryz.ntmps152
 go_wp2_with (first
  | (refine zLd 10 g0 #[.slice aj js.length cj, .slice al ls.length cl] zuC ?_))
 clear g0 q0
 go_loopw [19] (fun i wr=>∃ k : Nat,k ≤ js.length∧i = .int .i64 k∧Hid (NB w ⟨aj,cj,js⟩ ⟨al,cl,ls⟩ wr (zA7 (js.take k)) [] [] (fun _=>[]))) (fun i _=>js.length - (intOf i).toNat)
 case atStart=>exact ⟨0,Nat.zero_le _,rfl,HN0⟩
 case round=>
  obtain ⟨k,hk,rfl,HN⟩:=hrel
  by_cases hlt : k < js.length
  ·obtain ⟨x,hx⟩ : ∃ x,js[k]? = some x:=⟨_,List.getElem?_eq_getElem hlt⟩
   have hi1 : (k : Int) < (js.length : Int):=by omega
   obtain ⟨bj,oj,rfl,hbj,_,hok,hcell⟩:=HJ.out.at hx;have HC : Hid (∀ j,j < (zAh x).size→wr.cell? ⟨bj,oj + k * 3 + j,none⟩ = (zAh x)[j]?):=zz fun j hj=>(HN.out.below.cell (p:=⟨bj,oj + k * 3 + j,none⟩) hbj).trans (hcell j hj);have hjb : zAe (wr.alloc (.cells (zAh x) 29)).drew wr.heap.size 29 (zAh x):=(zAe.new _ _ _).drew;have HNd:=zz (HN.out.alloc (.cells (zAh x) 29)).drew;have HX:=zz hx;have HXI:=zz hok.1;clear hx hok hcell hbj HN
   go_wp2_with (first
    | ((with_reducible refine zAm 22 ?_);refine zLe 22 bj (oj + k * 3) (zAh x) HC.out zuG ?_)
    | ((with_reducible refine zDy ?_);refine zAk (cs:=zAh x) rfl 29 _ _ rfl rfl rfl rfl (by kernel_rfl) rfl (zBj _) ?_))
   refine rgM 8 [(0,none),(1,none),(2,none),(4,none),(6,none),(3,some true),(5,some true),(7,some true),(8,some false)] ?_;iterate 5 (refine wC rfl ?_;simp only [pT])
   refine zAN (v:=.map (some (w.heap.size + 1))) rfl rfl (fun W hW=>by have e : W.cell? ⟨w.heap.size + 1 + 1 + 1 + 1,2,none⟩ = some (.map (some (w.heap.size + 1))):=((HNd.out.net.belowAll hW).cell 2).trans rfl;go_simp) ?_;simp only [pT];refine zAN (v:=.int .i64 x.id) rfl rfl (fun W hW=>by have e : W.cell? ⟨wr.heap.size,0,none⟩ = some (.int .i64 x.id):=((hjb.belowAll hW).cell 0).trans rfl;go_simp) ?_;simp only [pT];refine zAN (v:=.agg (zAb x.at_)) rfl rfl (fun W hW=>zAc (zAb x.at_) (hjb.belowAll hW) rfl (zCf x) zuB) ?_;simp only [pT];refine zBk rfl rfl (fun K hK=>?_);refine zDT _ _ _ 120 rfl zAQ zuF rfl HNd.out.at_ x.id HXI.out rfl x.at_ rfl ?_;intro w5 hm5 hT5;refine hK _ _ ?_;clear hK K
   try simp only [pT]
   simp only [wpC];rw [zFZ HV.out.jid HX.out] at hm5;go_wp2;go_roundw
   case rel=>exact ⟨k + 1,by omega,by go_num,zz (HNd.out.setAt hm5 hT5)⟩
   case measure=>(simp [intOf];try omega)
  have hk' : k = js.length:=by omega
  have hi0 : ¬ (k : Int) < (js.length : Int):=by omega
  have HN1 : Hid (NB w ⟨aj,cj,js⟩ ⟨al,cl,ls⟩ wr (zA7 js) [] [] (fun _=>[])):=zz (by have h:=HN.out;rw [hk',List.take_length] at h;exact h);have q1 : wr.cell? ⟨w.heap.size,1,none⟩ = some (.slice al ls.length cl):=(HN1.out.arg.cell 1).trans rfl;clear HN hk' hlt hk HN0;go_wp2;clear q1
  go_loopw [35] (fun i wr=>∃ k : Nat,k ≤ ls.length∧i = .int .i64 k∧Hid (∃ mo,NB w ⟨aj,cj,js⟩ ⟨al,cl,ls⟩ wr (zA7 js) (zCc (ls.take k)) mo (fun j=>zAp j (ls.take k)))) (fun i _=>ls.length - (intOf i).toNat)
  case atStart=>exact ⟨0,Nat.zero_le _,rfl,zz ⟨[],HN1.out⟩⟩
  case round=>
   obtain ⟨k,hk,rfl,HNE⟩:=hrel;obtain ⟨mo,hN⟩:=HNE.out;have HN:=zz hN;clear hN HNE HN1
   by_cases hlt : k < ls.length
   case neg=>
    have hk' : k = ls.length:=by omega
    have hi0 : ¬ (k : Int) < (ls.length : Int):=by omega
    have HN1 : Hid (NB w ⟨aj,cj,js⟩ ⟨al,cl,ls⟩ wr (zA7 js) (zCc ls) mo (fun j=>zAp j ls)):=zz (by have h:=HN.out;rw [hk',List.take_length] at h;exact h);clear HN hk' hlt hk;have qn : wr.cell? ⟨w.heap.size + 1 + 1 + 1 + 1,4,none⟩ = some (.map (some (w.heap.size + 1 + 1 + 1))):=(HN1.out.net.cell 4).trans rfl;have HNR : Hid (∀ p ∈ mo,p.2.ownBlock ≠ some wr.heap.size):=zz fun p hp e=>by have:=((HN1.out.outs.own p hp).block _ e).2;omega
    have hszr:=HN1.out.size
    go_wp2_with (first
     | ((with_reducible refine zAm 87 ?_);refine zD9 rfl _ 123 rfl zuH rfl HN1.out.out ?_;intro ob hrg))
    have HRG:=zz hrg;have HN2:=zz (HN1.out.alloc ob);clear hrg qn;obtain ⟨r,hr⟩ : ∃ r,wr.heap.size = r:=⟨_,rfl⟩
    rw [hr] at HRG HNR hszr ⊢;have hmi : ∀ i,i ∉ mo.map Prod.fst→zAp i ls = []:=fun i hi=>HN1.out.outs.miss i (by
     cases hh : ahas mo i with
     | false=>rfl
     | true=>exact absurd (zES.1 hh) hi)
    have HMI:=zz hmi;have HND:=zz HN1.out.outs.nd;clear hmi hr HN1
    go_loopw [8,9] (fun _ _ wr=>∃ (left : List (Int × Value)) (f : Int→List Side),Hid (RangeAt vi id I64 wr (w.heap.size + 1 + 1 + 1) r mo left)∧Hid (NB w ⟨aj,cj,js⟩ ⟨al,cl,ls⟩ wr (zA7 js) (zCc ls) mo f)∧Hid (∀ i,f i = if i ∈ left.map Prod.fst then zAp i ls else outA js ls i)∧Hid ((left.map Prod.fst).Nodup)∧Hid (∀ p ∈ left,p ∈ mo)) (fun _ _ wr=>zEl wr (w.heap.size + 1 + 1 + 1) r)
    case atStart=>exact ⟨mo,_,HRG,HN2,zz (fun i=>by
      by_cases hi : i ∈ mo.map Prod.fst
      ·rw [if_pos hi]
      ·rw [if_neg hi,HMI.out i hi];unfold outA;rw [HMI.out i hi];rfl),HND,zz (fun p hp=>hp)⟩
    case round=>
     obtain ⟨left,f,HR,HN,HF,HNL,HLM⟩:=hrel;have hcount:=HR.out.count
     rcases HR.out.next (P:=Tryz.prog) (by omega) 0 with ⟨hl0,hnx⟩ | ⟨l1,p,l2,w',hl,hnx,hR',hT,hen⟩
     ·subst hl0;have HFE : Hid (NB w ⟨aj,cj,js⟩ ⟨al,cl,ls⟩ wr (zA7 js) (zCc ls) mo (outA js ls)):=zz (by
       have e : f = outA js ls:=funext fun i=>by rw [HF.out i];simp
       rw [← e];exact HN.out)
      clear HF HN HNL HLM;go_wp2;go_ret;exact ⟨rfl,HFE.out.toNet,HFE.out.below⟩
     ·obtain ⟨j,v⟩:=p;replace hnx : (Instr.next (.pointer (some ⟨r,0,none⟩)) false 0).run Tryz.prog wr = .ok (.tuple #[.bool true, .int .i64 j,v]) w':=hnx;replace hen : (Instr.entry (.pointer (some ⟨r,0,none⟩))).run Tryz.prog w' = .ok (.tuple #[.int .i64 j,v]) w':=hen;have hpm:=HLM.out (j,v) (by rw [hl];simp);have hjl : j ∈ left.map Prod.fst:=by rw [hl];simp
      have hjI : I64 j:=HR.out.good _ hpm;have hNT : NB w ⟨aj,cj,js⟩ ⟨al,cl,ls⟩ w' (zA7 js) (zCc ls) mo f:=by
       have h:=HN.out;exact ⟨h.below.trans (hT.below (by omega)),by rw [hT.size];exact h.size,h.arg.turn hT (by omega),h.net.turn hT (by omega),h.at_.turn hT (by omega),h.lead.turn hT (by omega),h.out.turn hT (by omega),
        ⟨fun p hp=>(h.outs.own p hp).turn hT (HNR.out p hp),h.outs.ne,h.outs.miss,h.outs.nd,h.outs.sep⟩⟩
      have hfj : f j = zAp j ls:=by rw [HF.out j,if_pos hjl]
      have hown:=hNT.outs.own _ hpm;replace hown : OwnL zAa 2 w' (w.heap.size + 5) 59 v (f j):=hown;rw [hfj] at hown;have hbk:=hown.block;have HSR:=zz (sides_sort HV.out (b:=w.heap.size + 1 + 1 + 1 + 1) (ba:=w.heap.size + 1) (bl:=w.heap.size + 1 + 1) j hjI w' (w.heap.size + 5) v (by have:=hNT.outs.ne _ hpm;rw [hfj] at this;exact this) hown (Nat.le_trans (zDV j ls) (by omega))
       hNT.net.lt ((hNT.net.cell 2).trans rfl) ((hNT.net.cell 3).trans rfl) hNT.at_ hNT.lead (fun g hg=>by have:=(hbk g hg).1;omega))
      have HBK:=zz hbk;have HNT:=zz hNT;have HR2:=zz hR';have HFJ:=zz hfj;have HL2:=zz hl;have HPM:=zz hpm;clear hR' hNT hown hbk hfj hl hpm hjI HN HR
      go_wp2_with (go_at_call 186;(with_reducible refine HSR.out.mono ?_);rintro e w5 ⟨rfl,ho5,hg5⟩)
      have hN5 : NB w ⟨aj,cj,js⟩ ⟨al,cl,ls⟩ w5 (zA7 js) (zCc ls) mo (fun i=>if i = j then outA js ls j else f i):=HNT.out.grown (fun g hg=>(HBK.out g hg).1) hg5 (HNT.out.outs.turned HPM.out (by simpa using ho5) hg5 (by
       have h1:=HNT.out.outs.ne _ HPM.out;simp only [if_true];intro h2;rw [HFJ.out] at h1;exact h1 (List.Perm.eq_nil (by rw [← h2];exact (zB2 _ _).symm))) (fun i hi=>if_neg hi))
      have hR5 : RangeAt vi id I64 w5 (w.heap.size + 1 + 1 + 1) r mo (l1 ++ l2):=HR2.out.of_block (hg5.block _ HR2.out.map.lt (fun e=>by have:=(HBK.out _ e.symm).1;omega)) (hg5.block _ HR2.out.lt (fun e=>HNR.out _ HPM.out e.symm));have hc5:=hR5.count;have hlen : (l1 ++ l2).length < left.length:=by rw [HL2.out];simp
      have hnd2:=HNL.out;rw [HL2.out,List.map_append,List.map_cons,List.nodup_middle_iff] at hnd2;have hfin : ∀ i,(if i = j then outA js ls j else f i) = if i ∈ (l1 ++ l2).map Prod.fst then zAp i ls else outA js ls i:=fun i=>by
       by_cases hij : i = j
       ·subst hij;rw [if_pos rfl,if_neg (by rw [List.map_append];exact hnd2.1)]
       ·rw [if_neg hij,HF.out i,HL2.out];have h1 : i ∈ (l1 ++ (j,v) :: l2).map Prod.fst ↔ i ∈ (l1 ++ l2).map Prod.fst:=by
         rw [List.map_append,List.map_append,List.map_cons,List.mem_append,List.mem_append,List.mem_cons]
         constructor
         ·rintro (h | h | h)
          ·exact .inl h
          ·exact absurd h hij
          ·exact .inr h
         ·rintro (h | h)
          ·exact .inl h
          ·exact .inr (.inr h)
        by_cases h2 : i ∈ (l1 ++ l2).map Prod.fst
        ·rw [if_pos h2,if_pos (h1.2 h2)]
        ·rw [if_neg h2,if_neg (fun h=>h2 (h1.1 h))]
      have HFIN:=zz hfin;clear hfin;go_roundw
      case rel=>exact ⟨l1 ++ l2,_,zz hR5,zz hN5,HFIN,zz (by rw [List.map_append];exact hnd2.2),zz (fun p hp=>HLM.out p (by rw [HL2.out];rcases List.mem_append.1 hp with h | h <;> simp [h]))⟩
      case measure=>rw [hc5,hcount];exact hlen
   obtain ⟨x,hx⟩ : ∃ x,ls[k]? = some x:=⟨_,List.getElem?_eq_getElem hlt⟩
   have hi1 : (k : Int) < (ls.length : Int):=by omega
   obtain ⟨bl,ol,rfl,hbl,_,hok,hcell⟩:=HL.out.at hx;have HC : Hid (∀ j,j < (zAd x).size→wr.cell? ⟨bl,ol + k * 8 + j,none⟩ = (zAd x)[j]?):=zz fun j hj=>(HN.out.below.cell (p:=⟨bl,ol + k * 8 + j,none⟩) hbl).trans (hcell j hj);have hjb : zAe (wr.alloc (.cells (zAd x) 31)).drew wr.heap.size 31 (zAd x):=(zAe.new _ _ _).drew;have HNd:=zz (HN.out.alloc (.cells (zAd x) 31)).drew;have HX:=zz hx;have HXI : Hid (I64 x.id∧I64 x.a∧I64 x.b):=zz ⟨hok.1,hok.2.1,hok.2.2.1⟩;have HNO : Hid (∀ j g,((aget mo j).getD nilS).ownBlock = some g→g ≠ wr.heap.size):=zz fun j g hg=>by have:=((HN.out.outs.at j).block g hg).2;omega
   have HLE : Hid (∀ j,(zAp j (ls.take k)).length ≤ 2 * ls.length):=zz fun j=>Nat.le_trans (zDV j _) (by have : (ls.take k).length ≤ ls.length:=List.length_take_le' _ _;omega);have HAB : Hid (x.a ≠ x.b):=zz (by obtain ⟨_,_,_,_,_,_,h,_⟩:=HV.out.ends (List.mem_of_getElem? hx);exact h);have hszr:=HN.out.size;clear hx hok hcell hbl HN
   go_wp2_with (first
    | ((with_reducible refine zAm 38 ?_);refine zLe 38 bl (ol + k * 8) (zAd x) HC.out zuD ?_)
    | ((with_reducible refine zAv 31 ?_);refine zAk (cs:=zAd x) rfl 31 _ _ rfl rfl rfl rfl (by kernel_rfl) rfl (zA9 _) ?_))
   refine rgM 7 [(0,none),(1,none),(2,none),(4,none),(3,some true),(5,some true),(6,some true),(7,some false)] ?_;iterate 4 (refine wC rfl ?_;simp only [pT])
   refine zAN (v:=.map (some (w.heap.size + 1 + 1))) rfl rfl (fun W hW=>by have e : W.cell? ⟨w.heap.size + 1 + 1 + 1 + 1,3,none⟩ = some (.map (some (w.heap.size + 1 + 1))):=((HNd.out.net.belowAll hW).cell 3).trans rfl;go_simp) ?_;simp only [pT];refine zAN (v:=.int .i64 x.id) rfl rfl (fun W hW=>by have e : W.cell? ⟨wr.heap.size,0,none⟩ = some (.int .i64 x.id):=((hjb.belowAll hW).cell 0).trans rfl;go_simp) ?_;simp only [pT];refine zAN (v:=.agg (zAd x)) rfl rfl (fun W hW=>zAc (zAd x) (hjb.belowAll hW) rfl (zAg _) zuD) ?_;simp only [pT];refine zBk rfl rfl (fun K hK=>?_);refine zDT _ _ _ 122 rfl zAQ Tryz.underlying122 rfl HNd.out.lead x.id HXI.out.1 rfl x rfl ?_;intro w5 hm5 hT5;refine hK _ _ ?_;clear hK K
   try simp only [pT]
   simp only [wpC];rw [leadM_put HV.out.lid HX.out] at hm5;have HNx:=zz ((HNd.out.setLead hm5 hT5).drew);have hbx:=(hjb.turn hT5 (by omega)).drew;have hfo:=fun j g=>(HNx.out.outs.at j).block g;have HS1 : Hid (zAe (w5.drew) (w.heap.size + 1 + 1 + 1 + 1) 125 #[.slice aj js.length cj, .slice (some ⟨bl,ol,none⟩) ls.length cl, .map (some (w.heap.size + 1)), .map (some (w.heap.size + 1 + 1)), .map (some (w.heap.size + 1 + 1 + 1))]∧zAe (w5.drew) wr.heap.size 31 (zAd x)∧MapAt vi id I64 (w5.drew) (w.heap.size + 1 + 1 + 1) mo):=zz ⟨HNx.out.net,hbx,HNx.out.out⟩;have HOW:=zz (HNx.out.outs.at x.a);have HSZ : Hid (w.heap.size + 5 ≤ ((w5.drew).alloc (.cells (zAa ⟨x.id,false⟩) 59)).heap.size):=zz (Nat.le_trans HNx.out.size (by rw [World.size_alloc];exact Nat.le_succ _));have HKP : Hid (∀ (v' : Value) W2,((w5.drew).alloc (.cells (zAa ⟨x.id,false⟩) 59)).grownBy W2 ((aget mo x.a).getD nilS).ownBlock→zAe W2 (w.heap.size + 1 + 1 + 1 + 1) 125 #[.slice aj js.length cj, .slice (some ⟨bl,ol,none⟩) ls.length cl, .map (some (w.heap.size + 1)), .map (some (w.heap.size + 1 + 1)), .map (some (w.heap.size + 1 + 1 + 1))]∧zAe W2 wr.heap.size 31 (zAd x)∧MapAt vi id I64 W2 (w.heap.size + 1 + 1 + 1) mo):=zz fun v' W2 hg=>by
    have h1:=HNx.out.size;have e : ∀ k,k < (w5.drew).heap.size→(k < w.heap.size + 5 ∨ k = wr.heap.size)→W2.heap[k]? = ((w5.drew).alloc (.cells (zAa ⟨x.id,false⟩) 59)).heap[k]?:=fun k hk hk2=>hg.block k (Nat.lt_of_lt_of_le hk (by rw [World.size_alloc];exact Nat.le_succ _)) (fun e=>by
     rcases hk2 with hk2 | hk2
     ·have:=(hfo _ _ e.symm).1;omega
     ·exact HNO.out _ _ e.symm hk2)
    exact ⟨(HS1.out.1.alloc _).of_block (e _ (by omega) (.inl (by omega))),(HS1.out.2.1.alloc _).of_block (e _ HS1.out.2.1.lt (.inr rfl)),(HS1.out.2.2.alloc _).of_block (e _ (by omega) (.inl (by omega)))⟩
   go_wp2;have HLN : Hid ((zAp x.a (ls.take k)).length + 1 ≤ 4294967296):=zz (by have:=HLE.out x.a;omega);clear hm5 hT5;refine zCb (fun W=>zAe W (w.heap.size + 1 + 1 + 1 + 1) 125 #[.slice aj js.length cj, .slice (some ⟨bl,ol,none⟩) ls.length cl, .map (some (w.heap.size + 1)), .map (some (w.heap.size + 1 + 1)), .map (some (w.heap.size + 1 + 1 + 1))]∧zAe W wr.heap.size 31 (zAd x)∧MapAt vi id I64 W (w.heap.size + 1 + 1 + 1) mo) 18 [(0,none),(1,none),(2,none),(4,none),(6,none),(7,none),(8,none),(10,none),(13,none),(3,some true),(5,some true),(9,some true),(11,some true),(12,some true),(14,some true),(15,none),(16,some false),(17,some false),(18,some false)] rfl (by kernel_rfl) (by kernel_rfl) (fun d _ _ _ _ h=>by cases d <;> exact h) HS1.out ?_;iterate 9 (refine zBQ rfl rfl (fun W=>by go_simp;with_reducible rfl) ?_;simp only [pT])
   refine zBA (v:=.map (some (w.heap.size + 1 + 1 + 1))) rfl rfl (fun W hW=>by have e : W.cell? ⟨w.heap.size + 1 + 1 + 1 + 1,4,none⟩ = some (.map (some (w.heap.size + 1 + 1 + 1))):=(hW.1.cell 4).trans rfl;go_simp) ?_;simp only [pT];refine zBA (v:=.int .i64 x.a) rfl rfl (fun W hW=>by have e : W.cell? ⟨wr.heap.size,1,none⟩ = some (.int .i64 x.a):=(hW.2.1.cell 1).trans rfl;go_simp) ?_;simp only [pT];refine zBA (v:=.map (some (w.heap.size + 1 + 1 + 1))) rfl rfl (fun W hW=>by have e : W.cell? ⟨w.heap.size + 1 + 1 + 1 + 1,4,none⟩ = some (.map (some (w.heap.size + 1 + 1 + 1))):=(hW.1.cell 4).trans rfl;go_simp) ?_;simp only [pT];refine zBA (v:=.int .i64 x.a) rfl rfl (fun W hW=>by have e : W.cell? ⟨wr.heap.size,1,none⟩ = some (.int .i64 x.a):=(hW.2.1.cell 1).trans rfl;go_simp) ?_;simp only [pT];refine zBA (v:=(aget mo x.a).getD nilS) rfl rfl (fun W hW=>zA6 zAQ zuH nilS (zDU _) rfl hW.2.2 x.a HXI.out.2.1 rfl) ?_;simp only [pT];refine zBA (v:=.int .i64 x.id) rfl rfl (fun W hW=>by have e : W.cell? ⟨wr.heap.size,0,none⟩ = some (.int .i64 x.id):=(hW.2.1.cell 0).trans rfl;go_simp) ?_;simp only [pT];refine zBQ (v:=.agg (zAa ⟨x.id,false⟩)) rfl rfl (fun W=>by go_simp;rfl) ?_;simp only [pT];refine zCp rfl rfl rfl (fun K hK=>?_)
   go_simp
   refine hK _ _ ⟨HS1.out.1.alloc _,HS1.out.2.1.alloc _,HS1.out.2.2.alloc _⟩ ?_;clear hK K
   try simp only [pT]
   refine zCp rfl rfl rfl (fun K hK=>?_);refine zCa _ _ 62 rfl (w.heap.size + 5) zB3 (fun _=>rfl) (by decide) zAn (by decide) ((aget mo x.a).getD nilS) _ rfl (HOW.out.belowAll ((Below.refl _ _).alloc (Nat.le_refl _) _)) (w5.drew).heap.size 0 1 ⟨x.id,false⟩ rfl (fun j hj=>by have h:=(zAe.new (w5.drew) 59 (zAa ⟨x.id,false⟩)).cell (0 + j);rw [Nat.zero_add] at h ⊢;exact h) HLN.out HSZ.out ?_;intro v2 w5 ho5 hg5 hv5;refine hK _ _ (HKP.out nilS _ hg5) ?_;clear hK K
   try simp only [pT]
   refine zDz rfl rfl (fun K hK=>?_);refine zDT _ _ _ 123 rfl zAQ zuH rfl (HKP.out nilS _ hg5).2.2 x.a HXI.out.2.1 rfl v2 rfl ?_;intro w6 hm6 hT6;refine hK _ _ ?_;clear hK K
   try simp only [pT]
   simp only [wpE];have HNy:=zz (HNx.out.append ((Below.refl _ _).alloc (Nat.le_refl _) _) x.a ⟨x.id,false⟩ ho5 hg5 hv5 hm6 hT6);have HBy:=zz ((HKP.out v2 _ hg5).2.1.turn hT6 (by omega));have HNO2 : Hid (∀ j g,((aget (aput mo x.a v2) j).getD nilS).ownBlock = some g→g ≠ wr.heap.size):=zz fun j g hg=>by
    rw [zBS] at hg
    split at hg
    ·rcases hv5 with e | e
     ·rw [show (some v2).getD nilS = v2 from rfl,e] at hg;exact HNO.out _ _ hg
     ·rw [show (some v2).getD nilS = v2 from rfl,e] at hg;have h2:=HS1.out.2.1.lt;simp at hg h2;omega
    ·exact HNO.out _ _ hg
   clear ho5 hg5 hv5 hm6 hT6 HKP HSZ HOW HS1 hfo hbx HNx;have HNx:=zz (HNy.out.drew);have hbx:=HBy.out.drew;have hfo:=fun j g=>(HNx.out.outs.at j).block g;have HS1 : Hid (zAe (w6.drew) (w.heap.size + 1 + 1 + 1 + 1) 125 #[.slice aj js.length cj, .slice (some ⟨bl,ol,none⟩) ls.length cl, .map (some (w.heap.size + 1)), .map (some (w.heap.size + 1 + 1)), .map (some (w.heap.size + 1 + 1 + 1))]∧zAe (w6.drew) wr.heap.size 31 (zAd x)∧MapAt vi id I64 (w6.drew) (w.heap.size + 1 + 1 + 1) (aput mo x.a v2)):=zz ⟨HNx.out.net,hbx,HNx.out.out⟩;have HOW:=zz (HNx.out.outs.at x.b);have HSZ : Hid (w.heap.size + 5 ≤ ((w6.drew).alloc (.cells (zAa ⟨x.id,true⟩) 59)).heap.size):=zz (Nat.le_trans HNx.out.size (by rw [World.size_alloc];exact Nat.le_succ _));have HKP : Hid (∀ (v' : Value) W2,((w6.drew).alloc (.cells (zAa ⟨x.id,true⟩) 59)).grownBy W2 ((aget (aput mo x.a v2) x.b).getD nilS).ownBlock→zAe W2 (w.heap.size + 1 + 1 + 1 + 1) 125 #[.slice aj js.length cj, .slice (some ⟨bl,ol,none⟩) ls.length cl, .map (some (w.heap.size + 1)), .map (some (w.heap.size + 1 + 1)), .map (some (w.heap.size + 1 + 1 + 1))]∧zAe W2 wr.heap.size 31 (zAd x)∧MapAt vi id I64 W2 (w.heap.size + 1 + 1 + 1) (aput mo x.a v2)):=zz fun v' W2 hg=>by
    have h1:=HNx.out.size;have e : ∀ k,k < (w6.drew).heap.size→(k < w.heap.size + 5 ∨ k = wr.heap.size)→W2.heap[k]? = ((w6.drew).alloc (.cells (zAa ⟨x.id,true⟩) 59)).heap[k]?:=fun k hk hk2=>hg.block k (Nat.lt_of_lt_of_le hk (by rw [World.size_alloc];exact Nat.le_succ _)) (fun e=>by
     rcases hk2 with hk2 | hk2
     ·have:=(hfo _ _ e.symm).1;omega
     ·exact HNO2.out _ _ e.symm hk2)
    exact ⟨(HS1.out.1.alloc _).of_block (e _ (by omega) (.inl (by omega))),(HS1.out.2.1.alloc _).of_block (e _ HS1.out.2.1.lt (.inr rfl)),(HS1.out.2.2.alloc _).of_block (e _ (by omega) (.inl (by omega)))⟩
   go_wp2;have HLN : Hid ((if x.b = x.a then zAp x.b (ls.take k) ++ [⟨x.id,false⟩] else zAp x.b (ls.take k)).length + 1 ≤ 4294967296):=zz (by
    rw [if_neg (Ne.symm HAB.out)];have:=HLE.out x.b;omega)
   refine zCb (fun W=>zAe W (w.heap.size + 1 + 1 + 1 + 1) 125 #[.slice aj js.length cj, .slice (some ⟨bl,ol,none⟩) ls.length cl, .map (some (w.heap.size + 1)), .map (some (w.heap.size + 1 + 1)), .map (some (w.heap.size + 1 + 1 + 1))]∧zAe W wr.heap.size 31 (zAd x)∧MapAt vi id I64 W (w.heap.size + 1 + 1 + 1) (aput mo x.a v2)) 18 [(0,none),(1,none),(2,none),(4,none),(6,none),(7,none),(8,none),(10,none),(13,none),(3,some true),(5,some true),(9,some true),(11,some true),(12,some true),(14,some true),(15,none),(16,some false),(17,some false),(18,some false)] rfl (by kernel_rfl) (by kernel_rfl) (fun d _ _ _ _ h=>by cases d <;> exact h) HS1.out ?_;iterate 9 (refine zBQ rfl rfl (fun W=>by go_simp;with_reducible rfl) ?_;simp only [pT])
   refine zBA (v:=.map (some (w.heap.size + 1 + 1 + 1))) rfl rfl (fun W hW=>by have e : W.cell? ⟨w.heap.size + 1 + 1 + 1 + 1,4,none⟩ = some (.map (some (w.heap.size + 1 + 1 + 1))):=(hW.1.cell 4).trans rfl;go_simp) ?_;simp only [pT];refine zBA (v:=.int .i64 x.b) rfl rfl (fun W hW=>by have e : W.cell? ⟨wr.heap.size,2,none⟩ = some (.int .i64 x.b):=(hW.2.1.cell 2).trans rfl;go_simp) ?_;simp only [pT];refine zBA (v:=.map (some (w.heap.size + 1 + 1 + 1))) rfl rfl (fun W hW=>by have e : W.cell? ⟨w.heap.size + 1 + 1 + 1 + 1,4,none⟩ = some (.map (some (w.heap.size + 1 + 1 + 1))):=(hW.1.cell 4).trans rfl;go_simp) ?_;simp only [pT];refine zBA (v:=.int .i64 x.b) rfl rfl (fun W hW=>by have e : W.cell? ⟨wr.heap.size,2,none⟩ = some (.int .i64 x.b):=(hW.2.1.cell 2).trans rfl;go_simp) ?_;simp only [pT];refine zBA (v:=(aget (aput mo x.a v2) x.b).getD nilS) rfl rfl (fun W hW=>zA6 zAQ zuH nilS (zDU _) rfl hW.2.2 x.b HXI.out.2.2 rfl) ?_;simp only [pT];refine zBA (v:=.int .i64 x.id) rfl rfl (fun W hW=>by have e : W.cell? ⟨wr.heap.size,0,none⟩ = some (.int .i64 x.id):=(hW.2.1.cell 0).trans rfl;go_simp) ?_;simp only [pT];refine zBQ (v:=.agg (zAa ⟨x.id,true⟩)) rfl rfl (fun W=>by go_simp;rfl) ?_;simp only [pT];refine zCp rfl rfl rfl (fun K hK=>?_)
   go_simp
   refine hK _ _ ⟨HS1.out.1.alloc _,HS1.out.2.1.alloc _,HS1.out.2.2.alloc _⟩ ?_;clear hK K
   try simp only [pT]
   refine zCp rfl rfl rfl (fun K hK=>?_);refine zCa _ _ 62 rfl (w.heap.size + 5) zB3 (fun _=>rfl) (by decide) zAn (by decide) ((aget (aput mo x.a v2) x.b).getD nilS) _ rfl (HOW.out.belowAll ((Below.refl _ _).alloc (Nat.le_refl _) _)) (w6.drew).heap.size 0 1 ⟨x.id,true⟩ rfl (fun j hj=>by have h:=(zAe.new (w6.drew) 59 (zAa ⟨x.id,true⟩)).cell (0 + j);rw [Nat.zero_add] at h ⊢;exact h) HLN.out HSZ.out ?_;intro v2 w5 ho5 hg5 hv5;refine hK _ _ (HKP.out nilS _ hg5) ?_;clear hK K
   try simp only [pT]
   refine zDz rfl rfl (fun K hK=>?_);refine zDT _ _ _ 123 rfl zAQ zuH rfl (HKP.out nilS _ hg5).2.2 x.b HXI.out.2.2 rfl v2 rfl ?_;intro w6 hm6 hT6;refine hK _ _ ?_;clear hK K
   try simp only [pT]
   simp only [wpE];have HNz:=zz (HNx.out.append ((Below.refl _ _).alloc (Nat.le_refl _) _) x.b ⟨x.id,true⟩ ho5 hg5 hv5 hm6 hT6);have hfin : (fun i=>if i = x.b then (if i = x.a then zAp i (ls.take k) ++ [⟨x.id,false⟩] else zAp i (ls.take k)) ++ [⟨x.id,true⟩] else (if i = x.a then zAp i (ls.take k) ++ [⟨x.id,false⟩] else zAp i (ls.take k))) = fun i=>zAp i (ls.take (k + 1)):=funext fun i=>by
    rw [zBJ HX.out,zF3];have hab:=HAB.out
    by_cases h1 : i = x.b
    ·subst h1;simp [hab,Ne.symm hab]
    ·by_cases h2 : i = x.a
     ·subst h2;simp [h1,hab,Ne.symm hab]
     ·simp [h1,h2,Ne.symm h1,Ne.symm h2]
   have HNf:=HNz.out;rw [hfin] at HNf;go_wp2;go_roundw
   case rel=>exact ⟨k + 1,by omega,by go_num,zz ⟨_,HNf⟩⟩
   case measure=>(simp [intOf];try omega)
end Go.Proofs.YtbbblemfodpmaaaGreat
