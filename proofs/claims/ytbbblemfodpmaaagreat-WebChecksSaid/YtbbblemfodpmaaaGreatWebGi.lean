/-The next side, the prior one.-/
import Derived.Test.YtbbblemfodpmaaaGreatWebNew
import Derived.Test.YtbbblemfodpmaaaGreatWebGc
import Derived.RangeFuncNested
import Derived.RangeFuncBound
import Derived.RangeFuncCalls
import Derived.RangeFuncLeaves
import Derived.Shelf.Abstract
import Derived.WalkKit
import Derived.OwnWalkIn
import Derived.TacticsInMore
import Derived.LoopNIn
import Derived.LoopIn
set_option linter.unusedVariables false
set_option linter.unusedSimpArgs false
set_option maxHeartbeats 16000000
set_option maxRecDepth 100000
section
namespace Go.Proofs.YtbbblemfodpmaaaGreat
open Go.RowKit
theorem zBs {P : Program} {fn : Func} {a : Act} {w : World} {t : Tmp} {ty : TypeId} {b : Nat} {T : TypeId} {cs : Array Value} {d : TypeDesc} (hb : zAe w b T cs) (hr : fn.results = #[.cell t ty])
  (hp : a.tmps.getD t undef = .pointer (some ⟨b,0,none⟩)) (hu : P.underlying ty = some d) (hd : (match d with | .struct _ | .array _ _=>true | _=>false) = true:=by rfl) (hi : (P.info? ty).map (·.size) = some cs.size:=by kernel_rfl) :
  (results fn a.tmps).run P w = .ok (.agg cs) w:=by
 have hl:=zCn (P:=P) w b 0 ty cs d hb.cells hu hd hi;have hp' : a.tmps[t]?.getD undef = .pointer (some ⟨b,0,none⟩):=by rw [← hp];simp
 simp [results,hr,hp',asAddr,hl]
theorem zD8 {cs : Array Value} (h : cs.all (·.oneCell') = true) : (Value.agg cs).cells.all (·.oneCell') = true:=h
theorem zAE {P : Program} {W : World} {ev : Operand→Value} {dst : Option Tmp} {ty ty0 : TypeId} {x : Operand} {pos : String} {af : Array Edge} {g : Option (Nat × Bool)} {b off : Nat} (ds : Array Value) {d : TypeDesc}
  (hc : ∀ j,j < ds.size→W.cell? ⟨b,off + j,none⟩ = ds[j]?) (hx : ev x = .pointer (some ⟨b,off,none⟩)) (hu : P.underlying ty = some d) (hd : (match d with | .struct _ | .array _ _=>true | _=>false) = true:=by rfl)
  (hi : (P.info? ty).map (·.size) = some ds.size:=by kernel_rfl) : (execOp ev ⟨dst, .load ty x,ty0,pos,af,g⟩).run P W = .ok (.value (.agg ds)) W:=by
 have hl:=zCn (P:=P) W b off ty ds d hc hu hd hi;unfold execOp;simp only [hx,Instr.loadAt,Instr.sureAddr,Sem.run_bind,Sem.run_pure,Result.andThen_ok,hl]
theorem reverse_any (s : Side) (w : World) : Calls Tryz.prog 128 #[.agg (zAa s)] w fun e w'=>e = .returned (.agg (zAa (revA s)))∧Lays w w':=by
 have hb : zAe ((w.alloc (.cells (zAa s) 59)).alloc (.cells (zAa zDg) 59)) w.heap.size 59 (zAa s):=(zAe.new _ _ _).alloc _;have c0:=(hb.cell 0).trans (show _ = some (.int .i64 s.lead) from rfl);have c1:=(hb.cell 1).trans (show _ = some (.bool s.back) from rfl);clear hb;go_enter Tryz.func128,Tryz.ntmps128;go_wp2;have hB:=zAe.new (w.alloc (.cells (zAa s) 59)) 59 (zAa (revA s));rw [World.size_alloc] at hB;exact bodyPost_ret (zBs (cs:=zAa (revA s)) hB rfl rfl zuA) rfl ⟨rfl,((Lays.refl w).alloc _).alloc _⟩
theorem index_side {D : Nat→Prop} {ok : (Nat→Prop)→World→Side→Prop} (s : Sl Side) (x : Side) (w : World) (hs : s.OK 2 zAa ok D w) :
  Calls Tryz.prog 163 #[.slice s.a s.val.length s.cap, .agg (zAa x)] w fun e w'=>e = .returned (.int .i64 (idxI (fun y=>zBp x y) s.val))∧Lays w w':=by
 have hroom:=hs.room;have HS:=zz hs;have h0:=zAe.new w 59 (zAa x);have L0 : Lays w (w.alloc (.cells (zAa x) 59)):=(Lays.refl w).alloc _;have H0:=zz h0;have HL0:=zz L0;clear hs h0 L0;obtain ⟨a,cap,val⟩:=s;simp only at hroom;go_enter Tryz.func163,Tryz.ntmps163;go_wp2
 go_loopw [5,8] (fun _ i wr=>∃ k : Nat,k ≤ val.length∧i = .int .i64 k∧Hid (∀ j y,j < k→val[j]? = some y→zBp x y = false)∧Lays (w.alloc (.cells (zAa x) 59)) wr) (fun _ i _=>val.length - (intOf i).toNat)
 case atStart=>exact ⟨0,Nat.zero_le _,rfl,zz (by omega),Lays.refl _⟩
 case round=>
  obtain ⟨k,hk,rfl,hn,hB⟩:=hrel
  by_cases hlt : k < val.length
  ·obtain ⟨y,hy⟩ : ∃ y,val[k]? = some y:=⟨_,List.getElem?_eq_getElem hlt⟩
   have HX:=zz hy;obtain ⟨b,o,rfl,hb,_,hok,hcell⟩:=HS.out.at hy;have h1 : zAe wr.drew w.heap.size 59 (zAa x):=(H0.out.belowAll (hB.below (Nat.le_refl _))).drew;have HC : Hid (∀ j,j < (zAa y).size→wr.drew.cell? ⟨b,o + k * 2 + j,none⟩ = (zAa y)[j]?):=zz fun j hj=>by
    have hw:=((HL0.out.trans hB).drew).below (Nat.le_refl _);rw [(Ext.of_below (D:=fun _=>False) hw).cell hb id];exact hcell j hj
   have hbd : b < wr.drew.heap.size:=Nat.lt_of_lt_of_le hb ((HL0.out.trans hB).below (Nat.le_refl _)).size;clear hy hcell;obtain ⟨q,hq⟩ : ∃ q,zBp x y = q:=⟨_,rfl⟩
   have HQ:=zz hq;clear hq
   cases q
   case true=>
    go_wp2;refine rgO [(0,true),(1,true),(2,true),(3,true),(4,true),(5,true)] ?_;refine zAf (v:=.agg (zAa x)) rfl rfl (fun W hW=>zAc (zAa x) (h1.belowAll hW) rfl (zAg _) zuA) ?_;simp only [pT];iterate 2 (refine wB rfl ?_;simp only [pT])
    refine zAf (v:=.pointer (some ⟨b,o + k * 2,none⟩)) rfl rfl (fun W hW=>by go_simp) ?_;simp only [pT];refine zAf (v:=.agg (zAa y)) rfl rfl (fun W hW=>zAE (zAa y) (fun j hj=>(hW.cell (p:=⟨b,o + k * 2 + j,none⟩) hbd).trans (HC.out j hj)) rfl zuA) ?_;simp only [pT];refine zAf (v:=.bool true) rfl rfl (fun W hW=>by go_simp;rw [HQ.out]) ?_;simp only [pT];simp only [wpB];go_wp2;go_ret;exact ⟨by rw [zCg HX.out hn.out HQ.out];rfl,(HL0.out.trans hB).drew⟩
   case false=>
    go_wp2;refine rgO [(0,true),(1,true),(2,true),(3,true),(4,true),(5,true)] ?_;refine zAf (v:=.agg (zAa x)) rfl rfl (fun W hW=>zAc (zAa x) (h1.belowAll hW) rfl (zAg _) zuA) ?_;simp only [pT];iterate 2 (refine wB rfl ?_;simp only [pT])
    refine zAf (v:=.pointer (some ⟨b,o + k * 2,none⟩)) rfl rfl (fun W hW=>by go_simp) ?_;simp only [pT];refine zAf (v:=.agg (zAa y)) rfl rfl (fun W hW=>zAE (zAa y) (fun j hj=>(hW.cell (p:=⟨b,o + k * 2 + j,none⟩) hbd).trans (HC.out j hj)) rfl zuA) ?_;simp only [pT];refine zAf (v:=.bool false) rfl rfl (fun W hW=>by go_simp;rw [HQ.out]) ?_;simp only [pT];simp only [wpB];go_wp2;go_roundw
    case rel=>
     refine ⟨k + 1,by omega,by go_num,zz fun j y hj hy=>?_,hB.drew⟩
     rcases Nat.lt_succ_iff_lt_or_eq.1 hj with h | rfl
     ·exact hn.out j y h hy
     ·rw [HX.out] at hy;cases hy;exact HQ.out
    case measure=>simp [intOf];omega
  ·go_wp2;go_ret;refine ⟨?_,HL0.out.trans hB⟩;rw [zCy fun j y hy=>hn.out j y (by have:=(List.getElem?_eq_some_iff.1 hy).1;omega) hy]
   rfl
theorem idx_eq {x : Side} {l : List Side} (h : x ∈ l) : idxI (fun y=>zBp x y) l = ((l.idxOf x : Nat) : Int):=by
 have hi:=List.idxOf_lt_length_of_mem h;refine zCg (x:=x) (by rw [List.getElem?_eq_getElem hi,List.getElem_idxOf hi]) (fun j y hj hy=>?_) (by simp [zBp]);have hjl:=(List.getElem?_eq_some_iff.1 hy).1;have e2:=(List.getElem?_eq_some_iff.1 hy).2;have : ¬ x = y:=fun e=>by
  have:=List.not_of_lt_findIdx (p:=(· == x)) hj;simp only [List.idxOf] at hj;have:=List.not_of_lt_findIdx (p:=(· == x)) (xs:=l) hj;simp [e2,e] at this
 simp [zBp,this]
theorem ValidW.outLen {js : List Joint} {ls : List Lead} (V : ValidW js ls) (j : Int) : (outA js ls j).length ≤ 800:=by
 have h:=zDj (m:=zBz ls) (V.out_nodup j) fun x hx=>zCI.2 (V.of_leave (zDm.1 hx)).1;rw [zB7] at h;have:=V.nl;omega
theorem Sl.OK.moved {s : Sl Side} {w w' : World} (h : s.OK 2 zAa (fun _ _ _=>True) (fun _=>False) w) (hb : Below w.heap.size w w') : s.OK 2 zAa (fun _ _ _=>True) (fun _=>False) w':=h.ext (fun _ _=>trivial) (Ext.of_below hb)
theorem wpList_idxAt {ops : Array Oper} {rest : List Oper} {o : Oper} {a : Act} {w : World} {Q : Exit→Act→World→Prop} (hgd : o.guard = none) (x y : Operand) (ho : o.op = .indexAddr 62 x y) {blk off n cap i : Nat} {z : Int}
  (hx : a.eval x = .slice (some ⟨blk,off,none⟩) n cap) (hy : a.eval y = .int .i64 z) (hz : z = (i : Int)) (hi : i < n) (h : wpList Tryz.prog ops Q rest (a.put o.dst (.pointer (some ⟨blk,off + i * 2,none⟩))) w) : wpList Tryz.prog ops Q (o :: rest) a w:=
 wpList_plain hgd fun K hK=>by
  subst hz;have hi1 : (i : Int) < (n : Int):=by omega
  unfold Oper.wp execOp;simp only [ho,hx,hy]
  go_simp
  exact hK _ _ h
theorem next_any {b : Nat} {sj : Sl Joint} {sl : Sl Lead} (V : ValidW sj.val sl.val) (s : Side) (hs : zAM sl.val s) (w : World) (hN : zA5 w b sj sl) :
  Calls Tryz.prog 101 #[.pointer (some ⟨b,0,none⟩), .agg (zAa s)] w fun e w'=>e = .returned (.agg (zAa (zAV sj.val sl.val s)))∧Below w.heap.size w w':=by
 obtain ⟨ba,bl,bo,N,mo,hbN,haN,hlN,hoN,hb,hma,hml,hmo,HO⟩:=hN;have hmem:=V.rev_out hs;have hsI : I64 s.lead:=by obtain ⟨x,hx,e⟩:=hs;rw [← e];exact (V.leadI hx).1
 obtain ⟨l,hl⟩ : ∃ l,outA sj.val sl.val (zAl sl.val s).2 = l:=⟨_,rfl⟩
 obtain ⟨j1,hj1⟩ : ∃ j,(zAl sl.val s).1 = j:=⟨_,rfl⟩
 obtain ⟨j2,hj2⟩ : ∃ j,(zAl sl.val s).2 = j:=⟨_,rfl⟩
 have hjI : I64 (zAl sl.val s).2:=(V.endI s).2;have hlr : zAV sj.val sl.val s = zDp l (revA s):=by rw [← hl];rfl
 rw [hl] at hmem;obtain ⟨k,hk,hke,hkr⟩:=nextIn_at hmem;have hln:=HO.at (zAl sl.val s).2;obtain ⟨x,hx⟩ : ∃ x,l[k]'hk = x:=⟨_,rfl⟩
 obtain ⟨t,ht,hts,htok,_⟩:=hln.sl (fun _=>rfl) (fun _ _ _=>True) (fun _=>False) (fun _ _=>trivial) (fun _ _ h=>h) (by have:=V.outLen (zAl sl.val s).2;omega);rw [hl] at hts;rw [hkr,hx] at hlr;have HR:=zz hlr;have htx : t.val[k]? = some x:=by rw [hts,List.getElem?_eq_getElem hk,hx]
 obtain ⟨bb,o,hta,hbb,_,_,hcell⟩:=htok.at htx;have hle:=htok.room;have hix:=idx_eq hmem
 try rw [hj1] at hjI ht
 try rw [hj2] at hjI ht
 obtain ⟨i,hi⟩ : ∃ i,l.idxOf (revA s) = i:=⟨_,rfl⟩
 have hil : i < l.length:=by rw [← hi];exact List.idxOf_lt_length_of_mem hmem
 rw [hi] at hix hke;have hmod : ((i : Int) + (l.length : Int) - 1) % (l.length : Int) = (k : Int):=by rw [hke,Int.natCast_emod,show ((i + l.length - 1 : Nat) : Int) = (i : Int) + l.length - 1 by omega]
 obtain ⟨ta,tc,tv⟩:=t;simp only at hts hta;subst hts hta;have hL : Lays w ((w.alloc (.cells (zAa s) 59)).alloc (.cells #[.int .i64 0, .bool false] 59)):=((Lays.refl w).alloc _).alloc _;have hB : Below w.heap.size w ((w.alloc (.cells (zAa s) 59)).alloc (.cells #[.int .i64 0, .bool false] 59)):=hL.below (Nat.le_refl _);have h0 : zAe ((w.alloc (.cells (zAa s) 59)).alloc (.cells #[.int .i64 0, .bool false] 59)) w.heap.size 59 (zAa s):=(zAe.new _ _ _).alloc _;have h1 : zAe ((w.alloc (.cells (zAa s) 59)).alloc (.cells #[.int .i64 0, .bool false] 59)) (w.heap.size + 1) 59 #[.int .i64 0, .bool false]:=by have h:=zAe.new (w.alloc (.cells (zAa s) 59)) 59 #[.int .i64 0, .bool false];rw [World.size_alloc] at h;exact h
 have HCE : Hid (∀ W,Below w.heap.size w W→Calls Tryz.prog 111 #[.pointer (some ⟨b,0,none⟩), .agg (zAa s)] W fun e w'=>e = .returned (.tuple #[.int .i64 j1, .int .i64 j2])∧Lays W w'):=zz fun W hW=>by
  have h:=ends_any (b:=b) (bl:=bl) (ls:=sl.val) s W (Nat.lt_of_lt_of_le hb.lt hW.size) (((hb.belowAll hW).cell 3).trans rfl) (hml.below hW hml.lt) hsI;rw [hj1,hj2] at h;exact h
 have HCX : Hid (∀ W,Below w.heap.size w W→Calls Tryz.prog 163 #[.slice (some ⟨bb,o,none⟩) tv.length tc, .agg (zAa (revA s))] W fun e w'=>e = .returned (.int .i64 i)∧Lays W w'):=zz fun W hW=>by
  have h:=index_side (D:=fun _=>False) ⟨some ⟨bb,o,none⟩,tc,tv⟩ (revA s) W (htok.moved hW);rw [show idxI (fun y=>zBp (revA s) y) tv = (i : Int) from hix] at h;exact h
 have HC3 : Hid (∀ W,Below w.heap.size w W→W.cell? ⟨b,4,none⟩ = some (.map (some bo))):=zz fun W hW=>((hb.belowAll hW).cell 4).trans rfl;have HMO : Hid (∀ W,Below w.heap.size w W→MapAt vi id I64 W bo mo):=zz fun W hW=>hmo.below hW hmo.lt;have HT:=zz ht;have HJ:=zz hjI;have HC : Hid (∀ W,Below w.heap.size w W→∀ j,j < (zAa x).size→W.cell? ⟨bb,o + k * 2 + j,none⟩ = (zAa x)[j]?):=zz fun W hW j hj=>(hW.cell (p:=⟨bb,o + k * 2 + j,none⟩) hbb).trans (hcell j hj);clear hb hma hml hmo HO hsI hjI hke hcell htok ht hln;go_enter Tryz.func101,Tryz.ntmps101
 go_wp2_with (first
  | (refine zLd 10 h0 (zAa s) zuA ?_)
  | (go_at_call 111;(with_reducible refine (HCE.out _ hB).mono ?_);rintro e w1 ⟨rfl,l1⟩;have hb1:=l1.below (Nat.le_refl _);have hB1:=hB.trans (hb1.mono hB.size);have g0:=h0.belowAll hb1;have g1:=h1.belowAll hb1;have C3:=HC3.out _ hB1;have M1:=HMO.out _ hB1)
  | ((with_reducible refine zAm 19 ?_);refine zAY rfl _ _ 123 rfl zAQ zuH nilS (zDU _) rfl M1 _ HJ.out rfl ?_;rw [HT.out])
  | (refine zLd 22 g0 (zAa s) zuA ?_)
  | (go_at_call 128;(with_reducible refine (reverse_any _ _).mono ?_);rintro e w2 ⟨rfl,l2⟩;have hb2:=l2.below (Nat.le_refl _);have hB2:=hB1.trans (hb2.mono hB1.size);have g3:=g1.belowAll hb2)
  | (go_at_call 163;(with_reducible refine (HCX.out _ hB2).mono ?_);rintro e w3 ⟨rfl,l3⟩;have hb3:=l3.below (Nat.le_refl _);have hB3:=hB2.trans (hb3.mono hB2.size);have g4:=g3.belowAll hb3)
  | ((with_reducible refine zAm 32 ?_);refine wpList_idxAt rfl _ _ rfl rfl rfl hmod hk ?_)
  | ((with_reducible refine zAm 33 ?_);refine zLe 33 bb (o + k * 2) (zAa x) (HC.out _ hB3) zuA ?_)
  | ((with_reducible refine zAv 59 ?_);refine zAS g4 rfl 59 _ _ rfl rfl (.agg (zAa x)) rfl (by kernel_rfl) rfl (zD8 (zAn _)) ?_;intro w4 hb4 ht4))
 exact bodyPost_ret (zBs (cs:=zAa x) (hb4.eqv (by simp [zAx,zAa,Value.cells])) rfl rfl zuA) rfl ⟨by rw [HR.out],hB3.trans (ht4.below (by omega))⟩
end Go.Proofs.YtbbblemfodpmaaaGreat
end
section
namespace Go.Proofs.YtbbblemfodpmaaaGreat
open Go.RowKit
theorem cmA_zero (js : List Joint) : ∀ (acc ls : List Lead),(cmA js acc ls).1 = 0→cmA js acc ls = (0,0)
 | _,[],_=>by simp [cmA]
 | acc,l :: ls,h=>by
  unfold cmA at h ⊢
  split at h
  ·simp at h
  ·rename_i h1;rw [if_neg h1];exact cmA_zero js _ ls h
theorem zF4 {js : List Joint} {ls : List Lead} (h : (zAK js ls).1 = 0) : zAK js ls = (0,0):=by
 unfold zAK at h ⊢
 repeat' split at h
 ·simp at h
 ·simp at h
 ·simp at h
 ·rename_i h1 h2 h3;rw [if_neg h1,if_neg h2,if_neg h3];exact cmA_zero js _ _ h
theorem zDB {js : List Joint} {ls : List Lead} (h : (zAK js ls).1 = 0) : ValidW js ls:=validW (zF4 h)
theorem Sl.OK.jmoved {s : Sl Joint} {w w' : World} (h : s.OK 3 zAh zAs (fun _=>False) w) (hb : Below w.heap.size w w') : s.OK 3 zAh zAs (fun _=>False) w':=h.ext (fun _ k=>k.ext (Ext.of_below hb)) (Ext.of_below hb)
theorem Sl.OK.lmoved {s : Sl Lead} {w w' : World} (h : s.OK 8 zAd zAA (fun _=>False) w) (hb : Below w.heap.size w w') : s.OK 8 zAd zAA (fun _=>False) w':=h.ext (fun _ k=>k.ext (Ext.of_below hb)) (Ext.of_below hb)
def NetOut (sj : Sl Joint) (sl : Sl Lead) (w : World) (e : Ending) (w' : World) : Prop:=∃ b,e = .returned (.tuple #[.pointer (some ⟨b,0,none⟩), .int .i64 0])∧w.heap.size ≤ b∧zA5 w' b sj sl∧Below w.heap.size w w'
theorem zEd (sj : Sl Joint) (sl : Sl Lead) (w : World) (hj : sj.OK 3 zAh zAs (fun _=>False) w) (hl : sl.OK 8 zAd zAA (fun _=>False) w) (h0 : (zAK sj.val sl.val).1 = 0) :
  Calls Tryz.prog 86 #[.agg #[.slice sj.a sj.val.length sj.cap, .slice sl.a sl.val.length sl.cap]] w (NetOut sj sl w):=by
 have HV:=zz (zDB h0);have HC:=zz (zEq sj sl (w.alloc (.cells #[.slice sj.a sj.val.length sj.cap, .slice sl.a sl.val.length sl.cap] 25)) (hj.jmoved ((Below.refl _ _).alloc (Nat.le_refl _) _)) (hl.lmoved ((Below.refl _ _).alloc (Nat.le_refl _) _)));have hb:=zAe.new w 25 #[.slice sj.a sj.val.length sj.cap, .slice sl.a sl.val.length sl.cap];have hB : Below w.heap.size w (w.alloc (.cells #[.slice sj.a sj.val.length sj.cap, .slice sl.a sl.val.length sl.cap] 25)):=(Below.refl _ _).alloc (Nat.le_refl _) _;have HN : Hid (∀ W,Below w.heap.size w W→Calls Tryz.prog 152 #[.agg #[.slice sj.a sj.val.length sj.cap, .slice sl.a sl.val.length sl.cap]] W fun e w'=>e = .returned (.pointer (some ⟨W.heap.size + 1 + 1 + 1 + 1,0,none⟩))∧zA5 w' (W.heap.size + 1 + 1 + 1 + 1) sj sl∧Below W.heap.size W w'):=zz fun W hW=>
  newNet_any sj sl W (hj.jmoved hW) (hl.lmoved hW) HV.out
 rw [zF4 h0] at HC;clear hj hl h0;go_enter Tryz.func86,Tryz.ntmps86
 go_wp2_with (first
  | (refine zLd 7 hb #[.slice sj.a sj.val.length sj.cap, .slice sl.a sl.val.length sl.cap] zuC ?_)
  | (go_at_call 18;refine HC.out.mono ?_;rintro e w1 ⟨rfl,hb1⟩;have g1:=hb.belowAll hb1;have hB1:=hB.trans (hb1.mono hB.size))
  | (refine zLd 14 g1 #[.slice sj.a sj.val.length sj.cap, .slice sl.a sl.val.length sl.cap] zuC ?_)
  | (go_at_call 152;(with_reducible refine (HN.out _ hB1).mono ?_);rintro e w2 ⟨rfl,hn2,hb2⟩;have hB2:=hB1.trans (hb2.mono hB1.size)))
 go_ret2;exact ⟨_,rfl,by have:=hB1.size;omega,hn2,hB2⟩
theorem valid_bad (sj : Sl Joint) (sl : Sl Lead) (w : World) (hj : sj.OK 3 zAh zAs (fun _=>False) w) (hl : sl.OK 8 zAd zAA (fun _=>False) w) (h0 : (zAK sj.val sl.val).1 ≠ 0) :
  Calls Tryz.prog 86 #[.agg #[.slice sj.a sj.val.length sj.cap, .slice sl.a sl.val.length sl.cap]] w fun e w'=>e = .returned (.tuple #[.pointer none, .int .i64 (zAK sj.val sl.val).1])∧Below w.heap.size w w':=by
 have HC:=zz (zEq sj sl (w.alloc (.cells #[.slice sj.a sj.val.length sj.cap, .slice sl.a sl.val.length sl.cap] 25)) (hj.jmoved ((Below.refl _ _).alloc (Nat.le_refl _) _)) (hl.lmoved ((Below.refl _ _).alloc (Nat.le_refl _) _)));have hb:=zAe.new w 25 #[.slice sj.a sj.val.length sj.cap, .slice sl.a sl.val.length sl.cap];have hB : Below w.heap.size w (w.alloc (.cells #[.slice sj.a sj.val.length sj.cap, .slice sl.a sl.val.length sl.cap] 25)):=(Below.refl _ _).alloc (Nat.le_refl _) _;obtain ⟨n,hn⟩ : ∃ n,(zAK sj.val sl.val).1 = n:=⟨_,rfl⟩
 rw [hn] at h0 HC ⊢;clear hj hl;go_enter Tryz.func86,Tryz.ntmps86
 go_wp2_with (first
  | (refine zLd 7 hb #[.slice sj.a sj.val.length sj.cap, .slice sl.a sl.val.length sl.cap] zuC ?_)
  | (go_at_call 18;refine HC.out.mono ?_;rintro e w1 ⟨rfl,hb1⟩;have hB1:=hB.trans (hb1.mono hB.size)))
 go_ret2;exact ⟨rfl,hB1⟩
theorem has_net {b : Nat} {sj : Sl Joint} {sl : Sl Lead} (s : Side) (hi : I64 s.lead) (w : World) (hN : zA5 w b sj sl) :
  Calls Tryz.prog 115 #[.pointer (some ⟨b,0,none⟩), .agg (zAa s)] w fun e w'=>e = .returned (.bool (zBT sl.val s.lead).isSome)∧Lays w w':=by
 obtain ⟨ba,bl,bo,N,mo,hbN,haN,hlN,hoN,hb,hma,hml,hmo,HO⟩:=hN;exact has_any s w hb.lt ((hb.cell 3).trans rfl) hml hi
theorem zEZ {b : Nat} {sj : Sl Joint} {sl : Sl Lead} (s : Side) (hi : I64 s.lead) (w : World) (hN : zA5 w b sj sl) :
  Calls Tryz.prog 111 #[.pointer (some ⟨b,0,none⟩), .agg (zAa s)] w fun e w'=>e = .returned (.tuple #[.int .i64 (zAl sl.val s).1, .int .i64 (zAl sl.val s).2])∧Lays w w':=by
 obtain ⟨ba,bl,bo,N,mo,hbN,haN,hlN,hoN,hb,hma,hml,hmo,HO⟩:=hN;exact ends_any s w hb.lt ((hb.cell 3).trans rfl) hml hi
theorem sided_ok (sj : Sl Joint) (sl : Sl Lead) (s : Side) (w : World) (hj : sj.OK 3 zAh zAs (fun _=>False) w) (hl : sl.OK 8 zAd zAA (fun _=>False) w) (hi : I64 s.lead) (h0 : (zAK sj.val sl.val).1 = 0) (hs : (zBT sl.val s.lead).isSome = true) :
  Calls Tryz.prog 100 #[.agg #[.slice sj.a sj.val.length sj.cap, .slice sl.a sl.val.length sl.cap], .agg (zAa s)] w (NetOut sj sl w):=by
 have hL : Lays w ((w.alloc (.cells #[.slice sj.a sj.val.length sj.cap, .slice sl.a sl.val.length sl.cap] 25)).alloc (.cells (zAa s) 59)):=((Lays.refl w).alloc _).alloc _;have hB : Below w.heap.size w ((w.alloc (.cells #[.slice sj.a sj.val.length sj.cap, .slice sl.a sl.val.length sl.cap] 25)).alloc (.cells (zAa s) 59)):=hL.below (Nat.le_refl _);have hb : zAe ((w.alloc (.cells #[.slice sj.a sj.val.length sj.cap, .slice sl.a sl.val.length sl.cap] 25)).alloc (.cells (zAa s) 59)) w.heap.size 25 #[.slice sj.a sj.val.length sj.cap, .slice sl.a sl.val.length sl.cap]:=(zAe.new _ _ _).alloc _;have hc : zAe ((w.alloc (.cells #[.slice sj.a sj.val.length sj.cap, .slice sl.a sl.val.length sl.cap] 25)).alloc (.cells (zAa s) 59)) (w.heap.size + 1) 59 (zAa s):=by have h:=zAe.new (w.alloc (.cells #[.slice sj.a sj.val.length sj.cap, .slice sl.a sl.val.length sl.cap] 25)) 59 (zAa s);rw [World.size_alloc] at h;exact h
 have HI:=zz hi;have HC:=zz (zEd sj sl ((w.alloc (.cells #[.slice sj.a sj.val.length sj.cap, .slice sl.a sl.val.length sl.cap] 25)).alloc (.cells (zAa s) 59)) (hj.jmoved hB) (hl.lmoved hB) h0);have HS:=zz hs;clear hs h0;clear hj hl hi;go_enter Tryz.func100,Tryz.ntmps100
 go_wp2_with (first
  | (refine zLd 9 hb #[.slice sj.a sj.val.length sj.cap, .slice sl.a sl.val.length sl.cap] zuC ?_)
  | (go_at_call 86;refine HC.out.mono ?_;rintro e w1 ⟨b,rfl,hbb,hn1,hb1⟩;have hB1:=hB.trans (hb1.mono hB.size);have g1:=hc.belowAll hb1;have sz:=hb1.size)
  | (refine zLd 17 g1 (zAa s) zuA ?_)
  | (go_at_call 115;refine (has_net s HI.out _ hn1).mono ?_;rintro e w2 ⟨rfl,l2⟩;rw [HS.out]))
 go_ret2;exact ⟨b,rfl,Nat.le_trans hB.size hbb,hn1.below (l2.below (Nat.le_refl _)),hB1.trans ((l2.below (Nat.le_refl _)).mono hB1.size)⟩
end Go.Proofs.YtbbblemfodpmaaaGreat
end
section
namespace Go.Proofs.YtbbblemfodpmaaaGreat
open Go.RowKit
def SeqTb {α : Type} (F : Fence) (n : Nat) (P : Program) (gf : Nat) (lb : Array Value) (encs : α→Array Value) (xs : List α) (w0 : World) : Prop:=
 ∀ (l : Nat) (J : Nat→List α→World→Prop) (W : World),Below w0.heap.size w0 W→
  (∀ tb pre A B row,J tb pre A→A.grownBy B row→(∀ r,row = some r→r = tb)→J tb pre B)→
  (∀ tb tb' pre A,J tb pre A→A.heap.size ≤ tb'→J tb' pre A)→
  (∀ tb pre x A,J tb pre A→tb < A.heap.size→w0.heap.size ≤ tb→pre.length < xs.length→YieldAt F (n - 1) P l (encs x) A fun e B=>e = .returned (.bool true)∧J tb (pre ++ [x]) B∧B.heap[tb]? = A.heap[tb]?∧Below w0.heap.size A B)→
  (∀ tb,W.heap.size ≤ tb→J tb [] W)→
  CallsIn F n P gf (#[.func (.yield l) #[] #[]] ++ lb) W fun e W'=>(∃ v,e = .returned v)∧∃ tb,J tb xs W'∧Below w0.heap.size W W'
theorem zFv {F : Fence} {n : Nat} {P : Program} {α : Type} {g : Operand} {ps : Array Tmp} {assign body : Code} {Q : Exit→Act→World→Prop} {a : Act} {w : World}
  (hro : F.round = none) (h1 : 1 ≤ n) {gf : Nat} {lb : Array Value} (hg : a.eval g = .func (.func gf) #[] lb) (hFg : F.fn gf) (eg : ∀ args w,(callFunc gf args).run P w = .ok (.enter gf args) w)
  {encs : α→Array Value} {xs : List α} {w0 : World} (hseq : SeqTb F (n - 1) P gf lb encs xs w0) (hb0 : Below w0.heap.size w0 w) (hps : ∀ x,(encs x).size = ps.size)
  (I : Nat→List α→World→Prop)
  (hIT : ∀ tb pre A B row,I tb pre A→A.grownBy B row→(∀ r,row = some r→r = tb ∨ (w.heap.size ≤ r∧∃ o : Obj,A.heap[r]? = some o∧o.isCells = false))→I tb pre B)
  (hIN : ∀ tb tb' pre A,I tb pre A→A.heap.size ≤ tb'→I tb' pre A)
  (h0 : ∀ tb,w.heap.size ≤ tb→I tb [] w)
  (Ax : α→Act→World→Prop) (hAx : ∀ x a',OwnFrom w.heap.size (fun (_ : Unit) W=>Ax x a' W))
  (hassign : ∀ (l tb : Nat) (pre : List α) (x : α) (W : World) (K : Act→World→Prop),I tb pre W→tb < W.heap.size→
   (∀ a' W',KeepsFrom w.heap.size W W'→Below w0.heap.size W W'→W'.heap[tb]? = W.heap[tb]?→I tb pre W'→Ax x a' W'→K a' W')→
   assign.wpIn (F.inRound l) (n - 1 - 1) P (Exit.then K (fun _ _ _=>False)) { tmps:=(ps.zip (encs x)).foldl (fun t (p,v)=>t.setIfInBounds p v) a.tmps,defers:=[] } W)
  (hbody : ∀ (l tb : Nat) (pre : List α) (x : α) (a' : Act) (W : World),w.heap.size ≤ l→(∃ r,W.heap[l]? = some (.loop r))→I tb pre W→tb < W.heap.size→Ax x a' W→pre.length < xs.length→
   body.wpIn (F.inRound l) (n - 1 - 1) P (fun e _ W'=>e = .normal∧KeepsFrom w.heap.size W W'∧Below w0.heap.size W W'∧W'.heap[tb]? = W.heap[tb]?∧I tb (pre ++ [x]) W') a' W)
  (hdone : ∀ (D tb : Nat) (W : World),w.heap.size ≤ D→I tb xs W→W.heap[D]? = some (.deferred (some []))→Q .normal { a with defers:={ target:=.collected D,args:=#[] } :: a.defers } W) :
  (Code.rangeFunc g ps assign body).wpIn F n P Q a w:=by
 refine wpIn_rangeFunc ?_;intro fn hfn;rw [hro];obtain ⟨rec,hrec⟩ : ∃ rec : LoopState→Option Code→Loop,rec = fun st pe=>{ state:=st,pending:=pe,fn,tmps:=a.tmps,params:=ps,assign,body,defers:=w.heap.size }:=⟨_,rfl⟩
 obtain ⟨W1,hW1⟩ : ∃ W1,(w.alloc (.deferred (some []))).alloc (.loop (rec .ready none)) = W1:=⟨_,rfl⟩
 have hL1 : W1.heap[w.heap.size + 1]? = some (.loop (rec .ready none)):=by
  rw [← hW1];have:=World.alloc_heap_new (w.alloc (.deferred (some []))) (.loop (rec .ready none));rwa [World.size_alloc] at this
 have hK1 : W1.heap[w.heap.size]? = some (.deferred (some [])):=by
  rw [← hW1];exact (Below.heap_alloc _ _ _ (by simp)).trans (World.alloc_heap_new w _)
 have hs1 : W1.heap.size = w.heap.size + 1 + 1:=by rw [← hW1];simp
 have hI1 : ∀ tb,W1.heap.size ≤ tb→I tb [] W1:=fun tb htb=>by
  rw [← hW1] at htb ⊢;simp at htb;exact hIT tb [] _ _ none (hIT tb [] _ _ none (h0 tb (by omega)) (World.grownBy_alloc w _ none) (fun r e=>by cases e)) (World.grownBy_alloc _ _ none) (fun r e=>by cases e)
 have hb1 : Below w0.heap.size w0 W1:=by
  rw [← hW1];exact hb0.trans ((((Below.refl _ w).alloc (Nat.le_refl _) _).alloc (by simp) _).mono hb0.size)
 have hkb : ∀ (A : World) (l : Nat) (o : Obj),w.heap.size ≤ l→l < A.heap.size→Below w0.heap.size A (A.putObj l o):=fun A l o hl hA=>
  (Below.refl _ A).grown (grownBy_putObj' A l o) (by have:=hb0.size;omega) (fun k e=>by cases e;have:=hb0.size;omega)
 have hput : ∀ (tb : Nat) (pre : List α) (A : World) (l : Nat) (o o' : Obj),I tb pre A→w.heap.size ≤ l→A.heap[l]? = some o→o.isCells = false→I tb pre (A.putObj l o'):=fun tb pre A l o o' hi hl ho hc=>
  hIT tb pre A _ (some l) hi (grownBy_putObj' A l o') (fun r e=>by cases e;exact .inr ⟨hl,o,ho,hc⟩)
 refine ⟨w.heap.size + 1,[{ target:=.collected w.heap.size,args:=#[] }],W1,{ target:=.fn (.func gf) lb,args:=#[.func (.yield (w.heap.size + 1)) #[] #[]] },W1,gf,
  #[.func (.yield (w.heap.size + 1)) #[] #[]] ++ lb,W1, ?_, ?_, ?_, ?_,fun _=>h1, ?_⟩
 ·rw [← hW1,hrec];exact run_enterLoop_outer _ _ _ _ _
 ·simp only [resolve,hg];simp [go_sem]
 ·intro f' hf';simp [Target.leads] at hf';subst hf';exact hFg
 ·simp [invoke,go_sem,eg]
 ·refine (hseq (w.heap.size + 1)
   (fun tb pre W=>I tb pre W∧W.heap[w.heap.size + 1]? = some (.loop (rec .ready none))∧W.heap[w.heap.size]? = some (.deferred (some []))∧tb ≠ w.heap.size∧tb ≠ w.heap.size + 1)
   W1 hb1
   (fun tb pre A B row hs hg' hr=>⟨hIT tb pre A B row hs.1 hg' (fun r e=>.inl (hr r e)),
    (hg'.block _ (Array.getElem?_eq_some_iff.1 hs.2.1).1 (fun e=>hs.2.2.2.2 (hr _ e.symm).symm)).trans hs.2.1,
    (hg'.block _ (Array.getElem?_eq_some_iff.1 hs.2.2.1).1 (fun e=>hs.2.2.2.1 (hr _ e.symm).symm)).trans hs.2.2.1,hs.2.2.2⟩)
   (fun tb tb' pre A hs htb=>⟨hIN tb tb' pre A hs.1 htb,hs.2.1,hs.2.2.1,by have:=(Array.getElem?_eq_some_iff.1 hs.2.2.1).1;omega,by have:=(Array.getElem?_eq_some_iff.1 hs.2.1).1;omega⟩)
   ?_ (fun tb htb=>⟨hI1 tb htb,hL1,hK1,by omega,by omega⟩)).mono ?_
  ·-- one round
   rintro tb pre x W ⟨hi,hl,hk,hne1,hne2⟩ htb htb0 hlen;have hlt : w.heap.size + 1 < W.heap.size:=(Array.getElem?_eq_some_iff.1 hl).1;have hy:=run_yield (P:=P) (args:=encs x) hl (by rw [hrec];exact hps x);rw [hrec] at hy;refine ⟨fn,_,assign,body,hy,roundIn_of_wpIn hfn (hassign _ tb pre x W _ hi htb ?_)⟩;clear hy;intro a' Wa hkfa hba htba hia hax;replace hl:=hkfa.same _ _ (by omega) hl rfl;replace hk:=hkfa.same _ _ (Nat.le_refl _) hk rfl;replace hlt : w.heap.size + 1 < Wa.heap.size:=(Array.getElem?_eq_some_iff.1 hl).1;have htbW : tb < Wa.heap.size:=Nat.lt_of_lt_of_le htb hkfa.size;refine ⟨_,run_beginRound hl (by rw [hrec]), ?_⟩;have hl2 : (Wa.putObj (w.heap.size + 1) (.loop { rec .ready none with state:=.busy })).heap[w.heap.size + 1]? = some (.loop { rec .ready none with state:=.busy }):=World.putObj_heap_same hlt;have hk2 : (Wa.putObj (w.heap.size + 1) (.loop { rec .ready none with state:=.busy })).heap[w.heap.size]? = some (.deferred (some [])):=(World.putObj_heap_other (by omega)).trans hk;have htb2 : (Wa.putObj (w.heap.size + 1) (.loop { rec .ready none with state:=.busy })).heap[tb]? = Wa.heap[tb]?:=World.putObj_heap_other hne2;have hw2:=hkb Wa (w.heap.size + 1) (.loop { rec .ready none with state:=.busy }) (by omega) hlt;refine wpIn_mono (hbody _ tb pre x a' _ (by omega) ⟨_,hl2⟩ (hput tb pre Wa _ _ _ hia (by omega) hl rfl) (by simpa using htbW) ((hAx x a').putObj (s:=()) _ hax (by omega) hl rfl) hlen) ?_;rintro e a3 W3 ⟨rfl,hk3,hb3,htb3,hi3⟩;have hl3:=hk3.same _ _ (by omega) hl2 rfl;have hl3t : w.heap.size + 1 < W3.heap.size:=(Array.getElem?_eq_some_iff.1 hl3).1;have hr3:=run_endRound (P:=P) none hl3;have hl3':=hl3;rw [hrec] at hr3 hl3';have hk4:=hk3.same _ _ (Nat.le_refl _) hk2 rfl;refine ⟨_,_,hr3,rfl,⟨hput tb _ W3 _ _ _ hi3 (by omega) hl3 rfl, ?_,(World.putObj_heap_other (by omega)).trans hk4,hne1,hne2⟩, ?_, ?_⟩
   ·rw [hrec];exact World.putObj_heap_same hl3t
   ·exact (World.putObj_heap_other hne2).trans (htb3.trans (htb2.trans htba))
   ·exact hba.trans (hw2.trans (hb3.trans (hkb W3 _ _ (by omega) hl3t)))
  ·-- behind the iterator
   rintro e W2 ⟨⟨v,rfl⟩,tb,⟨hi,hl,hk,hne1,hne2⟩,hb2⟩;exact ⟨none,_,by have:=run_endLoop (P:=P) hl (by rw [hrec];simp);rw [hrec] at this;exact this,hdone _ tb _ (Nat.le_refl _) (hput tb _ _ _ _ _ hi (by omega) hl rfl) ((World.putObj_heap_other (by omega)).trans hk)⟩
end Go.Proofs.YtbbblemfodpmaaaGreat
end
