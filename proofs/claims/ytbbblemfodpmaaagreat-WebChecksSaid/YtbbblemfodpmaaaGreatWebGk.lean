/-What hangs together: the visit of a joint.-/
import Derived.Test.YtbbblemfodpmaaaGreatWebGj
set_option linter.unusedVariables false
set_option linter.unusedSimpArgs false
set_option maxHeartbeats 16000000
set_option maxRecDepth 100000
section
namespace Go.Proofs.YtbbblemfodpmaaaGreat
open Go.RowKit
def zAT (js : List Joint) (ls : List Lead) (joint lead first : Int) : Nat→List (Int × Int)→Int→List (Int × Int)
 | 0,m,_=>m
 | f + 1,m,j=>if (ahas m j || decide (j = joint)) = true then m else (outA js ls j).foldl (fun m s=>if s.lead = lead then m else zAT js ls joint lead first f m (zAl ls s).2) (aput m j first)
def zCw (js : List Joint) (m : List (Int × Int)) : Nat:=(js.filter fun j=>!ahas m j.id).length
theorem zFo {js : List Joint} {m m' : List (Int × Int)} (h : ∀ i,ahas m i = true→ahas m' i = true) : zCw js m' ≤ zCw js m:=by
 unfold zCw
 induction js with
 | nil=>simp
 | cons j js ih=>
  simp only [List.filter_cons]
  cases h1 : ahas m j.id
  ·cases h2 : ahas m' j.id <;> simp <;> omega
  ·rw [h _ h1];simpa using ih
theorem left_put {js : List Joint} {m : List (Int × Int)} {j v : Int} (hj : ∃ x ∈ js,x.id = j) (hn : ahas m j = false) : zCw js (aput m j v) < zCw js m:=by
 obtain ⟨x,hx,rfl⟩:=hj;unfold zCw
 induction js with
 | nil=>cases hx
 | cons y js ih=>
  have hm:=zFo (js:=js) (m:=m) (m':=aput m x.id v) (fun i hi=>by rw [zCJ,hi];simp);unfold zCw at hm;simp only [zCJ,Bool.not_or] at hm;simp only [List.filter_cons,zCJ,Bool.not_or]
  rcases List.mem_cons.1 hx with rfl | hx
  ·simp [hn];omega
  ·have h:=ih hx;simp only [zCJ,Bool.not_or] at h
   cases h1 : ahas m y.id
   ·by_cases e : y.id = x.id
    ·simp [e];omega
    ·simp [e];omega
   ·simp;exact h
theorem zE1 (js : List Joint) (ls : List Lead) (joint lead first : Int) : ∀ (f : Nat) (m : List (Int × Int)) (j i : Int),ahas m i = true→ahas (zAT js ls joint lead first f m j) i = true
 | 0,m,j,i,h=>h
 | f + 1,m,j,i,h=>by
  unfold zAT
  split
  ·exact h
  ·have key : ∀ (l : List Side) (m : List (Int × Int)),ahas m i = true→ahas (l.foldl (fun m s=>if s.lead = lead then m else zAT js ls joint lead first f m (zAl ls s).2) m) i = true:=by
    intro l
    induction l with
    | nil=>exact fun m h=>h
    | cons s l ih=>
     intro m h;rw [List.foldl_cons];refine ih _ ?_
     split
     ·exact h
     ·exact zE1 js ls joint lead first f m _ i h
   exact key _ _ (by rw [zCJ,h];simp)
structure VisitAt (w0 : World) (b bm cp cj cn cl cv : Nat) (joint lead : Int) (W : World) : Prop where
 below : Below w0.heap.size w0 W
 base : w0.heap.size ≤ bm
 part : zAe W cp 168 #[.map (some bm)]
 jnt : zAe W cj 3 #[vi joint]
 net : zAe W cn 109 #[.pointer (some ⟨b,0,none⟩)]
 led : zAe W cl 3 #[vi lead]
 vis : zAe W cv 224 #[.func (.func 170) #[] #[.pointer (some ⟨cp,0,none⟩), .pointer (some ⟨cj,0,none⟩), .pointer (some ⟨cn,0,none⟩), .pointer (some ⟨cl,0,none⟩), .pointer (some ⟨cv,0,none⟩)]]
 ne : cp ≠ bm∧cj ≠ bm∧cn ≠ bm∧cl ≠ bm∧cv ≠ bm
theorem VisitAt.grown {w0 W W' : World} {b bm cp cj cn cl cv : Nat} {joint lead : Int} (h : VisitAt w0 b bm cp cj cn cl cv joint lead W) (hg : W.grownBy W' (some bm)) : VisitAt w0 b bm cp cj cn cl cv joint lead W':=by
 obtain ⟨n1,n2,n3,n4,n5⟩:=h.ne;have key : ∀ {c : Nat} {T : TypeId} {cs : Array Value},zAe W c T cs→c ≠ bm→zAe W' c T cs:=fun hb hn=>hb.of_block (hg.block _ hb.lt (fun e=>hn (by simpa using e)));exact ⟨h.below.grown hg h.below.size (fun k e=>by cases e;exact h.base),h.base,key h.part n1,key h.jnt n2,key h.net n3,key h.led n4,key h.vis n5,h.ne⟩
theorem zCB {A B C : World} {r : Option Nat} (h : A.grownBy B r) (k : B.grownBy C r) : A.grownBy C r:=
 ⟨k.os.trans h.os,k.tape.trans h.tape,k.output.trans h.output,Nat.le_trans h.size k.size,fun i hi hr=>(k.block i (Nat.lt_of_lt_of_le hi h.size) hr).trans (h.block i hi hr)⟩
theorem zCR {A B : World} {r : Option Nat} (h : Below A.heap.size A B) : A.grownBy B r:=⟨h.os,h.tape,h.output,h.size,fun i hi _=>h.block i hi⟩
theorem visit_any {sj : Sl Joint} {sl : Sl Lead} (V : ValidW sj.val sl.val) {w0 : World} {b bm cp cj cn cl cv : Nat} (hN : zA5 w0 b sj sl) (joint lead first : Int) (hf : I64 first) : ∀ (f : Nat) (m : List (Int × Int)) (j : Int) (W : World),zCw sj.val m < f→(∃ x ∈ sj.val,x.id = j)→VisitAt w0 b bm cp cj cn cl cv joint lead W→MapAt vi vi I64 W bm m→
  Calls Tryz.prog 170 #[.int .i64 j, .int .i64 first, .pointer (some ⟨cp,0,none⟩), .pointer (some ⟨cj,0,none⟩), .pointer (some ⟨cn,0,none⟩), .pointer (some ⟨cl,0,none⟩), .pointer (some ⟨cv,0,none⟩)] W fun e W'=>(∃ v,e = .returned v)∧MapAt vi vi I64 W' bm (zAT sj.val sl.val joint lead first f m j)∧W.grownBy W' (some bm):=by
 intro f
 induction f with
 | zero=>intro m j W h;omega
 | succ f ih=>
 intro m j W hlf hj hA hm;have IH:=zz ih;have HLF:=zz hlf;have HJ:=zz hj;have HA:=zz hA;have HM:=zz hm;have hjI : I64 j:=by obtain ⟨x,hx,e⟩:=hj;rw [← e];exact V.idI hx
 have HJI:=zz hjI;have q1:=(hA.part.cell 0).trans (show _ = some (.map (some bm)) from rfl);have q2:=(hA.jnt.cell 0).trans (show _ = some (.int .i64 joint) from rfl);have HVS : Hid (zAT sj.val sl.val joint lead first (f + 1) m j = if (ahas m j || decide (j = joint)) = true then m else (outA sj.val sl.val j).foldl (fun m s=>if s.lead = lead then m else zAT sj.val sl.val joint lead first f m (zAl sl.val s).2) (aput m j first)):=zz (by rw [zAT]);clear ih hlf hj hA hjI;obtain ⟨c,hc⟩ : ∃ c,ahas m j = c:=⟨_,rfl⟩
 have HC:=zz hc;clear hc
 cases c
 case true=>
  go_enter Tryz.func170,Tryz.ntmps170
  go_wp2_with (first
   | ((with_reducible refine zAm 18 ?_);refine zCN rfl _ _ 168 rfl zAQ zuE (0 : Int) (by kernel_rfl) rfl hm j HJI.out rfl ?_;rw [HC.out]))
  refine bodyPost_ret (results_none rfl _ _ _) rfl ?_;refine ⟨⟨_,rfl⟩, ?_,World.grownBy.refl _ _⟩;rw [HVS.out,HC.out];exact hm
 case false=>
  by_cases hjj : j = joint
  ·go_enter Tryz.func170,Tryz.ntmps170
   go_wp2_with (first
    | ((with_reducible refine zAm 18 ?_);refine zCN rfl _ _ 168 rfl zAQ zuE (0 : Int) (by kernel_rfl) rfl hm j HJI.out rfl ?_;rw [HC.out]))
   refine bodyPost_ret (results_none rfl _ _ _) rfl ?_;refine ⟨⟨_,rfl⟩, ?_,World.grownBy.refl _ _⟩;rw [HVS.out,show decide (j = joint) = true by simpa using hjj,Bool.or_true];exact hm
  ·have hjb : (j == joint) = false:=by simpa using hjj
   have HJB : Hid (decide (j = joint) = false):=zz (by simpa using hjj);obtain ⟨l,hlo⟩ : ∃ l,outA sj.val sl.val j = l:=⟨_,rfl⟩
   have HLO:=zz hlo;have HNT : Hid (∀ A,Below w0.heap.size w0 A→zA5 A b sj sl):=zz fun A hA=>hN.below hA;obtain ⟨ba,bl,bo,N,mo,hbN,haN,hlN,hoN,hb,hma,hml,hmo,HO⟩:=hN;have hln:=HO.at j;obtain ⟨t,ht,hts,htok,_⟩:=hln.sl (fun _=>rfl) (fun _ _ _=>True) (fun _=>False) (fun _ _=>trivial) (fun _ _ h=>h) (by have:=V.outLen j;omega);have htl:=htok.room;rw [hlo] at hts;obtain ⟨ta,tc,tv⟩:=t;simp only at hts htl;subst hts;have HT:=zz ht;have HTOK:=zz htok;have HNB : Hid (∀ A,Below w0.heap.size w0 A→A.cell? ⟨b,4,none⟩ = some (.map (some bo))∧MapAt vi id I64 A bo mo):=zz fun A hA=>⟨((hb.belowAll hA).cell 4).trans rfl,hmo.below hA hmo.lt⟩
   have HV:=zz V;clear hlo hln ht htok hb hma hml hmo HO hbN haN hlN hoN;go_enter Tryz.func170,Tryz.ntmps170
   go_wp2_with (first
    | ((with_reducible refine zAm 18 ?_);refine zCN rfl _ _ 168 rfl zAQ zuE (0 : Int) (by kernel_rfl) rfl hm j HJI.out rfl ?_;rw [HC.out])
    | (at_mapUpdate;refine zBx rfl _ _ _ 168 rfl zAQ zuE rfl hm j HJI.out rfl first rfl ?_;intro w1 hm1 hT1;have hA1:=HA.out.grown hT1.grown;have q3:=(hA1.net.cell 0).trans (show _ = some (.pointer (some ⟨b,0,none⟩)) from rfl);obtain ⟨q4,q5⟩:=HNB.out _ hA1.below)
    | ((with_reducible refine zAm 35 ?_);refine zAY rfl _ _ 123 rfl zAQ zuH nilS (zDU _) rfl q5 j HJI.out rfl ?_;rw [HT.out]))
   have HA1:=zz hA1;have HM1:=zz hm1;have HG1:=zz hT1.grown;clear hA1 hm1 hT1 q3 q4 q5 q1 q2
   go_loopw [37] (fun i wr=>∃ (k : Nat) (m' : List (Int × Int)),k ≤ tv.length∧i = .int .i64 k∧Hid (MapAt vi vi I64 wr bm m')∧Hid (m' = (tv.take k).foldl (fun m s=>if s.lead = lead then m else zAT sj.val sl.val joint lead first f m (zAl sl.val s).2) (aput m j first))∧Hid (VisitAt w0 b bm cp cj cn cl cv joint lead wr)∧Hid (W.grownBy wr (some bm))) (fun i _=>tv.length - (intOf i).toNat)
   case atStart=>exact ⟨0,_,Nat.zero_le _,rfl,HM1,zz rfl,HA1,HG1⟩
   case round=>
    obtain ⟨k,m',hk,rfl,hm',he',hA',hg'⟩:=hrel
    by_cases hlt : k < tv.length
    ·obtain ⟨x,hx⟩ : ∃ x,tv[k]? = some x:=⟨_,List.getElem?_eq_getElem hlt⟩
     have HX:=zz hx;obtain ⟨bb,o,rfl,hbb,_,_,hcell⟩:=HTOK.out.at hx;have HC2 : Hid (∀ j,j < (zAa x).size→wr.cell? ⟨bb,o + k * 2 + j,none⟩ = (zAa x)[j]?):=zz fun j hj=>by
      rw [(Ext.of_below (D:=fun _=>False) hA'.out.below).cell hbb id];exact hcell j hj
     have hsl : x ∈ zAp j sl.val:=zDm.1 (by rw [HLO.out];exact List.mem_of_getElem? hx);obtain ⟨y,hy,hye,_,i1,hi1,k1,hk1,_,hke,_⟩:=HV.out.leave hsl;have HTO : Hid (∃ z ∈ sj.val,z.id = (zAl sl.val x).2):=zz ⟨k1,hk1,hke⟩;have HIX : Hid (I64 x.lead):=zz (hye ▸ (HV.out.leadI hy).1);have hW2 : zAe (wr.alloc (.cells (zAa x) 59)) wr.heap.size 59 (zAa x):=zAe.new _ _ _;have hA2 : VisitAt w0 b bm cp cj cn cl cv joint lead (wr.alloc (.cells (zAa x) 59)):=hA'.out.grown (zCR ((Below.refl _ _).alloc (Nat.le_refl _) _));have HG2 : Hid (W.grownBy (wr.alloc (.cells (zAa x) 59)) (some bm)):=zz (zCB hg'.out (zCR ((Below.refl _ _).alloc (Nat.le_refl _) _)));have HM2 : Hid (MapAt vi vi I64 (wr.alloc (.cells (zAa x) 59)) bm m'):=zz (hm'.out.alloc _);have r0 : (wr.alloc (.cells (zAa x) 59)).cell? ⟨wr.heap.size,0,none⟩ = some (.int .i64 x.lead):=(hW2.cell 0).trans rfl;have r1:=(hA2.led.cell 0).trans (show _ = some (.int .i64 lead) from rfl);have r2:=(hA2.net.cell 0).trans (show _ = some (.pointer (some ⟨b,0,none⟩)) from rfl);have HST : Hid ((tv.take (k + 1)).foldl (fun m s=>if s.lead = lead then m else zAT sj.val sl.val joint lead first f m (zAl sl.val s).2) (aput m j first) = if x.lead = lead then m' else zAT sj.val sl.val joint lead first f m' (zAl sl.val x).2):=zz (by
      rw [List.take_add_one,hx,he'.out,List.foldl_append];rfl)
     have HLF2 : Hid (zCw sj.val m' < f):=zz (by
      have h1:=left_put (v:=first) HJ.out HC.out;have h2 : zCw sj.val m' ≤ zCw sj.val (aput m j first):=zFo fun i hi=>by
       rw [he'.out];generalize tv.take k = l
       revert hi
       generalize aput m j first = q
       induction l generalizing q with
       | nil=>exact fun h=>h
       | cons s l ih=>
        intro hi;rw [List.foldl_cons];refine ih _ ?_
        split
        ·exact hi
        ·exact zE1 _ _ _ _ _ _ _ _ _ hi
      have:=HLF.out;omega)
     have HA2:=zz hA2;clear hx hcell hsl hy hye hi1 hk1 hke hm' he' hA' hg' hA2
     by_cases hxl : x.lead = lead
     ·have hxb : (x.lead != lead) = false:=by simpa using hxl
      have HXL:=zz hxl
      go_wp2_with (first
       | ((with_reducible refine zAm 40 ?_);refine zLe 40 bb (o + k * 2) (zAa x) HC2.out zuA ?_)
       | ((with_reducible refine zAv 59 ?_);refine zAk (cs:=zAa x) rfl 59 _ _ rfl rfl rfl rfl (by kernel_rfl) rfl (zAn _) ?_))
      go_roundw
      case rel=>exact ⟨k + 1,m',by omega,by go_num,HM2,zz (by rw [HST.out,if_pos HXL.out]),HA2,HG2⟩
      case measure=>simp [intOf];omega
     ·have hxb : (x.lead != lead) = true:=by simpa using hxl
      have HXL:=zz hxl
      go_wp2_with (first
       | ((with_reducible refine zAm 40 ?_);refine zLe 40 bb (o + k * 2) (zAa x) HC2.out zuA ?_)
       | ((with_reducible refine zAv 59 ?_);refine zAk (cs:=zAa x) rfl 59 _ _ rfl rfl rfl rfl (by kernel_rfl) rfl (zAn _) ?_)
       | (refine zLd 47 hW2 (zAa x) zuA ?_)
       | (go_at_call 111;refine (zEZ x HIX.out _ (HNT.out _ HA2.out.below)).mono ?_;rintro e w2 ⟨rfl,l2⟩;have hA3:=HA2.out.grown (zCR (l2.below (Nat.le_refl _)));have hm3:=HM2.out.below (l2.below (Nat.le_refl _)) HM2.out.lt;have hg3:=zCB HG2.out (zCR (r:=some bm) (l2.below (Nat.le_refl _)));have r3:=(hA3.vis.cell 0).trans (show _ = some (.func (.func 170) #[] #[.pointer (some ⟨cp,0,none⟩), .pointer (some ⟨cj,0,none⟩), .pointer (some ⟨cn,0,none⟩), .pointer (some ⟨cl,0,none⟩), .pointer (some ⟨cv,0,none⟩)]) from rfl))
       | (go_at_call 170;refine (IH.out m' _ w2 HLF2.out HTO.out hA3 hm3).mono ?_;rintro e w3 ⟨⟨v,rfl⟩,hm4,hg4⟩;have hA4:=hA3.grown hg4))
      go_roundw
      case rel=>exact ⟨k + 1,_,by omega,by go_num,zz hm4,zz (by rw [HST.out,if_neg HXL.out]),zz hA4,zz (zCB hg3 hg4)⟩
      case measure=>simp [intOf];omega
    ·have hkv : k = tv.length:=by omega
     subst hkv;go_wp2
     go_end0
     refine ⟨⟨_,rfl⟩, ?_,hg'.out⟩;rw [HVS.out,HC.out,HJB.out,HLO.out];have e:=he'.out;rw [List.take_length] at e;rw [if_neg (by decide),← e];exact hm'.out
def togA (js : List Joint) (ls : List Lead) (joint lead : Int) : List (Int × Int):=js.foldl (fun m x=>zAT js ls joint lead x.id (js.length + 1) m x.id) []
theorem zDr {b : Nat} {sj : Sl Joint} {sl : Sl Lead} (V : ValidW sj.val sl.val) (joint lead : Int) (w : World) (hN : zA5 w b sj sl) (hj : sj.OK 3 zAh zAs (fun _=>False) w) :
  Calls Tryz.prog 117 #[.pointer (some ⟨b,0,none⟩), .int .i64 joint, .int .i64 lead] w fun e w'=>∃ bm,e = .returned (.map (some bm))∧w.heap.size ≤ bm∧MapAt vi vi I64 w' bm (togA sj.val sl.val joint lead)∧Below w.heap.size w w':=by
 have HV:=zz V;have HN:=zz hN;have HJ:=zz hj;have hroom:=hj.room;have hmm:=@run_makeMap Tryz.prog;have c1 : ∀ W,Below w.heap.size w W→W.cell? ⟨b,0,none⟩ = some (.slice sj.a sj.val.length sj.cap):=fun W hW=>by
  obtain ⟨ba,bl,bo,N,mo,hbN,haN,hlN,hoN,hb,_⟩:=hN.below hW;exact (hb.cell 0).trans rfl
 have C1:=zz c1;clear hN hj V c1;obtain ⟨aj,capj,js⟩:=sj;simp only at hroom;have hbf : zAe ((((((w.alloc (.cells #[.pointer (some ⟨b,0,none⟩)] 109)).alloc (.cells #[.int .i64 joint] 3)).alloc (.cells #[.int .i64 lead] 3)).alloc (.map #[] 0)).alloc (.cells #[.map (some (w.heap.size + 1 + 1 + 1))] 168)).alloc (.cells #[.nilFunc] 224)) (w.heap.size + 1 + 1 + 1 + 1 + 1) 224 #[.nilFunc]:=by
  have h:=zAe.new (((((w.alloc (.cells #[.pointer (some ⟨b,0,none⟩)] 109)).alloc (.cells #[.int .i64 joint] 3)).alloc (.cells #[.int .i64 lead] 3)).alloc (.map #[] 0)).alloc (.cells #[.map (some (w.heap.size + 1 + 1 + 1))] 168)) 224 #[.nilFunc];simpa only [World.size_alloc] using h
 have hV0 : ∀ w2,zAe w2 (w.heap.size + 1 + 1 + 1 + 1 + 1) 224 (zAx #[.nilFunc] 0 [(.func (.func 170) #[] #[.pointer (some ⟨w.heap.size + 1 + 1 + 1 + 1,0,none⟩), .pointer (some ⟨w.heap.size + 1,0,none⟩), .pointer (some ⟨w.heap.size,0,none⟩), .pointer (some ⟨w.heap.size + 1 + 1,0,none⟩), .pointer (some ⟨w.heap.size + 1 + 1 + 1 + 1 + 1,0,none⟩)])])→
   Turn (w.heap.size + 1 + 1 + 1 + 1 + 1) ((((((w.alloc (.cells #[.pointer (some ⟨b,0,none⟩)] 109)).alloc (.cells #[.int .i64 joint] 3)).alloc (.cells #[.int .i64 lead] 3)).alloc (.map #[] 0)).alloc (.cells #[.map (some (w.heap.size + 1 + 1 + 1))] 168)).alloc (.cells #[.nilFunc] 224)) w2→
   VisitAt w b (w.heap.size + 1 + 1 + 1) (w.heap.size + 1 + 1 + 1 + 1) (w.heap.size + 1) w.heap.size (w.heap.size + 1 + 1) (w.heap.size + 1 + 1 + 1 + 1 + 1) joint lead w2∧MapAt vi vi I64 w2 (w.heap.size + 1 + 1 + 1) []:=fun w2 hb2 hT2=>by
  have e0 : (w.alloc (.cells #[.pointer (some ⟨b,0,none⟩)] 109)).heap.size = w.heap.size + 1:=World.size_alloc _ _;have e1 : ((w.alloc (.cells #[.pointer (some ⟨b,0,none⟩)] 109)).alloc (.cells #[.int .i64 joint] 3)).heap.size = w.heap.size + 1 + 1:=by simp only [World.size_alloc]
  have e2 : (((w.alloc (.cells #[.pointer (some ⟨b,0,none⟩)] 109)).alloc (.cells #[.int .i64 joint] 3)).alloc (.cells #[.int .i64 lead] 3)).heap.size = w.heap.size + 1 + 1 + 1:=by simp only [World.size_alloc]
  have e3 : ((((w.alloc (.cells #[.pointer (some ⟨b,0,none⟩)] 109)).alloc (.cells #[.int .i64 joint] 3)).alloc (.cells #[.int .i64 lead] 3)).alloc (.map #[] 0)).heap.size = w.heap.size + 1 + 1 + 1 + 1:=by simp only [World.size_alloc]
  have k0:=zAe.new w 109 #[.pointer (some ⟨b,0,none⟩)];have k1:=zAe.new (w.alloc (.cells #[.pointer (some ⟨b,0,none⟩)] 109)) 3 #[.int .i64 joint];have k2:=zAe.new ((w.alloc (.cells #[.pointer (some ⟨b,0,none⟩)] 109)).alloc (.cells #[.int .i64 joint] 3)) 3 #[.int .i64 lead];have k3:=MapAt.made vi vi I64 (((w.alloc (.cells #[.pointer (some ⟨b,0,none⟩)] 109)).alloc (.cells #[.int .i64 joint] 3)).alloc (.cells #[.int .i64 lead] 3));have k4:=zAe.new ((((w.alloc (.cells #[.pointer (some ⟨b,0,none⟩)] 109)).alloc (.cells #[.int .i64 joint] 3)).alloc (.cells #[.int .i64 lead] 3)).alloc (.map #[] 0)) 168 #[.map (some (w.heap.size + 1 + 1 + 1))];rw [e0] at k1;rw [e1] at k2;rw [e2] at k3;rw [e3] at k4;refine ⟨⟨?_,by omega,(k4.alloc _).turn hT2 (by omega),((((k1.alloc _).alloc _).alloc _).alloc _).turn hT2 (by omega),(((((k0.alloc _).alloc _).alloc _).alloc _).alloc _).turn hT2 (by omega),(((k2.alloc _).alloc _).alloc _).turn hT2 (by omega),hb2.eqv (by simp [zAx]),by omega,by omega,by omega,by omega,by omega⟩,((k3.alloc _).alloc _).turn hT2 (by omega)⟩;refine Below.trans ?_ (hT2.below (by omega));exact ((((((Lays.refl w).alloc _).alloc _).alloc _).alloc _).alloc _ |>.alloc _).below (Nat.le_refl _)
 have HV0:=zz hV0;clear hV0;go_enter Tryz.func117,Tryz.ntmps117
 go_wp2_with (first
  | ((with_reducible refine zAv 224 ?_);refine zAS hbf rfl _ _ _ rfl rfl (.func (.func 170) #[] #[.pointer (some ⟨w.heap.size + 1 + 1 + 1 + 1,0,none⟩), .pointer (some ⟨w.heap.size + 1,0,none⟩), .pointer (some ⟨w.heap.size,0,none⟩), .pointer (some ⟨w.heap.size + 1 + 1,0,none⟩), .pointer (some ⟨w.heap.size + 1 + 1 + 1 + 1 + 1,0,none⟩)]) rfl (by kernel_rfl) rfl (by kernel_rfl) ?_;intro w2 hb2 hT2;obtain ⟨hA2,hm2⟩:=HV0.out w2 hb2 hT2;have q1:=(hA2.net.cell 0).trans (show _ = some (.pointer (some ⟨b,0,none⟩)) from rfl);have q2:=C1.out w2 hA2.below;clear hb2 hT2))
 have HA2:=zz hA2;have HM2:=zz hm2;have HJL : Hid (∀ q : List (Int × Int),zCw js q < js.length + 1):=zz fun q=>Nat.lt_succ_of_le (List.length_filter_le _ _);clear hA2 hm2 q1 q2 hbf HV0
 go_loopw [19] (fun i wr=>∃ (k : Nat) (m' : List (Int × Int)),k ≤ js.length∧i = .int .i64 k∧Hid (MapAt vi vi I64 wr (w.heap.size + 1 + 1 + 1) m')∧Hid (m' = (js.take k).foldl (fun m x=>zAT js sl.val joint lead x.id (js.length + 1) m x.id) [])∧Hid (VisitAt w b (w.heap.size + 1 + 1 + 1) (w.heap.size + 1 + 1 + 1 + 1) (w.heap.size + 1) w.heap.size (w.heap.size + 1 + 1) (w.heap.size + 1 + 1 + 1 + 1 + 1) joint lead wr)) (fun i _=>js.length - (intOf i).toNat)
 case atStart=>exact ⟨0,[],Nat.zero_le _,rfl,HM2,zz rfl,HA2⟩
 case round=>
  obtain ⟨k,m',hk,rfl,hm',he',hA'⟩:=hrel
  by_cases hlt : k < js.length
  ·obtain ⟨x,hx⟩ : ∃ x,js[k]? = some x:=⟨_,List.getElem?_eq_getElem hlt⟩
   obtain ⟨bb,o,rfl,hbb,_,hok,hcell⟩:=HJ.out.at hx;have HC : Hid (∀ j,j < (zAh x).size→wr.cell? ⟨bb,o + k * 3 + j,none⟩ = (zAh x)[j]?):=zz fun j hj=>by
    rw [(Ext.of_below (D:=fun _=>False) hA'.out.below).cell hbb id];exact hcell j hj
   have HXI : Hid (I64 x.id):=zz hok.1;have HXM : Hid (∃ z ∈ js,z.id = x.id):=zz ⟨x,List.mem_of_getElem? hx,rfl⟩;have hb3 : zAe (wr.alloc (.cells (zAh x) 29)) wr.heap.size 29 (zAh x):=zAe.new _ _ _;have hA3 : VisitAt w b (w.heap.size + 1 + 1 + 1) (w.heap.size + 1 + 1 + 1 + 1) (w.heap.size + 1) w.heap.size (w.heap.size + 1 + 1) (w.heap.size + 1 + 1 + 1 + 1 + 1) joint lead (wr.alloc (.cells (zAh x) 29)):=hA'.out.grown (zCR ((Below.refl _ _).alloc (Nat.le_refl _) _));have r1:=(hA3.vis.cell 0).trans (show _ = some (.func (.func 170) #[] #[.pointer (some ⟨w.heap.size + 1 + 1 + 1 + 1,0,none⟩), .pointer (some ⟨w.heap.size + 1,0,none⟩), .pointer (some ⟨w.heap.size,0,none⟩), .pointer (some ⟨w.heap.size + 1 + 1,0,none⟩), .pointer (some ⟨w.heap.size + 1 + 1 + 1 + 1 + 1,0,none⟩)]) from rfl);have z0 : (wr.alloc (.cells (zAh x) 29)).cell? ⟨wr.heap.size,0,none⟩ = some (.int .i64 x.id):=(hb3.cell 0).trans rfl;have HST : Hid ((js.take (k + 1)).foldl (fun m x=>zAT js sl.val joint lead x.id (js.length + 1) m x.id) [] = zAT js sl.val joint lead x.id (js.length + 1) m' x.id):=zz (by
    rw [List.take_add_one,hx,he'.out,List.foldl_append];rfl)
   have HCL:=zz (visit_any HV.out HN.out joint lead x.id HXI.out (js.length + 1) m' x.id _ (HJL.out m') HXM.out hA3 (hm'.out.alloc _));have HA3:=zz hA3;clear hx hok hcell hm' he' hA' hA3
   go_wp2_with (first
    | ((with_reducible refine zAm 22 ?_);refine zLe 22 bb (o + k * 3) (zAh x) HC.out zuG ?_)
    | ((with_reducible refine zAv 29 ?_);refine zAk (cs:=zAh x) rfl 29 _ _ rfl rfl rfl rfl (by kernel_rfl) rfl (zBj _) ?_)
    | (go_at_call 170;refine HCL.out.mono ?_;rintro e w3 ⟨⟨v,rfl⟩,hm4,hg4⟩;have hA4:=HA3.out.grown hg4))
   go_roundw
   case rel=>exact ⟨k + 1,_,by omega,by go_num,zz hm4,zz HST.out.symm,zz hA4⟩
   case measure=>simp [intOf];omega
  ·have hkv : k = js.length:=by omega
   subst hkv;have q9:=(hA'.out.part.cell 0).trans (show _ = some (.map (some (w.heap.size + 1 + 1 + 1))) from rfl);go_wp2;go_ret;have e:=he'.out;rw [List.take_length] at e;exact ⟨_,rfl,by omega,by unfold togA;rw [← e];exact hm'.out,hA'.out.below⟩
end Go.Proofs.YtbbblemfodpmaaaGreat
end
section
namespace Go.Proofs.YtbbblemfodpmaaaGreat
open Go.RowKit
def encS {α : Type} (s : Sl α) : Array Value:=#[.slice s.a s.val.length s.cap]
theorem encS_one {α : Type} (s : Sl α) : (encS s).all (·.oneCell') = true:=by simp [encS,Value.oneCell']
section
variable {α : Type} {enc : α→Array Value} {sz : Nat} {te tl : TypeId} {N : Nat}
structure OwnLL (enc : α→Array Value) (sz : Nat) (te tl : TypeId) (W : World) (N : Nat) (v : Value) (ss : List (Sl α)) : Prop where
 outer : OwnL encS 1 W N tl v ss
 inner : ∀ s ∈ ss,OwnL enc sz W N te s.v s.val
 sep : ∀ (i j : Nat) (s t : Sl α),ss[i]? = some s→ss[j]? = some t→i ≠ j→∀ g,s.v.ownBlock = some g→t.v.ownBlock ≠ some g
theorem OwnLL.kept {W W' : World} {v : Value} {ss : List (Sl α)} (h : OwnLL enc sz te tl W N v ss) (hb : ∀ g cur T,W.heap[g]? = some (.cells cur T (0,0))→N ≤ g→W'.heap[g]? = W.heap[g]?) : OwnLL enc sz te tl W' N v ss:=by
 refine ⟨h.outer.kept fun g hg=>?_,fun s hs=>(h.inner s hs).kept fun g hg=>?_,h.sep⟩
 ·obtain ⟨a,cur,b⟩:=h.outer.cellsAt hg;exact hb g cur _ b a
 ·obtain ⟨a,cur,b⟩:=(h.inner s hs).cellsAt hg;exact hb g cur _ b a
theorem OwnLL.belowAll {W W' : World} {v : Value} {ss : List (Sl α)} (h : OwnLL enc sz te tl W N v ss) (hb : Below W.heap.size W W') : OwnLL enc sz te tl W' N v ss:=h.kept fun g cur T hg _=>hb.block g (Array.getElem?_eq_some_iff.1 hg).1
theorem OwnLL.turn {W W' : World} {b : Nat} {v : Value} {ss : List (Sl α)} (h : OwnLL enc sz te tl W N v ss) (hb : Turn b W W') (hN : b < N) : OwnLL enc sz te tl W' N v ss:=h.kept fun g cur T hg hn=>hb.block g (by omega)
theorem OwnLL.base_le {N' : Nat} {W : World} {v : Value} {ss : List (Sl α)} (h : OwnLL enc sz te tl W N v ss) (hN : N' ≤ N) : OwnLL enc sz te tl W N' v ss:=⟨h.outer.base_le hN,fun s hs=>(h.inner s hs).base_le hN,h.sep⟩
theorem OwnLL.nil (W : World) (N : Nat) : OwnLL enc sz te tl W N (.slice none 0 0) []:=⟨OwnL.nil _ _ _ _ _,by simp,by simp⟩
theorem OwnL.other {β : Type} {eb : β→Array Value} {sb : Nat} {ea : α→Array Value} {sa N' : Nat} {W : World} {ta tb : TypeId} {v u : Value} {l : List α} {m : List β} (h : OwnL ea sa W N ta v l) (k : OwnL eb sb W N' tb u m) (hne : ta ≠ tb) {g : Nat} (hv : v.ownBlock = some g) : u.ownBlock ≠ some g:=fun e=>by
 obtain ⟨_,c1,h1⟩:=h.cellsAt hv;obtain ⟨_,c2,h2⟩:=k.cellsAt e;rw [h1] at h2;simp only [Option.some.injEq,Obj.cells.injEq] at h2;exact hne h2.2.1
theorem OwnLL.snoc {W W' : World} {v v' : Value} {ss : List (Sl α)} {t : Sl α} (hne : tl ≠ te) (h : OwnLL enc sz te tl W N v ss) (ht : OwnL enc sz W N te t.v t.val) (hs : ∀ s ∈ ss,∀ g,t.v.ownBlock = some g→s.v.ownBlock ≠ some g)
  (h' : OwnL encS 1 W' N tl v' (ss ++ [t])) (hg : W.grownBy W' v.ownBlock) : OwnLL enc sz te tl W' N v' (ss ++ [t]):=by
 have key : ∀ s : Sl α,OwnL enc sz W N te s.v s.val→OwnL enc sz W' N te s.v s.val:=fun s hs=>hs.kept fun g hgs=>by
  obtain ⟨a,cur,b⟩:=hs.cellsAt hgs;exact hg.block g (Array.getElem?_eq_some_iff.1 b).1 fun e=>h.outer.other hs hne e.symm hgs
 refine ⟨h',fun s hs=>?_,fun i j s u hi hj hij g hgs hgu=>?_⟩
 ·rcases List.mem_append.1 hs with hs | hs
  ·exact key s (h.inner s hs)
  ·obtain rfl : s = t:=by simpa using hs
   exact key s ht
 ·rw [List.getElem?_append] at hi hj
  split at hi <;> split at hj
  ·exact h.sep i j s u hi hj hij g hgs hgu
  ·rename_i h1 h2;obtain rfl : t = u:=by
    have : j - ss.length = 0:=by have:=(List.getElem?_eq_some_iff.1 hj).1;simp at this;omega
    rw [this] at hj;simpa using hj
   exact hs s (List.mem_of_getElem? hi) g hgu hgs
  ·rename_i h1 h2;obtain rfl : t = s:=by
    have : i - ss.length = 0:=by have:=(List.getElem?_eq_some_iff.1 hi).1;simp at this;omega
    rw [this] at hi;simpa using hi
   exact hs u (List.mem_of_getElem? hj) g hgs hgu
  ·have h1:=(List.getElem?_eq_some_iff.1 hi).1;have h2:=(List.getElem?_eq_some_iff.1 hj).1;simp at h1 h2;omega
theorem OwnLL.set {W W' W'' : World} {v : Value} {ss : List (Sl α)} {i : Nat} {s t : Sl α} (hne : tl ≠ te) (h : OwnLL enc sz te tl W N v ss) (hi : ss[i]? = some s) (ht : OwnL enc sz W' N te t.v t.val) (hg : W.grownBy W' s.v.ownBlock)
  (hb : t.v.ownBlock = s.v.ownBlock ∨ ∃ X,t.v.ownBlock = some X∧W.heap.size ≤ X) {g : Nat} (hv : v.ownBlock = some g) (hT : Turn g W' W'') (h' : OwnL encS 1 W'' N tl v (ss.set i t)) : OwnLL enc sz te tl W'' N v (ss.set i t):=by
 have hsi:=h.inner s (List.mem_of_getElem? hi);have hgt : t.v.ownBlock ≠ some g:=fun e=>by
  obtain ⟨_,c1,h1⟩:=h.outer.cellsAt hv
  rcases hb with hb | ⟨X,hX,hXs⟩
  ·exact h.outer.other hsi hne hv (hb ▸ e)
  ·rw [hX] at e;have : g < W.heap.size:=(Array.getElem?_eq_some_iff.1 h1).1;simp at e;omega
 have hin : ∀ (k : Nat) (q : Sl α),ss[k]? = some q→k ≠ i→(OwnL enc sz W'' N te q.v q.val∧∀ x,q.v.ownBlock = some x→t.v.ownBlock ≠ some x):=fun k q hk hki=>by
  have hq:=h.inner q (List.mem_of_getElem? hk);refine ⟨hq.kept fun x hx=>?_,fun x hx e=>?_⟩
  ·rw [hT.block x fun e=>h.outer.other hq hne hv (e ▸ hx)];obtain ⟨_,c,hc⟩:=hq.cellsAt hx;exact hg.block x (Array.getElem?_eq_some_iff.1 hc).1 fun e=>h.sep i k s q hi hk (Ne.symm hki) x e.symm hx
  ·rcases hb with hb | ⟨X,hX,hXs⟩
   ·exact h.sep i k s q hi hk (Ne.symm hki) x (hb ▸ e) hx
   ·obtain ⟨_,c,hc⟩:=hq.cellsAt hx;have:=(Array.getElem?_eq_some_iff.1 hc).1;rw [hX] at e;simp at e;omega
 have hil:=(List.getElem?_eq_some_iff.1 hi).1;refine ⟨h',fun q hq=>?_,fun a b p q ha hb' hab x hx hy=>?_⟩
 ·obtain ⟨k,hk⟩:=List.mem_iff_getElem?.1 hq
  by_cases e : k = i
  ·subst e;rw [List.getElem?_set_self hil] at hk
   cases hk;exact ht.turn hT hgt
  ·rw [List.getElem?_set_ne (Ne.symm e)] at hk;exact (hin k q hk e).1
 ·by_cases e : a = i <;> by_cases f : b = i
  ·omega
  ·subst e;rw [List.getElem?_set_self hil] at ha;rw [List.getElem?_set_ne (Ne.symm f)] at hb'
   cases ha;exact (hin b q hb' f).2 x hy hx
  ·subst f;rw [List.getElem?_set_self hil] at hb';rw [List.getElem?_set_ne (Ne.symm e)] at ha
   cases hb';exact (hin a p ha e).2 x hx hy
  ·rw [List.getElem?_set_ne (Ne.symm e)] at ha;rw [List.getElem?_set_ne (Ne.symm f)] at hb';exact h.sep a b p q ha hb' hab x hx hy
end
theorem zD5 (js : List Joint) (ls : List Lead) (joint lead first : Int) : ∀ (f : Nat) (m : List (Int × Int)) (j : Int),
  (∀ i v,aget m i = some v→aget (zAT js ls joint lead first f m j) i = some v)∧(∀ i v,aget (zAT js ls joint lead first f m j) i = some v→aget m i = some v ∨ (ahas m i = false∧v = first))
 | 0,m,j=>⟨fun _ _ h=>h,fun _ _ h=>.inl h⟩
 | f + 1,m,j=>by
  unfold zAT
  split
  ·exact ⟨fun _ _ h=>h,fun _ _ h=>.inl h⟩
  ·rename_i hc;have hj : ahas m j = false:=by
    cases h : ahas m j
    ·rfl
    ·rw [h] at hc;exact absurd rfl hc
   have key : ∀ (l : List Side) (q : List (Int × Int)),((∀ i v,aget m i = some v→aget q i = some v)∧(∀ i v,aget q i = some v→aget m i = some v ∨ (ahas m i = false∧v = first)))→
     ((∀ i v,aget m i = some v→aget (l.foldl (fun m s=>if s.lead = lead then m else zAT js ls joint lead first f m (zAl ls s).2) q) i = some v)∧(∀ i v,aget (l.foldl (fun m s=>if s.lead = lead then m else zAT js ls joint lead first f m (zAl ls s).2) q) i = some v→aget m i = some v ∨ (ahas m i = false∧v = first))):=by
    intro l
    induction l with
    | nil=>exact fun q h=>h
    | cons s l ih=>
     intro q h;rw [List.foldl_cons];refine ih _ ?_
     split
     ·exact h
     ·obtain ⟨k1,k2⟩:=zD5 js ls joint lead first f q (zAl ls s).2
      refine ⟨fun i v hi=>k1 i v (h.1 i v hi),fun i v hi=>?_⟩
      rcases k2 i v hi with h2 | ⟨h2,h3⟩
      ·exact h.2 i v h2
      ·refine .inr ⟨?_,h3⟩
       cases h4 : aget m i with
       | none=>rw [← zBm,h4];rfl
       | some u=>rw [← zBm,h.1 i u h4] at h2;cases h2
   refine key _ _ ⟨fun i v hi=>?_,fun i v hi=>?_⟩
   ·rw [zBS]
    by_cases e : i = j
    ·subst e;rw [← zBm,hi] at hj;cases hj
    ·rw [if_neg e];exact hi
   ·rw [zBS] at hi
    by_cases e : i = j
    ·subst e;rw [if_pos rfl] at hi;exact .inr ⟨hj,by simpa using hi.symm⟩
    ·rw [if_neg e] at hi;exact .inl hi
theorem visit_self (js : List Joint) (ls : List Lead) (joint lead first : Int) (f : Nat) (m : List (Int × Int)) (j : Int) (hj : ahas m j = false) (hn : j ≠ joint) : aget (zAT js ls joint lead first (f + 1) m j) j = some first:=by
 unfold zAT;rw [if_neg (by simp [hj,hn])];have key : ∀ (l : List Side) (q : List (Int × Int)),aget q j = some first→aget (l.foldl (fun m s=>if s.lead = lead then m else zAT js ls joint lead first f m (zAl ls s).2) q) j = some first:=by
  intro l
  induction l with
  | nil=>exact fun q h=>h
  | cons s l ih=>
   intro q h;rw [List.foldl_cons];refine ih _ ?_
   split
   ·exact h
   ·exact (zD5 js ls joint lead first f q _).1 _ _ h
 exact key _ _ (by rw [zBS,if_pos rfl])
theorem tog_first {js : List Joint} {ls : List Lead} (V : ValidW js ls) (lead : Int) {k : Nat} {x : Joint} (hk : js[k]? = some x) :
  ∃ (i : Nat) (y : Joint),i ≤ k∧js[i]? = some y∧aget (togA js ls 0 lead) x.id = some y.id∧aget (togA js ls 0 lead) y.id = some y.id:=by
 have key : ∀ n,n ≤ js.length→(∀ i x,i < n→js[i]? = some x→ahas ((js.take n).foldl (fun m x=>zAT js ls 0 lead x.id (js.length + 1) m x.id) []) x.id = true)∧
   ∀ q v,aget ((js.take n).foldl (fun m x=>zAT js ls 0 lead x.id (js.length + 1) m x.id) []) q = some v→∃ i y,i < n∧js[i]? = some y∧v = y.id∧aget ((js.take n).foldl (fun m x=>zAT js ls 0 lead x.id (js.length + 1) m x.id) []) v = some v∧∀ k x,js[k]? = some x→x.id = q→i ≤ k:=by
  intro n
  induction n with
  | zero=>exact fun _=>⟨fun i x h=>absurd h (Nat.not_lt_zero _),fun q v h=>by simp [aget] at h⟩
  | succ n ih=>
   intro hn;obtain ⟨ih1,ih2⟩:=ih (by omega);obtain ⟨y,hy⟩ : ∃ y,js[n]? = some y:=⟨_,List.getElem?_eq_getElem (by omega)⟩
   have he : (js.take (n + 1)).foldl (fun m x=>zAT js ls 0 lead x.id (js.length + 1) m x.id) [] = zAT js ls 0 lead y.id (js.length + 1) ((js.take n).foldl (fun m x=>zAT js ls 0 lead x.id (js.length + 1) m x.id) []) y.id:=by
    rw [List.take_add_one,hy,List.foldl_append];rfl
   rw [he]
   revert ih1 ih2
   generalize (js.take n).foldl (fun m x=>zAT js ls 0 lead x.id (js.length + 1) m x.id) [] = m;intro ih1 ih2;obtain ⟨k1,k2⟩:=zD5 js ls 0 lead y.id (js.length + 1) m y.id;have hy0 : y.id ≠ 0:=by have:=(V.jok y (List.mem_of_getElem? hy)).1;simp [zBg] at this;omega
   have hself : ahas m y.id = false→aget (zAT js ls 0 lead y.id (js.length + 1) m y.id) y.id = some y.id:=fun h=>visit_self js ls 0 lead y.id js.length m y.id h hy0;refine ⟨fun i x hi hx=>?_,fun q v hq=>?_⟩
   ·rw [← zBm]
    by_cases hin : i < n
    ·have h:=ih1 i x hin hx;rw [← zBm] at h;obtain ⟨u,hu⟩:=Option.isSome_iff_exists.1 h;rw [k1 _ _ hu];rfl
    ·obtain rfl : i = n:=by omega
     rw [hy] at hx;cases hx
     cases h : ahas m y.id
     ·rw [hself h];rfl
     ·rw [← zBm] at h;obtain ⟨u,hu⟩:=Option.isSome_iff_exists.1 h;rw [k1 _ _ hu];rfl
   ·rcases k2 q v hq with h | ⟨h,rfl⟩
    ·obtain ⟨i,z,a1,a2,a3,a4,a5⟩:=ih2 q v h;exact ⟨i,z,by omega,a2,a3,k1 _ _ a4,a5⟩
    ·have hm : ahas m y.id = false:=by
      cases hh : ahas m y.id with
      | false=>rfl
      | true=>
       unfold zAT at hq;rw [hh] at hq;simp only [Bool.true_or,if_true] at hq;rw [← zBm,hq] at h;cases h
     refine ⟨n,y,by omega,hy,rfl,hself hm,fun k x hk hx=>?_⟩
     rcases Nat.lt_or_ge k n with h1 | h1
     ·rw [← hx,ih1 k x h1 hk] at h;cases h
     ·exact h1
 obtain ⟨k1,k2⟩:=key js.length (Nat.le_refl _);rw [List.take_length] at k1 k2;have h:=k1 k x (List.getElem?_eq_some_iff.1 hk).1 hk;rw [← zBm] at h;obtain ⟨v,hv⟩:=Option.isSome_iff_exists.1 h;obtain ⟨i,y,a1,a2,rfl,a4,a5⟩:=k2 _ _ hv;exact ⟨i,y,a5 k x hk rfl,a2,hv,a4⟩
end Go.Proofs.YtbbblemfodpmaaaGreat
end
