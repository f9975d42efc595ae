/-Euler's numbers.-/
import Derived.Test.YtbbblemfodpmaaaGreatWebGl
import Derived.Deep.CutBlock
set_option linter.unusedVariables false
set_option linter.unusedSimpArgs false
set_option maxHeartbeats 16000000
set_option maxRecDepth 100000
section
namespace Go.Proofs.YtbbblemfodpmaaaGreat
open Go.RowKit
theorem zDk {P : Program} {fn : Func} {a : Act} {w : World} {t u : Tmp} {ty : TypeId} {b : Nat} {T : TypeId} {cs : Array Value} {d : TypeDesc} (v : Value) (hb : zAe w b T cs) (hr : fn.results = #[.cell t ty, .tmp u])
  (hp : a.tmps.getD t undef = .pointer (some ⟨b,0,none⟩)) (hv : a.tmps.getD u undef = v) (hu : P.underlying ty = some d) (hd : (match d with | .struct _ | .array _ _=>true | _=>false) = true:=by rfl) (hi : (P.info? ty).map (·.size) = some cs.size:=by kernel_rfl) :
  (results fn a.tmps).run P w = .ok (.tuple #[.agg cs,v]) w:=by
 have hl:=zCn (P:=P) w b 0 ty cs d hb.cells hu hd hi;have hp' : a.tmps[t]?.getD undef = .pointer (some ⟨b,0,none⟩):=by rw [← hp];simp
 have hv' : a.tmps[u]?.getD undef = v:=by rw [← hv];simp
 simp [results,hr,hp',hv',asAddr,hl]
theorem comp_ne {P : List (Int × Int)} : ∀ (l : List Int) (a : List (List Int) × List (Int × Int)),(∀ c ∈ a.1,c ≠ [])→∀ c ∈ (l.foldl (zBa P) a).1,c ≠ []
 | [],a,h=>h
 | j :: l,a,h=>by
  rw [List.foldl_cons];refine comp_ne l _ fun c hc=>?_;unfold zBa at hc
  split at hc
  ·rcases List.mem_append.1 hc with hc | hc
   ·exact h c hc
   ·simp at hc;subst hc;simp
  ·obtain ⟨i,hi⟩:=List.mem_iff_getElem?.1 hc;rw [List.getElem?_modify] at hi
   cases hz : a.1[i]? with
   | none=>rw [hz] at hi;simp at hi
   | some z=>
    rw [hz] at hi;simp at hi;have hzl:=h z (List.mem_of_getElem? hz)
    split at hi <;> subst hi
    ·simp
    ·exact hzl
theorem OwnL.cellOf {α : Type} {enc : α→Array Value} {sz : Nat} (hsz : ∀ x,(enc x).size = sz) {W : World} {N : Nat} {T : TypeId} {v : Value} {l : List α} (h : OwnL enc sz W N T v l) {k : Nat} {x : α} (hk : l[k]? = some x) :
  ∃ g cap,v = .slice (some ⟨g,0,none⟩) l.length cap∧N ≤ g∧g < W.heap.size∧∀ j,j < sz→W.cell? ⟨g,k * sz + j,none⟩ = (enc x)[j]?:=by
 have hkl:=(List.getElem?_eq_some_iff.1 hk).1
 rcases h.2 with ⟨_,h0⟩ | ⟨g,cap,cur,rfl,h3,h4,h5,h6,h7,h8⟩
 ·omega
 ·refine ⟨g,cap,rfl,h3,(Array.getElem?_eq_some_iff.1 h4).1,fun j hj=>?_⟩;have hf:=zC6 hsz l k x hk j hj;rw [← hf,← h8];have hlt : k * sz + j < l.length * sz:=by
   calc k * sz + j < k * sz + sz:=by omega
    _ = (k + 1) * sz:=by rw [Nat.succ_mul]
    _ ≤ l.length * sz:=Nat.mul_le_mul_right _ hkl
  rw [List.getElem?_take_of_lt hlt];simp [World.cell?,h4]
def zEg (js : List Joint) (ls : List Lead) (c : List Int) : Bool:=decide (0 < (outA js ls (c.headD 0)).length)
def eulerA (js : List Joint) (ls : List Lead) : Count:=⟨js.length,ls.length,1 + (zBv js ls).length - ((zCF js ls).filter (zEg js ls)).length,(zCF js ls).length⟩
theorem comps_small {js : List Joint} {ls : List Lead} (V : ValidW js ls) : (zCF js ls).length ≤ 200:=by
 have h:=comp_len (P:=togA js ls 0 0) (js.map (·.id)) ([],[]);have e : (([],[]) : List (List Int) × List (Int × Int)).1.length = 0:=rfl;rw [e,List.length_map] at h;have:=V.nj;unfold zCF;omega
theorem comps_I64 {js : List Joint} {ls : List Lead} (V : ValidW js ls) {c : List Int} (hc : c ∈ zCF js ls) {j : Int} (hj : j ∈ c) : I64 j:=by
 have key : ∀ (l : List Int) (a : List (List Int) × List (Int × Int)),(∀ i ∈ l,I64 i)→(∀ c ∈ a.1,∀ i ∈ c,I64 i)→∀ c ∈ (l.foldl (zBa (togA js ls 0 0)) a).1,∀ i ∈ c,I64 i:=by
  intro l
  induction l with
  | nil=>exact fun a _ h=>h
  | cons x l ih=>
   intro a hl ha;rw [List.foldl_cons];refine ih _ (fun i hi=>hl i (List.mem_cons_of_mem _ hi)) fun c hc i hi=>?_;unfold zBa at hc
   split at hc
   ·rcases List.mem_append.1 hc with hc | hc
    ·exact ha c hc i hi
    ·simp at hc;subst hc;simp at hi;subst hi;exact hl _ (by simp)
   ·obtain ⟨n,hn⟩:=List.mem_iff_getElem?.1 hc;rw [List.getElem?_modify] at hn
    cases hz : a.1[n]? with
    | none=>rw [hz] at hn;simp at hn
    | some z=>
     rw [hz] at hn;simp at hn;have hzl:=ha z (List.mem_of_getElem? hz)
     split at hn <;> subst hn
     ·rcases List.mem_append.1 hi with hi | hi
      ·exact hzl i hi
      ·simp at hi;subst hi;exact hl _ (by simp)
     ·exact hzl i hi
 exact key _ _ (fun i hi=>by obtain ⟨x,hx,rfl⟩:=List.mem_map.1 hi;exact V.idI hx) (by simp) c hc j hj
theorem V800 {js : List Joint} {ls : List Lead} (V : ValidW js ls) (j : Int) : (outA js ls j).length ≤ 800:=V.outLen j
theorem zDJ {js : List Joint} {ls : List Lead} (V : ValidW js ls) : (zBv js ls).length ≤ 800:=by
 have h:=zDW V (zBz ls) [];rw [zB7] at h;have:=V.nl;unfold zBv;simp at h;omega
theorem zA5.outs {W : World} {b : Nat} {sj : Sl Joint} {sl : Sl Lead} (h : zA5 W b sj sl) (j : Int) : ∃ bo mo a c,W.cell? ⟨b,4,none⟩ = some (.map (some bo))∧b < W.heap.size∧MapAt vi id I64 W bo mo∧(aget mo j).getD nilS = .slice a (outA sj.val sl.val j).length c:=by
 obtain ⟨ba,bl,bo,N,mo,hbN,haN,hlN,hoN,hb,hma,hml,hmo,HO⟩:=h;obtain ⟨a,c,e⟩:=(HO.at j).shape;exact ⟨bo,mo,a,c,(hb.cell 4).trans rfl,hb.lt,hmo,e⟩
theorem Euler_ok (sj : Sl Joint) (sl : Sl Lead) (w : World) (hj : sj.OK 3 zAh zAs (fun _=>False) w) (hl : sl.OK 8 zAd zAA (fun _=>False) w) (h0 : (zAK sj.val sl.val).1 = 0) :
  Calls Tryz.prog 28 #[.agg #[.slice sj.a sj.val.length sj.cap, .slice sl.a sl.val.length sl.cap]] w fun e w'=>e = .returned (.tuple #[.agg (zBD (eulerA sj.val sl.val)), .int .i64 0])∧Below w.heap.size w w':=by
 have HV:=zz (zDB h0);have hB : Below w.heap.size w ((w.alloc (.cells #[.slice sj.a sj.val.length sj.cap, .slice sl.a sl.val.length sl.cap] 25)).alloc (.cells #[.int .i64 0, .int .i64 0, .int .i64 0, .int .i64 0] 54)):=(((Lays.refl w).alloc _).alloc _).below (Nat.le_refl _);have hb : zAe ((w.alloc (.cells #[.slice sj.a sj.val.length sj.cap, .slice sl.a sl.val.length sl.cap] 25)).alloc (.cells #[.int .i64 0, .int .i64 0, .int .i64 0, .int .i64 0] 54)) w.heap.size 25 #[.slice sj.a sj.val.length sj.cap, .slice sl.a sl.val.length sl.cap]:=(zAe.new _ _ _).alloc _;have hc : zAe ((w.alloc (.cells #[.slice sj.a sj.val.length sj.cap, .slice sl.a sl.val.length sl.cap] 25)).alloc (.cells #[.int .i64 0, .int .i64 0, .int .i64 0, .int .i64 0] 54)) (w.heap.size + 1) 54 #[.int .i64 0, .int .i64 0, .int .i64 0, .int .i64 0]:=by have h:=zAe.new (w.alloc (.cells #[.slice sj.a sj.val.length sj.cap, .slice sl.a sl.val.length sl.cap] 25)) 54 #[.int .i64 0, .int .i64 0, .int .i64 0, .int .i64 0];rw [World.size_alloc] at h;exact h
 have HVA:=zz (zEd sj sl _ (hj.jmoved hB) (hl.lmoved hB) h0);have HJ:=zz hj;have HL:=zz hl;clear hj hl h0;obtain ⟨nw,hnw⟩ : ∃ n,(zBv sj.val sl.val).length = n:=⟨_,rfl⟩
 have hnw8 : nw ≤ 800:=hnw ▸ zDJ HV.out;have k1 : IntKind.i64.wrap (1 + (nw : Int)) = 1 + (nw : Int):=IntWalk.i64_in _ (by omega);have HNW:=zz hnw;clear hnw;go_enter Tryz.func28,Tryz.ntmps28
 go_wp2_with (first
  | (refine zLd 11 hb #[.slice sj.a sj.val.length sj.cap, .slice sl.a sl.val.length sl.cap] zuC ?_)
  | (go_at_call 86;refine HVA.out.mono ?_;rintro e w1 ⟨b,rfl,hbb,hn1,hb1⟩;have hB1:=hB.trans (hb1.mono hB.size))
  | (go_at_call 89;(with_reducible refine (zGq HV.out w1 hn1 (HJ.out.jmoved hB1)).mono ?_);rintro e w2 ⟨cv,cs,rfl,hcl,hcm,hb2⟩;have hB2:=hB1.trans (hb2.mono hB1.size);obtain ⟨ca,cc,rfl⟩:=hcl.outer.shape)
  | (go_at_call 96;(with_reducible refine (walks_any HV.out w2 (hn1.below hb2) (HL.out.lmoved hB2)).mono ?_);rintro e w3 ⟨wv,rfl,⟨ws,hwo,_,hwm⟩,hb3⟩;obtain ⟨wa,wc2,rfl⟩:=hwo.shape;have hwl : ws.length = nw:=(by have h:=congrArg List.length hwm;rw [List.length_map,HNW.out] at h;exact h);subst hwl))
 have HCM:=zz hcm;have hB3:=hB2.trans (hb3.mono hB2.size);have HB3:=zz hB3;have HN3:=zz ((hn1.below hb2).below hb3);have HCL:=zz (hcl.belowAll hb3);have HB:=zz (((hb.belowAll hb1).belowAll hb2).belowAll hb3);have HC:=zz (((hc.belowAll hb1).belowAll hb2).belowAll hb3);clear hcm hB3 hB2 hB1 hcl hb hc hn1 hb1 hb2 hb3 hwo hwm;have HCN : Hid (cs.length ≤ 200):=zz (by have h:=congrArg List.length HCM.out;rw [List.length_map] at h;rw [h];exact comps_small HV.out);have hcn:=HCN.out
 go_loopw [7,27] (fun f i wr=>∃ k : Nat,k ≤ cs.length∧i = .int .i64 k∧f = .int .i64 (1 + (ws.length : Int) - ((((zCF sj.val sl.val).take k).filter (zEg sj.val sl.val)).length : Int))∧Hid (Below w3.heap.size w3 wr)) (fun _ i _=>cs.length - (intOf i).toNat)
 case atStart=>exact ⟨0,Nat.zero_le _,rfl,by simp,zz (Below.refl _ _)⟩
 case round=>
  obtain ⟨k,hk,rfl,rfl,HR⟩:=hrel
  by_cases hlt : k < cs.length
  ·obtain ⟨s,hs⟩ : ∃ s,cs[k]? = some s:=⟨_,List.getElem?_eq_getElem hlt⟩
   have hcl:=HCL.out.belowAll HR.out;have hcm : (zCF sj.val sl.val)[k]? = some s.val:=by rw [← HCM.out,List.getElem?_map,hs];rfl
   have hne : s.val ≠ []:=comp_ne _ _ (by simp) _ (List.mem_of_getElem? hcm);obtain ⟨c0,cr,hc0⟩:=List.exists_cons_of_ne_nil hne;obtain ⟨g,cap,cur,e,hbx,hgs,hgv,_⟩:=hcl.outer.place (by omega) hs;simp only [Value.slice.injEq] at e;obtain ⟨rfl,_,rfl⟩:=e;obtain ⟨gi,icap,e2,_,hgi,hci⟩:=OwnL.cellOf (enc:=zAC) (sz:=1) (l:=s.val) (fun _=>rfl) (hcl.inner s (List.mem_of_getElem? hs)) (k:=0) (x:=c0) (by rw [hc0];rfl);have hci0:=hci 0 Nat.one_pos;have q0 : wr.cell? ⟨g,k,none⟩ = some (.slice (some ⟨gi,0,none⟩) s.val.length icap):=by rw [hbx.cell,hgv];exact congrArg some e2
   have HCI : Hid (wr.drew.cell? ⟨gi,0,none⟩ = some (vi c0)):=zz (by have h:=hci0;rw [Nat.zero_mul,Nat.zero_add] at h;exact h.trans rfl);have HGI : Hid (gi < wr.drew.heap.size):=zz hgi;obtain ⟨bo,mo,ta,tc,hbo,hbl,hmo,hmt⟩:=(HN3.out.below HR.out).outs c0;have HBO : Hid (wr.drew.cell? ⟨b,4,none⟩ = some (.map (some bo))∧b < wr.drew.heap.size∧MapAt vi id I64 wr.drew bo mo):=zz ⟨hbo,hbl,hmo.of_block rfl⟩;have HMT:=zz hmt;have HC0I : Hid (I64 c0):=zz (comps_I64 HV.out (List.mem_of_getElem? hcm) (by rw [hc0];simp));obtain ⟨no,hno⟩ : ∃ n,(outA sj.val sl.val c0).length = n:=⟨_,rfl⟩
   have HNO:=zz hno;simp only [hno] at HMT;have hno8 : no ≤ 800:=hno ▸ V800 HV.out c0;obtain ⟨ac,hac⟩ : ∃ z,(((zCF sj.val sl.val).take k).filter (zEg sj.val sl.val)).length = z:=⟨_,rfl⟩
   have hac2 : ac ≤ 200:=by
    have h1:=List.length_filter_le (zEg sj.val sl.val) ((zCF sj.val sl.val).take k);rw [List.length_take] at h1;omega
   have HAC : Hid ((((zCF sj.val sl.val).take (k + 1)).filter (zEg sj.val sl.val)).length = if 0 < no then ac + 1 else ac):=zz (by
    rw [zB5 hcm,List.length_append,hac];have e3 : zEg sj.val sl.val s.val = decide (0 < no):=by unfold zEg;rw [hc0];simp [hno]
    rw [e3]
    by_cases h : 0 < no <;> simp [h])
   simp only [hac];have hsl : s.val.length ≠ 0:=fun h=>hne (List.eq_nil_of_length_eq_zero h);have hsl1 : 0 < s.val.length:=Nat.pos_of_ne_zero hsl;have k2 : IntKind.i64.wrap (1 + (ws.length : Int) - (ac : Int) - 1) = 1 + (ws.length : Int) - (ac : Int) - 1:=IntWalk.i64_in _ (by omega);clear hs hcl hcm hne hc0 hbx hgs hgv e2 hgi hci hci0 hbo hbl hmo hmt hno hac
   by_cases hn0 : 0 < no
   ·have hn1 : (0 : Int) < (no : Int):=by omega
    go_wp2;refine rgO [(0,true),(1,true),(2,true),(3,true),(4,true),(5,true),(6,true),(7,true),(8,true),(9,true)] ?_;iterate 3 (refine wB rfl ?_;simp only [pT])
    refine zAf (v:=.map (some bo)) rfl rfl (fun W hW=>by have e : W.cell? ⟨b,4,none⟩ = some (.map (some bo)):=(hW.cell (p:=⟨b,4,none⟩) HBO.out.2.1).trans HBO.out.1;go_simp) ?_;simp only [pT];iterate 2 (refine wB rfl ?_;simp only [pT])
    refine zAf (v:=.int .i64 c0) rfl rfl (fun W hW=>by have e : W.cell? ⟨gi,0,none⟩ = some (vi c0):=(hW.cell (p:=⟨gi,0,none⟩) HGI.out).trans HCI.out;go_simp) ?_;simp only [pT];refine zAf (v:=.slice ta no tc) rfl rfl (fun W hW=>Eq.trans (zA6 zAQ zuH nilS (zDU _) rfl (HBO.out.2.2.below hW HBO.out.2.2.lt) c0 HC0I.out rfl) (by rw [HMT.out];rfl)) ?_;simp only [pT];iterate 2 (refine wB rfl ?_;simp only [pT])
    simp only [wpB];go_wp2;go_roundw
    case rel=>exact ⟨k + 1,by omega,by go_num,by rw [HAC.out,if_pos hn0];congr 1;omega,zz HR.out.drew⟩
    case measure=>simp [intOf];omega
   ·have hn1 : ¬ (0 : Int) < (no : Int):=by omega
    go_wp2;refine rgO [(0,true),(1,true),(2,true),(3,true),(4,true),(5,true),(6,true),(7,true),(8,true),(9,true)] ?_;iterate 3 (refine wB rfl ?_;simp only [pT])
    refine zAf (v:=.map (some bo)) rfl rfl (fun W hW=>by have e : W.cell? ⟨b,4,none⟩ = some (.map (some bo)):=(hW.cell (p:=⟨b,4,none⟩) HBO.out.2.1).trans HBO.out.1;go_simp) ?_;simp only [pT];iterate 2 (refine wB rfl ?_;simp only [pT])
    refine zAf (v:=.int .i64 c0) rfl rfl (fun W hW=>by have e : W.cell? ⟨gi,0,none⟩ = some (vi c0):=(hW.cell (p:=⟨gi,0,none⟩) HGI.out).trans HCI.out;go_simp) ?_;simp only [pT];refine zAf (v:=.slice ta no tc) rfl rfl (fun W hW=>Eq.trans (zA6 zAQ zuH nilS (zDU _) rfl (HBO.out.2.2.below hW HBO.out.2.2.lt) c0 HC0I.out rfl) (by rw [HMT.out];rfl)) ?_;simp only [pT];iterate 2 (refine wB rfl ?_;simp only [pT])
    simp only [wpB];go_wp2;go_roundw
    case rel=>exact ⟨k + 1,by omega,by go_num,by rw [HAC.out,if_neg hn0],zz HR.out.drew⟩
    case measure=>simp [intOf];omega
  ·have hkv : k = cs.length:=by omega
   subst hkv;have hB:=HB.out.belowAll HR.out;have hC:=HC.out.belowAll HR.out;have q1:=(hB.cell 0).trans (show _ = some (.slice sj.a sj.val.length sj.cap) from rfl);have q2:=(hB.cell 1).trans (show _ = some (.slice sl.a sl.val.length sl.cap) from rfl);have hlc : (zCF sj.val sl.val).length = cs.length:=by rw [← HCM.out,List.length_map]
   rw [← hlc,List.take_length]
   go_wp2_with (first
    | ((with_reducible refine zAv 54 ?_);refine zAS hC rfl _ _ _ rfl rfl (.agg (zBD (eulerA sj.val sl.val))) (by unfold eulerA zBD;simp only [HNW.out,hlc];rfl) (by kernel_rfl) (by kernel_rfl) (by simp [Value.cells,zBD,Value.oneCell']) ?_;intro w9 hb9 hT9))
   refine bodyPost_ret (zDk (cs:=zBD (eulerA sj.val sl.val)) (.int .i64 0) (hb9.eqv (by simp [zAx,Value.cells,zBD])) rfl rfl rfl Tryz.underlying54) rfl ⟨rfl, ?_⟩;exact (HB3.out.trans (HR.out.mono HB3.out.size)).trans (hT9.below (by omega))
end Go.Proofs.YtbbblemfodpmaaaGreat
end
section
namespace Go.Proofs.YtbbblemfodpmaaaGreat
open Go.RowKit
end Go.Proofs.YtbbblemfodpmaaaGreat
end
section
namespace Go.Proofs.YtbbblemfodpmaaaGreat
open Go.RowKit
def zAI (js : List Joint) (ls : List Lead) (l : List Side) : List Point:=l.map fun s=>ptA js (zAl ls s).1
theorem zFF : zBU Tryz.prog 80 27 2 16:=⟨Tryz.underlying80,by kernel_rfl⟩
theorem zA5.ats {W : World} {b : Nat} {sj : Sl Joint} {sl : Sl Lead} (h : zA5 W b sj sl) : ∃ ba,b < W.heap.size∧W.cell? ⟨b,2,none⟩ = some (.map (some ba))∧MapAt vi zAL I64 W ba (zA7 sj.val):=by
 obtain ⟨ba,bl,bo,N,mo,hbN,haN,hlN,hoN,hb,hma,hml,hmo,HO⟩:=h;exact ⟨ba,hb.lt,(hb.cell 2).trans rfl,hma⟩
theorem map_take {α β : Type} {f : α→β} {l : List α} {k : Nat} {x : α} (h : l[k]? = some x) : (l.take (k + 1)).map f = (l.take k).map f ++ [f x]:=by
 rw [List.take_add_one,h,List.map_append];rfl
theorem zE2 {b : Nat} {sj : Sl Joint} {sl : Sl Lead} (V : ValidW sj.val sl.val) {D : Nat→Prop} {ok : (Nat→Prop)→World→Side→Prop} (s : Sl Side) (hI : ∀ x ∈ s.val,I64 x.lead) (w : World) (hN : zA5 w b sj sl) (hs : s.OK 2 zAa ok D w) :
  Calls Tryz.prog 157 #[.pointer (some ⟨b,0,none⟩), .slice s.a s.val.length s.cap] w fun e w'=>∃ v,e = .returned v∧OwnL zAb 2 w' w.heap.size 27 v (zAI sj.val sl.val s.val)∧Below w.heap.size w w':=by
 have hroom:=hs.room;have HS:=zz hs;have HN:=zz hN;have HI:=zz hI;have HEI:=zz V.endI;clear hs hN hI V;obtain ⟨a,cap,val⟩:=s;simp only at hroom;go_enter Tryz.func157,Tryz.ntmps157;go_wp2
 go_loopw [5,12] (fun v i wr=>∃ k : Nat,k ≤ val.length∧i = .int .i64 k∧Hid (OwnL zAb 2 wr w.heap.size 27 v (zAI sj.val sl.val (val.take k)))∧Hid (Below w.heap.size w wr)) (fun _ i _=>val.length - (intOf i).toNat)
 case atStart=>exact ⟨0,Nat.zero_le _,rfl,zz (OwnL.nil _ _ _ _ _),zz (Below.refl _ _)⟩
 case round=>
  obtain ⟨k,hk,rfl,HO,HB⟩:=hrel
  by_cases hlt : k < val.length
  ·obtain ⟨x,hx⟩ : ∃ x,val[k]? = some x:=⟨_,List.getElem?_eq_getElem hlt⟩
   obtain ⟨bb,o,rfl,hbb,_,_,hcell⟩:=HS.out.at hx;have HC : Hid (∀ j,j < (zAa x).size→wr.cell? ⟨bb,o + k * 2 + j,none⟩ = (zAa x)[j]?):=zz fun j hj=>by
    rw [(Ext.of_below (D:=fun _=>False) HB.out).cell hbb id];exact hcell j hj
   have hIx : Hid (I64 x.lead):=zz (HI.out x (List.mem_of_getElem? hx));have h7 : zAe (wr.alloc (.cells (zAa x) 59)) wr.heap.size 59 (zAa x):=zAe.new _ _ _;have HB2 : Hid (Below w.heap.size w (wr.alloc (.cells (zAa x) 59))):=zz (HB.out.alloc HB.out.size _);have HO2 : Hid (OwnL zAb 2 (wr.alloc (.cells (zAa x) 59)) w.heap.size 27 u5 (zAI sj.val sl.val (val.take k))):=zz (HO.out.belowAll ((Below.refl _ _).alloc (Nat.le_refl _) _));have HPL : Hid (zAI sj.val sl.val (val.take (k + 1)) = zAI sj.val sl.val (val.take k) ++ [ptA sj.val (zAl sl.val x).1]):=zz (map_take hx);have HLE : Hid ((zAI sj.val sl.val (val.take k)).length + 1 ≤ 4294967296):=zz (by unfold zAI;rw [List.length_map,List.length_take];omega);obtain ⟨j1,hj1⟩ : ∃ z,(zAl sl.val x).1 = z:=⟨_,rfl⟩
   obtain ⟨j2,hj2⟩ : ∃ z,(zAl sl.val x).2 = z:=⟨_,rfl⟩
   have HE : Hid (Calls Tryz.prog 111 #[.pointer (some ⟨b,0,none⟩), .agg (zAa x)] (wr.alloc (.cells (zAa x) 59)) fun e w'=>e = .returned (.tuple #[.int .i64 j1, .int .i64 j2])∧Lays (wr.alloc (.cells (zAa x) 59)) w'):=zz (by
    rw [← hj1,← hj2];exact zEZ x hIx.out _ (HN.out.below HB2.out))
   have HJ1 : Hid (I64 j1):=zz (hj1 ▸ (HEI.out x).1);rw [hj1] at HPL;obtain ⟨p,hp⟩ : ∃ z,ptA sj.val j1 = z:=⟨_,rfl⟩
   have HP : Hid ((atA sj.val j1).getD zAF = p):=zz hp;rw [hp] at HPL;clear hx hcell hj1 hj2 hp HO HB hbb
   go_wp2_with (first
    | ((with_reducible refine zAm 15 ?_);refine zLe 15 bb (o + k * 2) (zAa x) HC.out zuA ?_)
    | ((with_reducible refine zAv 59 ?_);refine zAk (cs:=zAa x) rfl 59 _ _ rfl rfl rfl rfl (by kernel_rfl) rfl (zAn _) ?_)
    | (refine zLd 18 h7 (zAa x) zuA ?_)
    | (go_at_call 111;refine HE.out.mono ?_;rintro e w2 ⟨rfl,l2⟩;have HB3:=zz (HB2.out.trans ((l2.below (Nat.le_refl _)).mono HB2.out.size));have HO3:=zz (HO2.out.belowAll (l2.below (Nat.le_refl _)));obtain ⟨ba,hbl,hcm,hmd⟩:=zA5.ats (HN.out.below HB3.out))
    | ((with_reducible refine zAm 28 ?_);refine zAY rfl _ _ 120 rfl zAQ zuF zAF (zBq _) rfl hmd j1 HJ1.out rfl ?_;rw [zBf,HP.out];unfold zAL)
    | ((with_reducible refine zAm 30 ?_);refine zAU rfl _ _ 80 rfl w.heap.size zFF (fun _=>rfl) (by decide) zAD (by decide) u5 _ rfl (HO3.out.belowAll ((Below.refl _ _).alloc (Nat.le_refl _) _)) w2.heap.size 0 1 p rfl (fun j hj=>by rw [Nat.zero_add];exact (zAe.new w2 27 (zAb p)).cell j) HLE.out (Nat.le_trans HB3.out.size (by simp)) ?_;intro v5 w5 ho5 hg5 hv5))
   go_roundw
   case rel=>exact ⟨k + 1,by omega,by go_num,zz (by rw [HPL.out];exact ho5),zz ((HB3.out.alloc HB3.out.size _).grown hg5 (Nat.le_trans HB3.out.size (by simp)) fun g e=>(HO3.out.block g e).1)⟩
   case measure=>simp [intOf];omega
  ·have hkv : k = val.length:=by omega
   subst hkv;rw [List.take_length] at HO;go_wp2;go_ret;exact ⟨_,rfl,HO.out,HB.out⟩
def zBL (l : List Point) (i : Nat) : Bool:=!decide (zAw ((l[(i + l.length - 1) % l.length]?).getD zAF) ((l[i]?).getD zAF) ((l[(i + 1) % l.length]?).getD zAF) = 0)
def zBb (l : List Point) : List Nat:=(List.range l.length).filter (zBL l)
def zAZ (l : List Point) : List Int:=(zBb l).map fun i : Nat=>(i : Int)
theorem zE3 {n k : Nat} (h : k < n) : (List.range n)[k]? = some k:=by simp [h]
theorem zFG (s : Sl Point) {D : Nat→Prop} {ok : (Nat→Prop)→World→Point→Prop} (hI : ∀ x ∈ s.val,zAy x) (w : World) (hs : s.OK 2 zAb ok D w) :
  Calls Tryz.prog 156 #[.slice s.a s.val.length s.cap] w fun e w'=>∃ v,e = .returned v∧OwnL zAC 1 w' w.heap.size 3 v (zAZ s.val)∧Below w.heap.size w w':=by
 have hroom:=hs.room;have HS:=zz hs;have HI:=zz hI;clear hs hI;obtain ⟨a,cap,val⟩:=s;simp only at hroom;go_enter Tryz.func156,Tryz.ntmps156;go_wp2
 go_loopw [3,8] (fun v i wr=>∃ k : Nat,k ≤ val.length∧i = .int .i64 k∧Hid (OwnL zAC 1 wr w.heap.size 3 v ((((List.range val.length).take k).filter (zBL val)).map fun i : Nat=>(i : Int)))∧Hid (Below w.heap.size w wr)) (fun _ i _=>val.length - (intOf i).toNat)
 case atStart=>exact ⟨0,Nat.zero_le _,rfl,zz (OwnL.nil _ _ _ _ _),zz (Below.refl _ _)⟩
 case round=>
  obtain ⟨k,hk,rfl,HO,HB⟩:=hrel
  by_cases hlt : k < val.length
  ·obtain ⟨x,hx⟩ : ∃ x,val[k]? = some x:=⟨_,List.getElem?_eq_getElem hlt⟩
   obtain ⟨bb,o,rfl,hbb,_,_,hcell⟩:=HS.out.at hx;have hkm : (k + val.length - 1) % val.length < val.length:=Nat.mod_lt _ (by omega);have hkn : (k + 1) % val.length < val.length:=Nat.mod_lt _ (by omega);obtain ⟨k1,hk1⟩ : ∃ z,(k + val.length - 1) % val.length = z:=⟨_,rfl⟩
   obtain ⟨k2,hk2⟩ : ∃ z,(k + 1) % val.length = z:=⟨_,rfl⟩
   rw [hk1] at hkm;rw [hk2] at hkn;obtain ⟨y,hy⟩ : ∃ y,val[k1]? = some y:=⟨_,List.getElem?_eq_getElem hkm⟩
   obtain ⟨z,hz⟩ : ∃ z,val[k2]? = some z:=⟨_,List.getElem?_eq_getElem hkn⟩
   have cell : ∀ (k : Nat) (x : Point),val[k]? = some x→∀ W,Below w.heap.size w W→∀ j,j < (zAb x).size→W.cell? ⟨bb,o + k * 2 + j,none⟩ = (zAb x)[j]?:=fun k x hx W hW j hj=>by
    obtain ⟨b2,o2,e,_,_,_,hc⟩:=HS.out.at hx;simp only [Option.some.injEq,Addr.mk.injEq,and_true] at e;obtain ⟨rfl,rfl⟩:=e;rw [(Ext.of_below (D:=fun _=>False) hW).cell hbb id];exact hc j hj
   have HCX:=zz (cell k x hx);have HCY:=zz (cell k1 y hy);have HCZ:=zz (cell k2 z hz);have HCX0 : Hid (∀ j,j < (zAb x).size→wr.cell? ⟨bb,o + k * 2 + j,none⟩ = (zAb x)[j]?):=zz (HCX.out wr HB.out);have h7 : zAe (wr.alloc (.cells (zAb x) 27)) wr.heap.size 27 (zAb x):=zAe.new _ _ _;have HB2 : Hid (Below w.heap.size w (wr.alloc (.cells (zAb x) 27))):=zz (HB.out.alloc HB.out.size _);have SX:=zz (HI.out x (List.mem_of_getElem? hx));have SY:=zz (HI.out y (List.mem_of_getElem? hy));have SZ:=zz (HI.out z (List.mem_of_getElem? hz));obtain ⟨acc,hacc⟩ : ∃ z,(((List.range val.length).take k).filter (zBL val)).map (fun i : Nat=>(i : Int)) = z:=⟨_,rfl⟩
   have HCN : Hid (zBL val k = !decide (zAw y x z = 0)):=zz (by unfold zBL;rw [hk1,hk2,hx,hy,hz];rfl);have HFL : Hid ((((List.range val.length).take (k + 1)).filter (zBL val)).map (fun i : Nat=>(i : Int)) = acc ++ if zBL val k then [(k : Int)] else []):=zz (by
    rw [zB5 (zE3 hlt),List.map_append,hacc];split <;> rfl)
   have HLE : Hid (acc.length + 1 ≤ 4294967296):=zz (by
    rw [← hacc,List.length_map];have h1:=List.length_filter_le (zBL val) ((List.range val.length).take k);rw [List.length_take,List.length_range] at h1;omega)
   rw [hacc] at HO;have HO2 : Hid (OwnL zAC 1 (wr.alloc (.cells (zAb x) 27)) w.heap.size 3 u3 acc):=zz (HO.out.belowAll ((Below.refl _ _).alloc (Nat.le_refl _) _));obtain ⟨cr,hcr⟩ : ∃ c,zAw y x z = c:=⟨_,rfl⟩
   have w1 : IntKind.i64.wrap ((k : Int) + (val.length : Int)) = (k : Int) + (val.length : Int):=IntWalk.i64_in _ (by omega);have w2 : IntKind.i64.wrap ((k : Int) + (val.length : Int) - 1) = (k : Int) + (val.length : Int) - 1:=IntWalk.i64_in _ (by omega);have w3 : IntKind.i64.wrap ((k : Int) + 1) = (k : Int) + 1:=IntWalk.i64_in _ (by omega);have M1 : Hid (((k : Int) + (val.length : Int) - 1).tmod (val.length : Int) = (k1 : Int)):=zz (by rw [Int.tmod_eq_emod_of_nonneg (by omega),← hk1,Int.natCast_emod,show ((k + val.length - 1 : Nat) : Int) = (k : Int) + val.length - 1 by omega]);have M2 : Hid (((k : Int) + 1).tmod (val.length : Int) = (k2 : Int)):=zz (by rw [Int.tmod_eq_emod_of_nonneg (by omega),← hk2,Int.natCast_emod];rfl);have HVE : Hid (¬ val = []):=zz fun h=>by rw [h] at hlt;exact absurd hlt (Nat.not_lt_zero _)
   have v0 : (val.length : Int) ≠ 0:=by omega
   have i1 : (k1 : Int) < (val.length : Int):=by omega
   have i2 : (k2 : Int) < (val.length : Int):=by omega
   have HCR:=zz hcr;have HCA : Hid (∀ W,Calls Tryz.prog 146 #[.agg (zAb y), .agg (zAb x), .agg (zAb z)] W fun e w'=>e = .returned (.int .i64 cr)∧Lays W w'):=zz fun W=>by rw [← hcr];exact zCK y x z SY.out SX.out SZ.out W
   rw [hcr] at HCN;clear hx hy hz hcell cell HO HB hcr hk1 hk2 hacc
   by_cases hc0 : cr = 0
   ·have hcb : (cr != 0) = false:=by simpa using hc0
    go_wp2_with (first
     | ((with_reducible refine zAm 12 ?_);refine zLe 12 bb (o + k * 2) (zAb x) HCX0.out zuB ?_)
     | ((with_reducible refine zAv 27 ?_);refine zAk (cs:=zAb x) rfl 27 _ _ rfl rfl rfl rfl (by kernel_rfl) rfl (zAD _) ?_))
    refine rgO [(0,true),(1,true),(2,true),(3,true),(4,true),(5,true),(6,true),(7,true),(8,true),(9,true),(10,true),(11,true),(12,true),(13,true),(14,true),(15,true),(16,true),(17,true),(18,true),(19,true),(20,false),(21,true)] ?_;iterate 8 (refine wB rfl ?_;simp only [pT])
    refine zAf (v:=.int .i64 (k1 : Int)) rfl rfl (fun W hW=>by go_simp;rw [if_neg HVE.out,M1.out]) ?_;simp only [pT];refine zAf (v:=.pointer (some ⟨bb,o + k1 * 2,none⟩)) rfl rfl (fun W hW=>by go_simp) ?_;simp only [pT];refine zAf (v:=.agg (zAb y)) rfl rfl (fun W hW=>zAE (zAb y) (HCY.out _ (HB2.out.trans ((Lays.refl _).drew.below (Nat.le_refl _) |>.trans hW |>.mono HB2.out.size))) rfl zuB) ?_;simp only [pT];refine zAf (v:=.agg (zAb x)) rfl rfl (fun W hW=>zAc (zAb x) (h7.drew.belowAll hW) rfl (zAg _) zuB) ?_;simp only [pT];iterate 5 (refine wB rfl ?_;simp only [pT])
    refine zAf (v:=.int .i64 (k2 : Int)) rfl rfl (fun W hW=>by go_simp;rw [if_neg HVE.out,M2.out]) ?_;simp only [pT];refine zAf (v:=.pointer (some ⟨bb,o + k2 * 2,none⟩)) rfl rfl (fun W hW=>by go_simp) ?_;simp only [pT];refine zAf (v:=.agg (zAb z)) rfl rfl (fun W hW=>zAE (zAb z) (HCZ.out _ (HB2.out.trans ((Lays.refl _).drew.below (Nat.le_refl _) |>.trans hW |>.mono HB2.out.size))) rfl zuB) ?_;simp only [pT];refine zAG rfl rfl (fun K hK=>?_)
    go_simp
    refine (HCA.out _).mono ?_;rintro e w3 ⟨rfl,l3⟩;have hb3:=l3.below (Nat.le_refl _);refine hK _ _ hb3 ?_;clear hK K
    try simp only [pT]
    refine wB rfl ?_;simp only [pT];simp only [wpB];go_wp2;go_roundw
    case rel=>exact ⟨k + 1,by omega,by go_num,zz (by rw [HFL.out,HCN.out,decide_eq_true hc0];simpa using (HO2.out.belowAll ((Lays.refl _).drew.below (Nat.le_refl _))).belowAll hb3),zz (HB2.out.trans ((Lays.refl _).drew.below (Nat.le_refl _) |>.trans hb3 |>.mono HB2.out.size))⟩
    case measure=>simp [intOf];omega
   ·have hcb : (cr != 0) = true:=by simpa using hc0
    go_wp2_with (first
     | ((with_reducible refine zAm 12 ?_);refine zLe 12 bb (o + k * 2) (zAb x) HCX0.out zuB ?_)
     | ((with_reducible refine zAv 27 ?_);refine zAk (cs:=zAb x) rfl 27 _ _ rfl rfl rfl rfl (by kernel_rfl) rfl (zAD _) ?_))
    refine rgO [(0,true),(1,true),(2,true),(3,true),(4,true),(5,true),(6,true),(7,true),(8,true),(9,true),(10,true),(11,true),(12,true),(13,true),(14,true),(15,true),(16,true),(17,true),(18,true),(19,true),(20,false),(21,true)] ?_;iterate 8 (refine wB rfl ?_;simp only [pT])
    refine zAf (v:=.int .i64 (k1 : Int)) rfl rfl (fun W hW=>by go_simp;rw [if_neg HVE.out,M1.out]) ?_;simp only [pT];refine zAf (v:=.pointer (some ⟨bb,o + k1 * 2,none⟩)) rfl rfl (fun W hW=>by go_simp) ?_;simp only [pT];refine zAf (v:=.agg (zAb y)) rfl rfl (fun W hW=>zAE (zAb y) (HCY.out _ (HB2.out.trans ((Lays.refl _).drew.below (Nat.le_refl _) |>.trans hW |>.mono HB2.out.size))) rfl zuB) ?_;simp only [pT];refine zAf (v:=.agg (zAb x)) rfl rfl (fun W hW=>zAc (zAb x) (h7.drew.belowAll hW) rfl (zAg _) zuB) ?_;simp only [pT];iterate 5 (refine wB rfl ?_;simp only [pT])
    refine zAf (v:=.int .i64 (k2 : Int)) rfl rfl (fun W hW=>by go_simp;rw [if_neg HVE.out,M2.out]) ?_;simp only [pT];refine zAf (v:=.pointer (some ⟨bb,o + k2 * 2,none⟩)) rfl rfl (fun W hW=>by go_simp) ?_;simp only [pT];refine zAf (v:=.agg (zAb z)) rfl rfl (fun W hW=>zAE (zAb z) (HCZ.out _ (HB2.out.trans ((Lays.refl _).drew.below (Nat.le_refl _) |>.trans hW |>.mono HB2.out.size))) rfl zuB) ?_;simp only [pT];refine zAG rfl rfl (fun K hK=>?_)
    go_simp
    refine (HCA.out _).mono ?_;rintro e w3 ⟨rfl,l3⟩;have hb3:=l3.below (Nat.le_refl _);refine hK _ _ hb3 ?_;clear hK K
    try simp only [pT]
    refine wB rfl ?_;simp only [pT];simp only [wpB];have HB3:=zz (HB2.out.trans ((Lays.refl _).drew.below (Nat.le_refl _) |>.trans hb3 |>.mono HB2.out.size));have HO3:=zz ((HO2.out.belowAll ((Lays.refl _).drew.below (Nat.le_refl _))).belowAll hb3)
    go_wp2_with (first
     | ((with_reducible refine zAm 38 ?_);refine zAU rfl _ _ 50 rfl w.heap.size zCm (fun _=>rfl) (by decide) zB4 (by decide) u3 acc rfl (HO3.out.belowAll ((Below.refl _ _).alloc (Nat.le_refl _) _)) w3.heap.size 0 1 (k : Int) rfl (fun j hj=>by rw [Nat.zero_add];exact (zAe.new w3 3 (zAC (k : Int))).cell j) HLE.out (Nat.le_trans HB3.out.size (by simp)) ?_;intro v5 w5 ho5 hg5 hv5))
    go_roundw
    case rel=>exact ⟨k + 1,by omega,by go_num,zz (by rw [HFL.out,HCN.out,decide_eq_false hc0];exact ho5),zz ((HB3.out.alloc HB3.out.size _).grown hg5 (Nat.le_trans HB3.out.size (by simp)) fun g e=>(HO3.out.block g e).1)⟩
    case measure=>simp [intOf];omega
  ·have hkv : k = val.length:=by omega
   subst hkv;go_wp2;go_ret;refine ⟨_,rfl, ?_,HB.out⟩;have h:=HO.out;rw [show (List.range val.length).take val.length = List.range val.length by rw [List.take_of_length_le (by simp)]] at h;exact h
end Go.Proofs.YtbbblemfodpmaaaGreat
end
section
namespace Go.Proofs.YtbbblemfodpmaaaGreat
open Go.RowKit
def zDs (l : List Point) (p : Point) (i : Nat) : Bool:=
 (decide (((l[i]?).getD zAF).y > p.y) != decide (((l[(i + 1) % l.length]?).getD zAF).y > p.y)) && (decide (zAw ((l[i]?).getD zAF) ((l[(i + 1) % l.length]?).getD zAF) p > 0) == decide (((l[(i + 1) % l.length]?).getD zAF).y > ((l[i]?).getD zAF).y))
def insideA (l : List Point) (p : Point) : Bool:=(List.range l.length).foldl (fun b i=>if zDs l p i then !b else b) false
theorem zEu {α β : Type} {f : β→α→β} {l : List α} {k : Nat} {x : α} {b : β} (h : l[k]? = some x) : (l.take (k + 1)).foldl f b = f ((l.take k).foldl f b) x:=by
 rw [List.take_add_one,h,List.foldl_append];rfl
theorem inside_any (s : Sl Point) {D : Nat→Prop} {ok : (Nat→Prop)→World→Point→Prop} (hI : ∀ x ∈ s.val,zAy x) (p : Point) (hp : zAy p) (w : World) (hs : s.OK 2 zAb ok D w) :
  Calls Tryz.prog 132 #[.slice s.a s.val.length s.cap, .agg (zAb p)] w fun e w'=>e = .returned (.bool (insideA s.val p))∧Below w.heap.size w w':=by
 have hroom:=hs.room;have HS:=zz hs;have HI:=zz hI;have SP:=zz hp;clear hs hI hp;obtain ⟨a,cap,val⟩:=s;simp only at hroom;have hB0 : Below w.heap.size w (w.alloc (.cells (zAb p) 27)):=(Below.refl _ _).alloc (Nat.le_refl _) _;have hp0 : zAe (w.alloc (.cells (zAb p) 27)) w.heap.size 27 (zAb p):=zAe.new _ _ _;have HP0:=zz hp0;have HB0:=zz hB0;clear hp0 hB0;go_enter Tryz.func132,Tryz.ntmps132;go_wp2
 go_loopw [5,11] (fun v i wr=>∃ k : Nat,k ≤ val.length∧i = .int .i64 k∧v = .bool (((List.range val.length).take k).foldl (fun b i=>if zDs val p i then !b else b) false)∧Hid (Below (w.alloc (.cells (zAb p) 27)).heap.size (w.alloc (.cells (zAb p) 27)) wr)) (fun _ i _=>val.length - (intOf i).toNat)
 case atStart=>exact ⟨0,Nat.zero_le _,rfl,rfl,zz (Below.refl _ _)⟩
 case round=>
  obtain ⟨k,hk,rfl,rfl,HB⟩:=hrel
  by_cases hlt : k < val.length
  ·obtain ⟨x,hx⟩ : ∃ x,val[k]? = some x:=⟨_,List.getElem?_eq_getElem hlt⟩
   obtain ⟨bb,o,rfl,hbb,_,_,hcell⟩:=HS.out.at hx;have hkn : (k + 1) % val.length < val.length:=Nat.mod_lt _ (by omega);obtain ⟨k2,hk2⟩ : ∃ z,(k + 1) % val.length = z:=⟨_,rfl⟩
   rw [hk2] at hkn;obtain ⟨z,hz⟩ : ∃ z,val[k2]? = some z:=⟨_,List.getElem?_eq_getElem hkn⟩
   have cell : ∀ (k : Nat) (x : Point),val[k]? = some x→∀ W,Below w.heap.size w W→∀ j,j < (zAb x).size→W.cell? ⟨bb,o + k * 2 + j,none⟩ = (zAb x)[j]?:=fun k x hx W hW j hj=>by
    obtain ⟨b2,o2,e,_,_,_,hc⟩:=HS.out.at hx;simp only [Option.some.injEq,Addr.mk.injEq,and_true] at e;obtain ⟨rfl,rfl⟩:=e;rw [(Ext.of_below (D:=fun _=>False) hW).cell hbb id];exact hc j hj
   have HBW : Hid (Below w.heap.size w wr):=zz (HB0.out.trans (HB.out.mono HB0.out.size));have HCX0 : Hid (∀ j,j < (zAb x).size→wr.cell? ⟨bb,o + k * 2 + j,none⟩ = (zAb x)[j]?):=zz (cell k x hx wr HBW.out);have HCZ0 : Hid (∀ j,j < (zAb z).size→(wr.alloc (.cells (zAb x) 27)).cell? ⟨bb,o + k2 * 2 + j,none⟩ = (zAb z)[j]?):=zz (cell k2 z hz _ (HBW.out.alloc HBW.out.size _));obtain ⟨acc,hacc⟩ : ∃ c,((List.range val.length).take k).foldl (fun b i=>if zDs val p i then !b else b) false = c:=⟨_,rfl⟩
   have HFL : Hid (((List.range val.length).take (k + 1)).foldl (fun b i=>if zDs val p i then !b else b) false = if zDs val p k then !acc else acc):=zz (by rw [zEu (zE3 hlt),hacc]);have HED : Hid (zDs val p k = ((decide (x.y > p.y) != decide (z.y > p.y)) && (decide (zAw x z p > 0) == decide (z.y > x.y)))):=zz (by unfold zDs;rw [hk2,hx,hz];rfl);have w3 : IntKind.i64.wrap ((k : Int) + 1) = (k : Int) + 1:=IntWalk.i64_in _ (by omega);have m2 : ((k : Int) + 1).tmod (val.length : Int) = (k2 : Int):=by rw [Int.tmod_eq_emod_of_nonneg (by omega),← hk2,Int.natCast_emod];rfl
   have hve : ¬ val = []:=fun h=>by rw [h] at hlt;exact absurd hlt (Nat.not_lt_zero _)
   have i2 : (k2 : Int) < (val.length : Int):=by omega
   obtain ⟨cr,hcr⟩ : ∃ c,zAw x z p = c:=⟨_,rfl⟩
   have HCA : Hid (∀ W,Calls Tryz.prog 146 #[.agg (zAb x), .agg (zAb z), .agg (zAb p)] W fun e w'=>e = .returned (.int .i64 cr)∧Lays W w'):=zz fun W=>by rw [← hcr];exact zCK x z p (HI.out x (List.mem_of_getElem? hx)) (HI.out z (List.mem_of_getElem? hz)) SP.out W
   rw [hcr] at HED;simp only [hacc];have H7 : Hid (zAe ((wr.alloc (.cells (zAb x) 27)).alloc (.cells (zAb z) 27)).drew wr.heap.size 27 (zAb x)):=zz ((zAe.new _ _ _).alloc _).drew;have H8 : Hid (zAe ((wr.alloc (.cells (zAb x) 27)).alloc (.cells (zAb z) 27)).drew (wr.heap.size + 1) 27 (zAb z)):=zz (by
    have h:=zAe.new (wr.alloc (.cells (zAb x) 27)) 27 (zAb z);rw [World.size_alloc] at h;exact h.drew)
   have hbd : Below wr.heap.size wr ((wr.alloc (.cells (zAb x) 27)).alloc (.cells (zAb z) 27)).drew:=(((Lays.refl wr).alloc _).alloc _).drew.below (Nat.le_refl _);have HBD:=zz hbd;have H3 : Hid (zAe ((wr.alloc (.cells (zAb x) 27)).alloc (.cells (zAb z) 27)).drew w.heap.size 27 (zAb p)):=zz ((HP0.out.belowAll HB.out).belowAll hbd);obtain ⟨j7,hj7⟩ : ∃ c,wr.heap.size = c:=⟨_,rfl⟩
   rw [hj7] at H7;rw [hj7] at H8;have HJ7:=zz hj7;have HBR:=zz HB.out.size;clear hx hz hcell cell hcr hk2 hacc hbd hj7 hbb;obtain ⟨q,hq⟩ : ∃ q,(decide (p.y < x.y) != decide (p.y < z.y)) = q:=⟨_,rfl⟩
   have HQ:=zz hq;obtain ⟨c,hc⟩ : ∃ c,(decide (0 < cr) == decide (x.y < z.y)) = c:=⟨_,rfl⟩
   have HR:=zz hc;have HED2 : Hid (zDs val p k = (q && c)):=zz (by rw [HED.out,← hq,← hc]);clear hq hc HED
   cases q
   ·go_wp2_with (first | ((with_reducible refine zAm 15 ?_);refine zLe 15 bb (o + k * 2) (zAb x) HCX0.out zuB ?_) | ((with_reducible refine zAm 23 ?_);refine zLe 23 bb (o + k2 * 2) (zAb z) HCZ0.out zuB ?_) | ((with_reducible refine zAv 27 ?_);first | (refine zAk (cs:=zAb x) rfl 27 _ _ (n:=wr.heap.size) rfl rfl rfl rfl (by kernel_rfl) rfl (zAD _) ?_) | (refine zAk (cs:=zAb z) rfl 27 _ _ (n:=wr.heap.size + 1) rfl (by simp) rfl rfl (by kernel_rfl) rfl (zAD _) ?_)))
    simp only [HJ7.out];refine rgO [(0,true),(1,true),(2,true),(3,true),(4,true),(5,true),(6,true),(7,true),(8,true),(9,true),(10,true),(11,true),(12,true),(13,true),(14,true),(17,true),(18,true),(19,true),(20,true),(21,true),(15,false),(16,true),(22,true),(23,true)] ?_;refine wB rfl ?_;simp only [pT];refine zAf (v:=.int .i64 x.y) rfl rfl (fun W hW=>by have e : W.cell? ⟨j7,1,none⟩ = some (.int .i64 x.y):=((H7.out.belowAll hW).cell 1).trans rfl;go_simp) ?_;simp only [pT];refine wB rfl ?_;simp only [pT];refine zAf (v:=.int .i64 p.y) rfl rfl (fun W hW=>by have e : W.cell? ⟨w.heap.size,1,none⟩ = some (.int .i64 p.y):=((H3.out.belowAll hW).cell 1).trans rfl;go_simp) ?_;simp only [pT];iterate 2 (refine wB rfl ?_;simp only [pT])
    refine zAf (v:=.int .i64 z.y) rfl rfl (fun W hW=>by have e : W.cell? ⟨(j7 + 1),1,none⟩ = some (.int .i64 z.y):=((H8.out.belowAll hW).cell 1).trans rfl;go_simp) ?_;simp only [pT];refine wB rfl ?_;simp only [pT];refine zAf (v:=.int .i64 p.y) rfl rfl (fun W hW=>by have e : W.cell? ⟨w.heap.size,1,none⟩ = some (.int .i64 p.y):=((H3.out.belowAll hW).cell 1).trans rfl;go_simp) ?_;simp only [pT];refine wB rfl ?_;simp only [pT];refine zAf (v:=.bool false) rfl rfl (fun W hW=>by go_simp;simpa using HQ.out) ?_;simp only [pT];refine wB rfl ?_;simp only [pT];iterate 8 (refine wK rfl ?_;simp only [pT])
    refine wL rfl ?_;simp only [pT];iterate 2 (refine wK rfl ?_;simp only [pT])
    refine wB rfl ?_;simp only [pT];simp only [wpB];go_wp2;go_roundw
    case rel=>exact ⟨k + 1,by omega,by go_num,by rw [HFL.out,HED2.out];rfl,zz (HB.out.trans (HBD.out.mono HB.out.size))⟩
    case measure=>simp [intOf];omega
   ·go_wp2_with (first | ((with_reducible refine zAm 15 ?_);refine zLe 15 bb (o + k * 2) (zAb x) HCX0.out zuB ?_) | ((with_reducible refine zAm 23 ?_);refine zLe 23 bb (o + k2 * 2) (zAb z) HCZ0.out zuB ?_) | ((with_reducible refine zAv 27 ?_);first | (refine zAk (cs:=zAb x) rfl 27 _ _ (n:=wr.heap.size) rfl rfl rfl rfl (by kernel_rfl) rfl (zAD _) ?_) | (refine zAk (cs:=zAb z) rfl 27 _ _ (n:=wr.heap.size + 1) rfl (by simp) rfl rfl (by kernel_rfl) rfl (zAD _) ?_)))
    simp only [HJ7.out];refine rgO [(0,true),(1,true),(2,true),(3,true),(4,true),(5,true),(6,true),(7,true),(8,true),(9,true),(10,true),(11,true),(12,true),(13,true),(14,true),(17,true),(18,true),(19,true),(20,true),(21,true),(15,false),(16,true),(22,true),(23,true)] ?_;refine wB rfl ?_;simp only [pT];refine zAf (v:=.int .i64 x.y) rfl rfl (fun W hW=>by have e : W.cell? ⟨j7,1,none⟩ = some (.int .i64 x.y):=((H7.out.belowAll hW).cell 1).trans rfl;go_simp) ?_;simp only [pT];refine wB rfl ?_;simp only [pT];refine zAf (v:=.int .i64 p.y) rfl rfl (fun W hW=>by have e : W.cell? ⟨w.heap.size,1,none⟩ = some (.int .i64 p.y):=((H3.out.belowAll hW).cell 1).trans rfl;go_simp) ?_;simp only [pT];iterate 2 (refine wB rfl ?_;simp only [pT])
    refine zAf (v:=.int .i64 z.y) rfl rfl (fun W hW=>by have e : W.cell? ⟨(j7 + 1),1,none⟩ = some (.int .i64 z.y):=((H8.out.belowAll hW).cell 1).trans rfl;go_simp) ?_;simp only [pT];refine wB rfl ?_;simp only [pT];refine zAf (v:=.int .i64 p.y) rfl rfl (fun W hW=>by have e : W.cell? ⟨w.heap.size,1,none⟩ = some (.int .i64 p.y):=((H3.out.belowAll hW).cell 1).trans rfl;go_simp) ?_;simp only [pT];refine wB rfl ?_;simp only [pT];refine zAf (v:=.bool true) rfl rfl (fun W hW=>by go_simp;simpa using HQ.out) ?_;simp only [pT];refine wB rfl ?_;simp only [pT];refine zAf (v:=.agg (zAb x)) rfl rfl (fun W hW=>zAc (zAb x) (H7.out.belowAll hW) rfl (zAg _) zuB) ?_;simp only [pT];refine zAf (v:=.agg (zAb z)) rfl rfl (fun W hW=>zAc (zAb z) (H8.out.belowAll hW) rfl (zAg _) zuB) ?_;simp only [pT];refine zAf (v:=.agg (zAb p)) rfl rfl (fun W hW=>zAc (zAb p) (H3.out.belowAll hW) rfl (zAg _) zuB) ?_;simp only [pT];refine wB rfl ?_;simp only [pT];refine zAf (v:=.int .i64 z.y) rfl rfl (fun W hW=>by have e : W.cell? ⟨(j7 + 1),1,none⟩ = some (.int .i64 z.y):=((H8.out.belowAll hW).cell 1).trans rfl;go_simp) ?_;simp only [pT];refine wB rfl ?_;simp only [pT];refine zAf (v:=.int .i64 x.y) rfl rfl (fun W hW=>by have e : W.cell? ⟨j7,1,none⟩ = some (.int .i64 x.y):=((H7.out.belowAll hW).cell 1).trans rfl;go_simp) ?_;simp only [pT];refine wB rfl ?_;simp only [pT];refine zAG rfl rfl (fun K hK=>?_)
    go_simp
    refine (HCA.out _).mono ?_;rintro e w3 ⟨rfl,l3⟩;have hb3:=l3.below (Nat.le_refl _);refine hK _ _ hb3 ?_;clear hK K
    try simp only [pT]
    refine wB rfl ?_;simp only [pT];refine zAf (v:=.bool c) rfl rfl (fun W hW=>by go_simp;first | rw [HR.out] | simpa using HR.out) ?_;simp only [pT];refine wB rfl ?_;simp only [pT];simp only [wpB]
    cases c
    ·go_wp2;go_roundw
     case rel=>exact ⟨k + 1,by omega,by go_num,by rw [HFL.out,HED2.out];rfl,zz (HB.out.trans ((HBD.out.trans (hb3.mono HBD.out.size)).mono HB.out.size))⟩
     case measure=>simp [intOf];omega
    ·go_wp2;go_roundw
     case rel=>exact ⟨k + 1,by omega,by go_num,by rw [HFL.out,HED2.out];rfl,zz (HB.out.trans ((HBD.out.trans (hb3.mono HBD.out.size)).mono HB.out.size))⟩
     case measure=>simp [intOf];omega
  ·have hkv : k = val.length:=by omega
   subst hkv;go_wp2;go_ret;refine ⟨?_,HB0.out.trans (HB.out.mono HB0.out.size)⟩;rw [show (List.range val.length).take val.length = List.range val.length by rw [List.take_of_length_le (by simp)]];rfl
end Go.Proofs.YtbbblemfodpmaaaGreat
end
