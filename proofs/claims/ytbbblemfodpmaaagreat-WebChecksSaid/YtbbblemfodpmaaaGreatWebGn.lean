/-Whether a joint lies inside a bounded walk of another component.-/
import Derived.Test.YtbbblemfodpmaaaGreatWebGm
set_option linter.unusedVariables false
set_option linter.unusedSimpArgs false
set_option maxHeartbeats 16000000
set_option maxRecDepth 100000
section
namespace Go.Proofs.YtbbblemfodpmaaaGreat
open Go.RowKit
def hitA (js : List Joint) (ls : List Lead) (l : List Side) (j : Joint) : Bool:=!decide (zA8 (togA js ls 0 0) j.id = zA8 (togA js ls 0 0) (zAl ls (l.headD zDg)).1) && insideA (zAI js ls l) j.at_
def zB0 (js : List Joint) (ls : List Lead) (L : List (List Side)) : Bool:=L.any fun l=>js.any fun j=>hitA js ls l j
theorem ValidW.jsmall {js : List Joint} {ls : List Lead} (V : ValidW js ls) {x : Joint} (hx : x ∈ js) : zAy x.at_:=by
 have h:=V.small x.id;unfold ptA at h;rw [V.at_ hx] at h;exact h
theorem zC0 {js : List Joint} {ls : List Lead} (V : ValidW js ls) (l : List Side) : ∀ p ∈ zAI js ls l,zAy p:=fun p hp=>by
 obtain ⟨s,_,rfl⟩:=List.mem_map.1 hp;exact V.small _
theorem zAW.place {W : World} {N : Nat} {v : Value} {L : List (List Side)} (h : zAW W N v L) {k : Nat} {l : List Side} (hk : L[k]? = some l) :
  ∃ (g cap : Nat) (s : Sl Side),v = .slice (some ⟨g,0,none⟩) L.length cap∧N ≤ g∧g < W.heap.size∧W.cell? ⟨g,k,none⟩ = some (.slice s.a l.length s.cap)∧s.val = l∧OwnL zAa 2 W N 59 (.slice s.a l.length s.cap) l:=by
 obtain ⟨ss,h1,h2,h3⟩:=h;rw [← h3,List.getElem?_map] at hk
 cases hs : ss[k]? with
 | none=>rw [hs] at hk;cases hk
 | some s=>
  rw [hs] at hk;simp only [Option.map_some,Option.some.injEq] at hk;subst hk;obtain ⟨g,cap,e,hg,hgl,hc⟩:=OwnL.cellOf (enc:=zBV) (sz:=1) (fun _=>rfl) h1 hs;refine ⟨g,cap,s,by rw [← h3,List.length_map];exact e,hg,hgl, ?_,rfl,h2 s (List.mem_of_getElem? hs)⟩;have h4:=hc 0 Nat.one_pos;rw [Nat.mul_one,Nat.add_zero] at h4;exact h4.trans rfl
theorem zAW.shape {W : World} {N : Nat} {v : Value} {L : List (List Side)} (h : zAW W N v L) : ∃ a c,v = .slice a L.length c:=by
 obtain ⟨ss,h1,h2,h3⟩:=h;obtain ⟨a,c,e⟩:=OwnL.shape h1;exact ⟨a,c,by rw [← h3,List.length_map];exact e⟩
theorem nested_any {b : Nat} {sj : Sl Joint} {sl : Sl Lead} (V : ValidW sj.val sl.val) (L : List (List Side)) (hLl : L.length ≤ 800) (hL : ∀ l ∈ L,l ≠ []∧l.length ≤ 800∧∀ x ∈ l,I64 x.lead) (v : Value) (N : Nat) (w : World) (hN : zA5 w b sj sl) (hj : sj.OK 3 zAh zAs (fun _=>False) w) (hv : zAW w N v L) :
  Calls Tryz.prog 153 #[.pointer (some ⟨b,0,none⟩),v] w fun e w'=>e = .returned (.bool (zB0 sj.val sl.val L))∧Below w.heap.size w w':=by
 have HV:=zz V;have HJ:=zz hj;have HN:=zz hN;have HL:=zz hL;have HS:=zz hv;have hroom:=hj.room;have HTG:=zz (zDr V 0 0 w hN hj);obtain ⟨va,vc,rfl⟩:=hv.shape;clear hN hj V hL hv;obtain ⟨P,hP⟩ : ∃ P,togA sj.val sl.val 0 0 = P:=⟨_,rfl⟩
 have HP:=zz hP;simp only [hP] at HTG;clear hP;obtain ⟨aj,capj,js⟩:=sj;simp only at hroom;go_enter Tryz.func153,Tryz.ntmps153
 go_wp2_with (first
  | (go_at_call 117;refine HTG.out.mono ?_;rintro e w1 ⟨bm,rfl,hbm,hm1,hb1⟩))
 have HM1:=zz hm1;have HB1:=zz hb1;clear hm1 hb1
 go_loopw [17] (fun i wr=>∃ k : Nat,k ≤ L.length∧i = .int .i64 k∧Hid (∀ (i : Nat) l,i < k→L[i]? = some l→(js.any fun j=>hitA js sl.val l j) = false)∧Hid (Below w1.heap.size w1 wr)) (fun i _=>L.length - (intOf i).toNat)
 case atStart=>exact ⟨0,Nat.zero_le _,rfl,zz (by omega),zz (Below.refl _ _)⟩
 case round=>
  obtain ⟨k,hk,rfl,HK,HB⟩:=hrel
  by_cases hlt : k < L.length
  ·obtain ⟨l,hl⟩ : ∃ l,L[k]? = some l:=⟨_,List.getElem?_eq_getElem hlt⟩
   have HLK:=zz hl;have HBW : Hid (Below w.heap.size w wr):=zz (HB1.out.trans (HB.out.mono HB1.out.size));obtain ⟨g,cap,s,e,_,hgl,hgc,hsv,hso⟩:=(HS.out.belowAll HBW.out).place hl;simp only [Value.slice.injEq] at e;obtain ⟨rfl,_,rfl⟩:=e;obtain ⟨hne,hl8,hlI⟩:=HL.out l (List.mem_of_getElem? hl);obtain ⟨x0,lr,hx0⟩:=List.exists_cons_of_ne_nil hne;obtain ⟨gi,icap,e2,_,hgi,hci⟩:=OwnL.cellOf (enc:=zAa) (sz:=2) (fun _=>rfl) hso (k:=0) (x:=x0) (by rw [hx0];rfl);have HSO:=zz hso;have HCI : Hid (∀ j,j < (zAa x0).size→wr.cell? ⟨gi,0 + j,none⟩ = (zAa x0)[j]?):=zz fun j hj=>by have h:=hci j hj;rw [Nat.zero_mul] at h;exact h
   have HX0 : Hid (I64 x0.lead):=zz (hlI x0 (by rw [hx0];simp));have HLI:=zz hlI;have hln : 0 < l.length:=by rw [hx0];simp
   obtain ⟨j1,hj1⟩ : ∃ z,(zAl sl.val x0).1 = z:=⟨_,rfl⟩
   obtain ⟨j2,hj2⟩ : ∃ z,(zAl sl.val x0).2 = z:=⟨_,rfl⟩
   have HE : Hid (Calls Tryz.prog 111 #[.pointer (some ⟨b,0,none⟩), .agg (zAa x0)] wr fun e w'=>e = .returned (.tuple #[.int .i64 j1, .int .i64 j2])∧Lays wr w'):=zz (by
    rw [← hj1,← hj2];exact zEZ x0 HX0.out _ (HN.out.below HBW.out))
   have HJI : Hid (I64 j1):=zz (hj1 ▸ (HV.out.endI x0).1);obtain ⟨pj,hpj⟩ : ∃ z,(aget P j1).getD 0 = z:=⟨_,rfl⟩
   have HPJ:=zz hpj;have HHD : Hid ((zAl sl.val (l.headD zDg)).1 = j1):=zz (by rw [hx0];exact hj1);obtain ⟨sa,sc,sv⟩:=s;simp only at hsv hgc e2 HSO;subst hsv;simp only [Value.slice.injEq] at e2;obtain ⟨rfl,_,rfl⟩:=e2;have HPT : Hid (∀ W,Below w.heap.size w W→Below wr.heap.size wr W→Calls Tryz.prog 157 #[.pointer (some ⟨b,0,none⟩), .slice (some ⟨gi,0,none⟩) sv.length sc] W fun e w'=>∃ v,e = .returned v∧OwnL zAb 2 w' W.heap.size 27 v (zAI js sl.val sv)∧Below W.heap.size W w'):=zz fun W hW hW2=>by
    obtain ⟨t,ht,hts,htok,_⟩:=OwnL.sl (enc:=zAa) (sz:=2) (HSO.out.belowAll hW2) (fun _=>rfl) (fun _ _ _=>True) (fun _=>False) (fun _ _=>trivial) (fun _ _ h=>h) (by omega);have h:=zE2 HV.out t (fun x hx=>HLI.out x (hts ▸ hx)) W (HN.out.below hW) htok;rw [hts] at h;have e : Value.slice (some ⟨gi,0,none⟩) sv.length sc = .slice t.a sv.length t.cap:=by rw [ht,← hts];rfl
    rw [e];exact h
   have HL8:=zz hl8;clear hl hgl hso hne hlI hx0 hgi hci hj1 hj2 hpj hl8
   go_wp2_with (first
    | ((with_reducible refine zAm 25 ?_);refine zLe 25 gi 0 (zAa x0) HCI.out zuA ?_)
    | (go_at_call 111;refine HE.out.mono ?_;rintro e w2 ⟨rfl,l2⟩;have hb2:=l2.below (Nat.le_refl _);have hB2:=HBW.out.trans (hb2.mono HBW.out.size))
    | (go_at_call 157;refine (HPT.out w2 hB2 hb2).mono ?_;rintro e w3 ⟨pv,rfl,ho3,hb3⟩;have hB3:=hB2.trans (hb3.mono hB2.size);have q3:=(HN.out.below hB3).joints))
   have HB3:=zz hB3;have HO3:=zz ho3;have HB13 : Hid (Below w1.heap.size w1 w3):=zz ((HB.out.trans (hb2.mono HB.out.size)).trans (hb3.mono (Nat.le_trans HB.out.size hb2.size)));have HM3 : Hid (MapAt vi vi I64 w3 bm P):=zz (HM1.out.below HB13.out HM1.out.lt);obtain ⟨t,ht,hts,htok,_⟩:=OwnL.sl (enc:=zAb) (sz:=2) ho3 (fun _=>rfl) (fun _ _ _=>True) (fun _=>False) (fun _ _=>trivial) (fun _ _ h=>h) (by unfold zAI;rw [List.length_map];have:=HL8.out;omega);subst ht;have HPS : Hid (∀ x ∈ t.val,zAy x):=zz (by rw [hts];exact zC0 HV.out sv);have HTOK:=zz htok;have HTS:=zz hts;clear hts htok ho3 hb2 hb3 hB2 hB3 q3;obtain ⟨ta,tc,tv⟩:=t;simp only at HPS HTS
   go_loopw [38] (fun i wr=>∃ q : Nat,q ≤ js.length∧i = .int .i64 q∧Hid (∀ (i : Nat) x,i < q→js[i]? = some x→hitA js sl.val sv x = false)∧Hid (Below w3.heap.size w3 wr)) (fun i _=>js.length - (intOf i).toNat)
   case atStart=>exact ⟨0,Nat.zero_le _,rfl,zz (by omega),zz (Below.refl _ _)⟩
   case round=>
    obtain ⟨q,hq,rfl,HQ,HR⟩:=hrel
    by_cases hql : q < js.length
    ·obtain ⟨x,hx⟩ : ∃ x,js[q]? = some x:=⟨_,List.getElem?_eq_getElem hql⟩
     obtain ⟨bb,o,rfl,hbb,_,hok,hcell⟩:=HJ.out.at hx;have HBQ : Hid (Below w.heap.size w wr):=zz (HB3.out.trans (HR.out.mono HB3.out.size));have HC : Hid (∀ j,j < (zAh x).size→wr.cell? ⟨bb,o + q * 3 + j,none⟩ = (zAh x)[j]?):=zz fun j hj=>by
      rw [(Ext.of_below (D:=fun _=>False) HBQ.out).cell hbb id];exact hcell j hj
     have HXI : Hid (I64 x.id):=zz hok.1;have hjb : zAe (wr.alloc (.cells (zAh x) 29)) wr.heap.size 29 (zAh x):=zAe.new _ _ _;have z0 : (wr.alloc (.cells (zAh x) 29)).cell? ⟨wr.heap.size,0,none⟩ = some (.int .i64 x.id):=(hjb.cell 0).trans rfl;have hB4 : Below w3.heap.size w3 (wr.alloc (.cells (zAh x) 29)):=HR.out.alloc HR.out.size _;have HB4:=zz hB4;have hm4:=HM3.out.below hB4 HM3.out.lt;obtain ⟨px,hpx⟩ : ∃ z,(aget P x.id).getD 0 = z:=⟨_,rfl⟩
     have HPX:=zz hpx;obtain ⟨c,hc⟩ : ∃ c,insideA tv x.at_ = c:=⟨_,rfl⟩
     have HHX : Hid (hitA js sl.val sv x = (!decide (px = pj) && c)):=zz (by
      unfold hitA zA8;rw [HHD.out,HP.out,hpx,HPJ.out,← HTS.out,hc])
     have HIN : Hid (Calls Tryz.prog 132 #[.slice ta tv.length tc, .agg (zAb x.at_)] (wr.alloc (.cells (zAh x) 29)) fun e w'=>e = .returned (.bool c)∧Below (wr.alloc (.cells (zAh x) 29)).heap.size (wr.alloc (.cells (zAh x) 29)) w'):=zz (by
      rw [← hc];exact inside_any ⟨ta,tc,tv⟩ HPS.out x.at_ (HV.out.jsmall (List.mem_of_getElem? hx)) _ (HTOK.out.ext (fun _ _=>trivial) (Ext.of_below hB4)))
     have HXQ:=zz hx;clear hx hok hcell hbb hpx hc hB4;have nx : ∀ b,(!decide (px = pj) && c) = b→b = false→∀ (i : Nat) y,i < q + 1→js[i]? = some y→hitA js sl.val sv y = false:=fun b hb hb0 i y hi hy=>by
      rcases Nat.lt_succ_iff_lt_or_eq.1 hi with h | rfl
      ·exact HQ.out i y h hy
      ·rw [HXQ.out] at hy;cases hy;rw [HHX.out,hb,hb0]
     have NX:=zz nx;clear nx
     by_cases hpp : px = pj
     ·have hpb : (px != pj) = false:=by simpa using hpp
      have HPP:=zz hpp;clear hpp
      go_wp2_with (first | ((with_reducible refine zAm 41 ?_);refine zLe 41 bb (o + q * 3) (zAh x) HC.out zuG ?_) | ((with_reducible refine zAv 29 ?_);refine zAk (cs:=zAh x) rfl 29 _ _ rfl rfl rfl rfl (by kernel_rfl) rfl (zBj _) ?_) | ((with_reducible refine zAm 45 ?_);refine zAY rfl _ _ 168 rfl zAQ zuE (0 : Int) (zBZ _) rfl hm4 x.id HXI.out rfl ?_;rw [HPX.out]) | ((with_reducible refine zAm 48 ?_);refine zAY rfl _ _ 168 rfl zAQ zuE (0 : Int) (zBZ _) rfl hm4 j1 HJI.out rfl ?_;rw [HPJ.out]) | ((with_reducible refine zAm 53 ?_);refine zA4 hjb rfl 27 _ rfl rfl (zAb x.at_) (zCf x) zuB ?_) | (go_at_call 132;refine HIN.out.mono ?_;rintro e w5 ⟨rfl,hb5⟩))
      go_roundw
      case rel=>exact ⟨_,_,_,⟨q + 1,by omega,by go_num,zz (NX.out _ rfl (by rw [decide_eq_true HPP.out];rfl))⟩,rfl,rfl,rfl⟩
      case measure=>simp [intOf];omega
     ·have hpb : (px != pj) = true:=by simpa using hpp
      have HPP:=zz hpp;clear hpp
      cases c
      ·go_wp2_with (first | ((with_reducible refine zAm 41 ?_);refine zLe 41 bb (o + q * 3) (zAh x) HC.out zuG ?_) | ((with_reducible refine zAv 29 ?_);refine zAk (cs:=zAh x) rfl 29 _ _ rfl rfl rfl rfl (by kernel_rfl) rfl (zBj _) ?_) | ((with_reducible refine zAm 45 ?_);refine zAY rfl _ _ 168 rfl zAQ zuE (0 : Int) (zBZ _) rfl hm4 x.id HXI.out rfl ?_;rw [HPX.out]) | ((with_reducible refine zAm 48 ?_);refine zAY rfl _ _ 168 rfl zAQ zuE (0 : Int) (zBZ _) rfl hm4 j1 HJI.out rfl ?_;rw [HPJ.out]) | ((with_reducible refine zAm 53 ?_);refine zA4 hjb rfl 27 _ rfl rfl (zAb x.at_) (zCf x) zuB ?_) | (go_at_call 132;refine HIN.out.mono ?_;rintro e w5 ⟨rfl,hb5⟩))
       go_roundw
       case rel=>exact ⟨_,_,_,_,_,_,_,_,_,_,_,_,_,_,_,_,_,_,_,_,_,⟨q + 1,by omega,by go_num,zz (NX.out _ rfl (by simp)),zz (HB4.out.trans (hb5.mono HB4.out.size))⟩,rfl⟩
       case measure=>simp [intOf];omega
      ·go_wp2_with (first | ((with_reducible refine zAm 41 ?_);refine zLe 41 bb (o + q * 3) (zAh x) HC.out zuG ?_) | ((with_reducible refine zAv 29 ?_);refine zAk (cs:=zAh x) rfl 29 _ _ rfl rfl rfl rfl (by kernel_rfl) rfl (zBj _) ?_) | ((with_reducible refine zAm 45 ?_);refine zAY rfl _ _ 168 rfl zAQ zuE (0 : Int) (zBZ _) rfl hm4 x.id HXI.out rfl ?_;rw [HPX.out]) | ((with_reducible refine zAm 48 ?_);refine zAY rfl _ _ 168 rfl zAQ zuE (0 : Int) (zBZ _) rfl hm4 j1 HJI.out rfl ?_;rw [HPJ.out]) | ((with_reducible refine zAm 53 ?_);refine zA4 hjb rfl 27 _ rfl rfl (zAb x.at_) (zCf x) zuB ?_) | (go_at_call 132;refine HIN.out.mono ?_;rintro e w5 ⟨rfl,hb5⟩))
       go_ret;have hf : zB0 js sl.val L = true:=by
        unfold zB0;rw [List.any_eq_true];refine ⟨sv,List.mem_of_getElem? HLK.out, ?_⟩;rw [List.any_eq_true];exact ⟨x,List.mem_of_getElem? HXQ.out,by rw [HHX.out,decide_eq_false HPP.out];rfl⟩
       exact ⟨by show _ = Ending.returned (.bool (zB0 js sl.val L));rw [hf];rfl,HB3.out.trans ((HB4.out.trans (hb5.mono HB4.out.size)).mono HB3.out.size)⟩
    ·have hqv : q = js.length:=by omega
     subst hqv;go_wp2;go_roundw
     case rel=>
      refine ⟨k + 1,by omega,by go_num,zz fun i l hi hl=>?_,zz (HB13.out.trans (HR.out.mono HB13.out.size))⟩
      rcases Nat.lt_succ_iff_lt_or_eq.1 hi with h | rfl
      ·exact HK.out i l h hl
      ·rw [HLK.out] at hl;cases hl;rw [List.any_eq_false];intro x hx;obtain ⟨n,hn⟩:=List.mem_iff_getElem?.1 hx;rw [HQ.out n x (List.getElem?_eq_some_iff.1 hn).1 hn];simp
     case measure=>simp [intOf];omega
  ·have hkv : k = L.length:=by omega
   subst hkv;go_wp2;go_ret;have hf : zB0 js sl.val L = false:=by
    unfold zB0;rw [List.any_eq_false];intro l hl;obtain ⟨n,hn⟩:=List.mem_iff_getElem?.1 hl;rw [HK.out n l (List.getElem?_eq_some_iff.1 hn).1 hn];simp
   exact ⟨by show _ = Ending.returned (.bool (zB0 js sl.val L));rw [hf];rfl,HB1.out.trans (HB.out.mono HB1.out.size)⟩
end Go.Proofs.YtbbblemfodpmaaaGreat
end
section
namespace Go.Proofs.YtbbblemfodpmaaaGreat
open Go.RowKit
theorem sound1_any {b bx : Nat} {sj : Sl Joint} {sl : Sl Lead} (V : ValidW sj.val sl.val) (s : Sl Side) (hI : ∀ x ∈ s.val,I64 x.lead) (hl : s.val.length ≤ 800) (w : World) (hN : zA5 w b sj sl) {N : Nat} (hs : OwnL zAa 2 w N 59 s.v s.val) (hb : zAe w bx 109 #[.pointer (some ⟨b,0,none⟩)]) :
  Calls Tryz.prog 155 #[s.v, .pointer (some ⟨bx,0,none⟩)] w fun e w'=>e = .returned (.bool (decide (24 < (zAZ (zAI sj.val sl.val s.val)).length)))∧Below w.heap.size w w':=by
 have HP : Hid (Calls Tryz.prog 157 #[.pointer (some ⟨b,0,none⟩),s.v] w fun e w'=>∃ v,e = .returned v∧OwnL zAb 2 w' w.heap.size 27 v (zAI sj.val sl.val s.val)∧Below w.heap.size w w'):=zz (by
  obtain ⟨t,ht,hts,htok,_⟩:=OwnL.sl (enc:=zAa) (sz:=2) hs (fun _=>rfl) (fun _ _ _=>True) (fun _=>False) (fun _ _=>trivial) (fun _ _ h=>h) (by omega);have h:=zE2 V t (fun x hx=>hI x (hts ▸ hx)) w hN htok;rw [hts] at h;rw [ht];rw [show t.v = .slice t.a s.val.length t.cap by rw [← hts];rfl];exact h)
 have HC : Hid (∀ v w',OwnL zAb 2 w' w.heap.size 27 v (zAI sj.val sl.val s.val)→Calls Tryz.prog 156 #[v] w' fun e w2=>∃ u,e = .returned u∧OwnL zAC 1 w2 w'.heap.size 3 u (zAZ (zAI sj.val sl.val s.val))∧Below w'.heap.size w' w2):=zz fun v w' ho=>by
  obtain ⟨t,ht,hts,htok,_⟩:=OwnL.sl (enc:=zAb) (sz:=2) ho (fun _=>rfl) (fun _ _ _=>True) (fun _=>False) (fun _ _=>trivial) (fun _ _ h=>h) (by unfold zAI;rw [List.length_map];omega);have h:=zFG t (by rw [hts];exact zC0 V s.val) w' htok;rw [hts] at h;rw [ht];rw [show t.v = .slice t.a (zAI sj.val sl.val s.val).length t.cap by rw [← hts];rfl];exact h
 have q1:=(hb.cell 0).trans (show _ = some (.pointer (some ⟨b,0,none⟩)) from rfl);obtain ⟨sv,hsv⟩ : ∃ v,s.v = v:=⟨_,rfl⟩
 rw [hsv] at HP;rw [hsv];obtain ⟨pl,hpl⟩ : ∃ z,zAI sj.val sl.val s.val = z:=⟨_,rfl⟩
 simp only [hpl] at HP HC ⊢;clear hI hl hN hs V hpl;go_enter Tryz.func155,Tryz.ntmps155
 go_wp2_with (first
  | (go_at_call 157;refine HP.out.mono ?_;rintro e w1 ⟨v1,rfl,ho1,hb1⟩)
  | (go_at_call 156;refine (HC.out _ _ ho1).mono ?_;rintro e w2 ⟨v2,rfl,ho2,hb2⟩;obtain ⟨ca,cc,rfl⟩:=ho2.shape))
 go_ret;refine ⟨?_,hb1.trans (hb2.mono hb1.size)⟩;have e : decide ((24 : Int) < ((zAZ pl).length : Int)) = decide (24 < (zAZ pl).length):=by
  apply decide_eq_decide.2;omega
 simp [e]
theorem index_SS (ss : List (Sl Side)) (p : Sl Side→Bool) (cl : Value) (w : World) (v : Value) {N : Nat} (hv : OwnL zBV 1 w N 62 v ss) (hl : ss.length ≤ 4294967296)
  (hp : ∀ s ∈ ss,∀ W,Below w.heap.size w W→Calls Tryz.prog 155 #[s.v,cl] W fun e W'=>e = .returned (.bool (p s))∧Below W.heap.size W W') :
  Calls Tryz.prog 188 #[v, .func (.func 155) #[] #[cl]] w fun e w'=>e = .returned (.int .i64 (idxI p ss))∧Below w.heap.size w w':=by
 have HP:=zz hp;have HV:=zz hv;obtain ⟨va,vc,rfl⟩:=hv.shape;clear hp hv;go_enter Tryz.func188,Tryz.ntmps188;go_wp2
 go_loopw [5,8] (fun _ i wr=>∃ k : Nat,k ≤ ss.length∧i = .int .i64 k∧Hid (∀ j y,j < k→ss[j]? = some y→p y = false)∧Below w.heap.size w wr) (fun _ i _=>ss.length - (intOf i).toNat)
 case atStart=>exact ⟨0,Nat.zero_le _,rfl,zz (by omega),Below.refl _ _⟩
 case round=>
  obtain ⟨k,hk,rfl,hn,hB⟩:=hrel
  by_cases hlt : k < ss.length
  ·obtain ⟨x,hx⟩ : ∃ x,ss[k]? = some x:=⟨_,List.getElem?_eq_getElem hlt⟩
   have HX:=zz hx;obtain ⟨g,cap,e,_,hg,hc⟩:=OwnL.cellOf (enc:=zBV) (sz:=1) (fun _=>rfl) HV.out hx;simp only [Value.slice.injEq] at e;obtain ⟨rfl,_,rfl⟩:=e;have q0 : wr.cell? ⟨g,k,none⟩ = some x.v:=by
    have h:=hc 0 Nat.one_pos;rw [Nat.mul_one,Nat.add_zero] at h;exact (hB.cell (p:=⟨g,k,none⟩) hg).trans (h.trans rfl)
   have HCL:=zz (HP.out x (List.mem_of_getElem? hx) wr hB);clear hx hc hg;obtain ⟨xv,hxv⟩ : ∃ v,x.v = v:=⟨_,rfl⟩
   rw [hxv] at q0;simp only [hxv] at HCL
   by_cases hpx : p x = true
   ·have HPX:=zz hpx;clear hpx
    go_wp2_with (first
     | (go_at_call 155;refine HCL.out.mono ?_;rintro e w1 ⟨rfl,hb1⟩;rw [HPX.out]))
    go_ret;exact ⟨by simp [zCg HX.out hn.out HPX.out],hB.trans (hb1.mono hB.size)⟩
   ·have HPX : Hid (p x = false):=zz (by simpa using hpx);clear hpx
    go_wp2_with (first
     | (go_at_call 155;refine HCL.out.mono ?_;rintro e w1 ⟨rfl,hb1⟩;rw [HPX.out]))
    go_roundw
    case rel=>
     refine ⟨k + 1,by omega,by go_num,zz fun j y hj hy=>?_,hB.trans (hb1.mono hB.size)⟩
     rcases Nat.lt_succ_iff_lt_or_eq.1 hj with h | rfl
     ·exact hn.out j y h hy
     ·rw [HX.out] at hy;cases hy;exact HPX.out
    case measure=>simp [intOf];omega
  ·go_wp2;go_ret;refine ⟨?_,hB⟩;rw [zCy fun j y hy=>hn.out j y (by have:=(List.getElem?_eq_some_iff.1 hy).1;omega) hy]
   rfl
theorem contains_SS (ss : List (Sl Side)) (p : Sl Side→Bool) (cl : Value) (w : World) (v : Value) {N : Nat} (hv : OwnL zBV 1 w N 62 v ss) (hl : ss.length ≤ 4294967296)
  (hp : ∀ s ∈ ss,∀ W,Below w.heap.size w W→Calls Tryz.prog 155 #[s.v,cl] W fun e W'=>e = .returned (.bool (p s))∧Below W.heap.size W W') :
  Calls Tryz.prog 154 #[v, .func (.func 155) #[] #[cl]] w fun e w'=>e = .returned (.bool (ss.any p))∧Below w.heap.size w w':=by
 have H:=zz (index_SS ss p cl w v hv hl hp);clear hp hv;go_enter Tryz.func154,Tryz.ntmps154
 go_wp2_with (go_at_call 188;refine H.out.mono ?_;rintro e w1 ⟨rfl,hb1⟩)
 go_ret;exact ⟨by simp [idxI_ge p ss],hb1⟩
theorem zD6 {js : List Joint} {ls : List Lead} (V : ValidW js ls) {l : List Side} (h : l ∈ zBv js ls) : l ≠ []∧l.length ≤ 800∧∀ x ∈ l,I64 x.lead:=by
 obtain ⟨s,hs,rfl⟩:=V.walks_inv.1 l h;refine ⟨List.ne_nil_of_mem (self_mem hs),zDC V hs,fun x hx=>?_⟩;obtain ⟨y,hy,e⟩:=(V.walk_next hs hx).1;rw [← e];exact (V.leadI hy).1
def OwnSB (W : World) (N M : Nat) (v : Value) (L : List (List Side)) : Prop:=∃ ss : List (Sl Side),OwnL zBV 1 W M 62 v ss∧(∀ s ∈ ss,OwnL zAa 2 W N 59 s.v s.val)∧ss.map Sl.val = L
theorem OwnSB.ss {W : World} {N M : Nat} {v : Value} {L : List (List Side)} (h : OwnSB W N M v L) (hNM : N ≤ M) : zAW W N v L:=by
 obtain ⟨ss,a,b,c⟩:=h;exact ⟨ss,a.base_le hNM,b,c⟩
theorem OwnSB.belowAll {W W' : World} {N M : Nat} {v : Value} {L : List (List Side)} (h : OwnSB W N M v L) (hb : Below W.heap.size W W') : OwnSB W' N M v L:=by
 obtain ⟨ss,a,b,c⟩:=h;exact ⟨ss,a.belowAll hb,fun s hs=>(b s hs).belowAll hb,c⟩
theorem OwnSB.append {W W' : World} {N M : Nat} {v v' : Value} {ss : List (Sl Side)} {t : Sl Side} (h1 : OwnL zBV 1 W M 62 v ss) (h2 : ∀ s ∈ ss,OwnL zAa 2 W N 59 s.v s.val) (ht : OwnL zAa 2 W N 59 t.v t.val) (h' : OwnL zBV 1 W' M 62 v' (ss ++ [t])) (hg : W.grownBy W' v.ownBlock) :
  OwnSB W' N M v' (ss.map Sl.val ++ [t.val]):=by
 have key : ∀ s : Sl Side,OwnL zAa 2 W N 59 s.v s.val→OwnL zAa 2 W' N 59 s.v s.val:=fun s hs=>hs.kept fun g hgs=>by
  obtain ⟨a,cur,b⟩:=hs.cellsAt hgs;refine hg.block g (Array.getElem?_eq_some_iff.1 b).1 fun e=>?_;obtain ⟨_,cur2,b2⟩:=h1.cellsAt e.symm;rw [b] at b2;cases b2
 refine ⟨ss ++ [t],h',fun s hs=>?_,by simp⟩
 rcases List.mem_append.1 hs with hs | hs
 ·exact key s (h2 s hs)
 ·obtain rfl : s = t:=by simpa using hs
  exact key s ht
def zBu (js : List Joint) (ls : List Lead) : List (List Side):=(zBv js ls).filter fun l=>decide (0 < zBd js ls l)
def longA (js : List Joint) (ls : List Lead) (l : List Side) : Bool:=decide (24 < (zAZ (zAI js ls l)).length)
def zDX (js : List Joint) (ls : List Lead) : Bool:=js.any fun j=>decide ((outA js ls j.id).length = 0)
def zBW (js : List Joint) (ls : List Lead) : Int:=
 if zDX js ls = true then 23 else if 0 < (zCC js ls).length then 23 else if 0 < (zCD js ls).length then 23
 else if zB0 js ls (zBu js ls) = true then 24 else if (zBu js ls).any (longA js ls) = true then 2 else if 64 < (zBu js ls).length then 2 else 0
def zDd (js : List Joint) (ls : List Lead) : List (List Side):=if zBW js ls = 0 then zBu js ls else []
theorem soundE_apart {js : List Joint} {ls : List Lead} (h : zDX js ls = true) : zBW js ls = 23:=by unfold zBW;rw [if_pos h]
theorem soundE_br {js : List Joint} {ls : List Lead} (h : zDX js ls = false) (h1 : 0 < (zCC js ls).length ∨ 0 < (zCD js ls).length) : zBW js ls = 23:=by
 unfold zBW;rw [if_neg (by rw [h];decide)]
 rcases h1 with h1 | h1
 ·rw [if_pos h1]
 ·split
  ·rfl
  ·first | rfl | rw [if_pos h1]
theorem soundE_rest {js : List Joint} {ls : List Lead} (h : zDX js ls = false) (h1 : ¬ 0 < (zCC js ls).length) (h2 : ¬ 0 < (zCD js ls).length) :
  zBW js ls = if zB0 js ls (zBu js ls) = true then 24 else if (zBu js ls).any (longA js ls) = true then 2 else if 64 < (zBu js ls).length then 2 else 0:=by
 unfold zBW;rw [if_neg (by rw [h];decide),if_neg h1,if_neg h2]
theorem sound_any {b : Nat} {sj : Sl Joint} {sl : Sl Lead} (V : ValidW sj.val sl.val) (w : World) (hN : zA5 w b sj sl) (hj : sj.OK 3 zAh zAs (fun _=>False) w) (hl : sl.OK 8 zAd zAA (fun _=>False) w) :
  Calls Tryz.prog 87 #[.pointer (some ⟨b,0,none⟩)] w fun e w'=>∃ v,e = .returned (.tuple #[v, .int .i64 (zBW sj.val sl.val)])∧zAW w' w.heap.size v (zDd sj.val sl.val)∧Below w.heap.size w w':=by
 have HV:=zz V;have HJ:=zz hj;have HL:=zz hl;have HN:=zz hN;have hroom:=hj.room;have hB1 : Below w.heap.size w (w.alloc (.cells #[.pointer (some ⟨b,0,none⟩)] 109)):=(Below.refl _ _).alloc (Nat.le_refl _) _;have hbx : zAe (w.alloc (.cells #[.pointer (some ⟨b,0,none⟩)] 109)) w.heap.size 109 #[.pointer (some ⟨b,0,none⟩)]:=zAe.new _ _ _;have HB1:=zz hB1;have HX1:=zz hbx;have q0:=(hN.below hB1).joints;clear hN hj V hl hB1 hbx;obtain ⟨aj,capj,js⟩:=sj;simp only at hroom q0;go_enter Tryz.func87,Tryz.ntmps87;go_wp2;obtain ⟨W1,hW1⟩ : ∃ W,w.alloc (.cells #[.pointer (some ⟨b,0,none⟩)] 109) = W:=⟨_,rfl⟩
 simp only [hW1] at HB1 HX1 ⊢;clear hW1 q0
 go_loopw [16] (fun i wr=>∃ k : Nat,k ≤ js.length∧i = .int .i64 k∧Hid (∀ (i : Nat) x,i < k→js[i]? = some x→(outA js sl.val x.id).length ≠ 0)∧Hid (Below W1.heap.size W1 wr)) (fun i _=>js.length - (intOf i).toNat)
 case atStart=>exact ⟨0,Nat.zero_le _,rfl,zz (by omega),zz (Below.refl _ _)⟩
 case round=>
  obtain ⟨k,hk,rfl,HK,HB⟩:=hrel
  by_cases hlt : k < js.length
  ·obtain ⟨x,hx⟩ : ∃ x,js[k]? = some x:=⟨_,List.getElem?_eq_getElem hlt⟩
   obtain ⟨bb,o,rfl,hbb,_,hok,hcell⟩:=HJ.out.at hx;have HBW : Hid (Below w.heap.size w wr):=zz (HB1.out.trans (HB.out.mono HB1.out.size));have HC : Hid (∀ j,j < (zAh x).size→wr.cell? ⟨bb,o + k * 3 + j,none⟩ = (zAh x)[j]?):=zz fun j hj=>by
    rw [(Ext.of_below (D:=fun _=>False) HBW.out).cell hbb id];exact hcell j hj
   have HXI : Hid (I64 x.id):=zz hok.1;have hjb : zAe (wr.alloc (.cells (zAh x) 29)) wr.heap.size 29 (zAh x):=zAe.new _ _ _;have hB2 : Below W1.heap.size W1 (wr.alloc (.cells (zAh x) 29)):=HB.out.alloc HB.out.size _;have HB2:=zz hB2;have hB2w : Below w.heap.size w (wr.alloc (.cells (zAh x) 29)):=HB1.out.trans (hB2.mono HB1.out.size);have HBX : Hid (zAe (wr.alloc (.cells (zAh x) 29)).drew w.heap.size 109 #[.pointer (some ⟨b,0,none⟩)]):=zz (HX1.out.belowAll hB2).drew;obtain ⟨bo,mo,ta,tc,hbo,hbl,hmo,hmt⟩:=(HN.out.below hB2w).outs x.id;have HBO : Hid ((wr.alloc (.cells (zAh x) 29)).drew.cell? ⟨b,4,none⟩ = some (.map (some bo))∧b < (wr.alloc (.cells (zAh x) 29)).drew.heap.size∧MapAt vi id I64 (wr.alloc (.cells (zAh x) 29)).drew bo mo):=zz ⟨hbo,hbl,hmo.of_block rfl⟩;have HMT:=zz hmt;have HJB : Hid (zAe (wr.alloc (.cells (zAh x) 29)).drew wr.heap.size 29 (zAh x)):=zz hjb.drew;obtain ⟨jb,hjbn⟩ : ∃ z,wr.heap.size = z:=⟨_,rfl⟩
   rw [hjbn] at HJB;have HJN:=zz hjbn;obtain ⟨no,hno⟩ : ∃ n,(outA js sl.val x.id).length = n:=⟨_,rfl⟩
   have HNO:=zz hno;simp only [hno] at HMT;have HXK:=zz hx;clear hx hok hcell hbb hB2 hB2w hbo hbl hmo hmt hjbn hno hjb;have ho0 : (no : Int) = 0 ↔ no = 0:=by omega
   by_cases hn0 : no = 0
   ·have hn1 : ((no : Int) == 0) = true:=by simp [hn0]
    have HN0:=zz hn0;clear hn0 ho0
    go_wp2_with (first | ((with_reducible refine zAm 19 ?_);refine zLe 19 bb (o + k * 3) (zAh x) HC.out zuG ?_) | ((with_reducible refine zAv 29 ?_);refine zAk (cs:=zAh x) rfl 29 _ _ rfl rfl rfl rfl (by kernel_rfl) rfl (zBj _) ?_))
    simp only [HJN.out];refine rgO [(0,true),(1,true),(2,true),(3,true),(4,true),(5,true),(6,true),(7,true),(8,true)] ?_;refine zAf (v:=.pointer (some ⟨b,0,none⟩)) rfl rfl (fun W hW=>by have e : W.cell? ⟨w.heap.size,0,none⟩ = some (.pointer (some ⟨b,0,none⟩)):=((HBX.out.belowAll hW).cell 0).trans rfl;go_simp) ?_;simp only [pT];iterate 2 (refine wB rfl ?_;simp only [pT])
    refine zAf (v:=.map (some bo)) rfl rfl (fun W hW=>by have e : W.cell? ⟨b,4,none⟩ = some (.map (some bo)):=(hW.cell (p:=⟨b,4,none⟩) HBO.out.2.1).trans HBO.out.1;go_simp) ?_;simp only [pT];refine wB rfl ?_;simp only [pT];refine zAf (v:=.int .i64 x.id) rfl rfl (fun W hW=>by have e : W.cell? ⟨jb,0,none⟩ = some (.int .i64 x.id):=((HJB.out.belowAll hW).cell 0).trans rfl;go_simp) ?_;simp only [pT];refine zAf (v:=.slice ta no tc) rfl rfl (fun W hW=>Eq.trans (zA6 zAQ zuH nilS (zDU _) rfl (HBO.out.2.2.below hW HBO.out.2.2.lt) x.id HXI.out rfl) (by rw [HMT.out];rfl)) ?_;simp only [pT];iterate 2 (refine wB rfl ?_;simp only [pT])
    simp only [wpB];go_wp2;go_ret2;have ha : zDX js sl.val = true:=by
     unfold zDX;rw [List.any_eq_true];exact ⟨x,List.mem_of_getElem? HXK.out,by rw [HNO.out];simp [HN0.out]⟩
    have he:=soundE_apart ha;refine ⟨.slice none 0 0,by rw [he];rfl, ?_,HB1.out.trans ((HB2.out.trans ((Lays.refl _).drew.below (Nat.le_refl _) |>.mono HB2.out.size)).mono HB1.out.size)⟩;unfold zDd;rw [he];exact zAW.nil _ _
   ·have hn1 : ((no : Int) == 0) = false:=by simp;omega
    have HN0:=zz hn0;clear hn0 ho0
    go_wp2_with (first | ((with_reducible refine zAm 19 ?_);refine zLe 19 bb (o + k * 3) (zAh x) HC.out zuG ?_) | ((with_reducible refine zAv 29 ?_);refine zAk (cs:=zAh x) rfl 29 _ _ rfl rfl rfl rfl (by kernel_rfl) rfl (zBj _) ?_))
    simp only [HJN.out];refine rgO [(0,true),(1,true),(2,true),(3,true),(4,true),(5,true),(6,true),(7,true),(8,true)] ?_;refine zAf (v:=.pointer (some ⟨b,0,none⟩)) rfl rfl (fun W hW=>by have e : W.cell? ⟨w.heap.size,0,none⟩ = some (.pointer (some ⟨b,0,none⟩)):=((HBX.out.belowAll hW).cell 0).trans rfl;go_simp) ?_;simp only [pT];iterate 2 (refine wB rfl ?_;simp only [pT])
    refine zAf (v:=.map (some bo)) rfl rfl (fun W hW=>by have e : W.cell? ⟨b,4,none⟩ = some (.map (some bo)):=(hW.cell (p:=⟨b,4,none⟩) HBO.out.2.1).trans HBO.out.1;go_simp) ?_;simp only [pT];refine wB rfl ?_;simp only [pT];refine zAf (v:=.int .i64 x.id) rfl rfl (fun W hW=>by have e : W.cell? ⟨jb,0,none⟩ = some (.int .i64 x.id):=((HJB.out.belowAll hW).cell 0).trans rfl;go_simp) ?_;simp only [pT];refine zAf (v:=.slice ta no tc) rfl rfl (fun W hW=>Eq.trans (zA6 zAQ zuH nilS (zDU _) rfl (HBO.out.2.2.below hW HBO.out.2.2.lt) x.id HXI.out rfl) (by rw [HMT.out];rfl)) ?_;simp only [pT];iterate 2 (refine wB rfl ?_;simp only [pT])
    simp only [wpB];go_wp2;go_roundw
    case rel=>
     refine ⟨k + 1,by omega,by go_num,zz fun i y hi hy=>?_,zz (HB2.out.trans ((Lays.refl _).drew.below (Nat.le_refl _) |>.mono HB2.out.size))⟩
     rcases Nat.lt_succ_iff_lt_or_eq.1 hi with h | rfl
     ·exact HK.out i y h hy
     ·rw [HXK.out] at hy;cases hy;rw [HNO.out];exact HN0.out
    case measure=>simp [intOf];omega
  ·have hkv : k = js.length:=by omega
   subst hkv;have HA : Hid (zDX js sl.val = false):=zz (by
    unfold zDX;rw [List.any_eq_false];intro x hx;obtain ⟨n,hn⟩:=List.mem_iff_getElem?.1 hx;simpa using HK.out n x (List.getElem?_eq_some_iff.1 hn).1 hn)
   have HBW : Hid (Below w.heap.size w wr):=zz (HB1.out.trans (HB.out.mono HB1.out.size));have q1:=((HX1.out.belowAll HB.out).cell 0).trans (show _ = some (.pointer (some ⟨b,0,none⟩)) from rfl);obtain ⟨nb,hnb⟩ : ∃ n,(zCC js sl.val).length = n:=⟨_,rfl⟩
   obtain ⟨np,hnp⟩ : ∃ n,(zCD js sl.val).length = n:=⟨_,rfl⟩
   have HNB:=zz hnb;have HNP:=zz hnp;have HCB : Hid (Calls Tryz.prog 92 #[.pointer (some ⟨b,0,none⟩)] wr fun e w'=>∃ a c,e = .returned (.slice a nb c)∧Below wr.heap.size wr w'):=zz ((bridges_any HV.out wr (HN.out.below HBW.out) (HJ.out.jmoved HBW.out) (HL.out.lmoved HBW.out)).mono (by
    rintro e w' ⟨v,rfl,ho,hb⟩;obtain ⟨a,c,rfl⟩:=ho.shape;exact ⟨a,c,by rw [← hnb],hb⟩))
   have HCP : Hid (∀ W,Below wr.heap.size wr W→Calls Tryz.prog 94 #[.pointer (some ⟨b,0,none⟩)] W fun e w'=>∃ a c,e = .returned (.slice a np c)∧Below W.heap.size W w'):=zz fun W hW=>by
    have hW2:=HBW.out.trans (hW.mono HBW.out.size);refine (pinches_any HV.out W (HN.out.below hW2) (HJ.out.jmoved hW2)).mono ?_;rintro e w' ⟨v,rfl,ho,hb⟩;obtain ⟨a,c,rfl⟩:=ho.shape;exact ⟨a,c,by rw [← hnp],hb⟩
   clear hnb hnp HK
   by_cases h1 : 0 < nb
   ·have he:=soundE_br HA.out (.inl (by rw [HNB.out];exact h1));have HE:=zz he;clear he
    go_wp2_with (first
     | (go_at_call 92;refine HCB.out.mono ?_;rintro e w2 ⟨a2,c2,rfl,hb2⟩))
    go_ret2;refine ⟨.slice none 0 0,by rw [HE.out];rfl, ?_,HBW.out.trans (hb2.mono HBW.out.size)⟩;unfold zDd;rw [HE.out];exact zAW.nil _ _
   ·have h1z : nb = 0:=by omega
    subst h1z
    by_cases h2 : 0 < np
    ·have he:=soundE_br HA.out (.inr (by rw [HNP.out];exact h2));have HE:=zz he;clear he h1
     go_wp2_with (first
      | (go_at_call 92;refine HCB.out.mono ?_;rintro e w2 ⟨a2,c2,rfl,hb2⟩;have q2:=((HX1.out.belowAll (HB.out.trans (hb2.mono HB.out.size))).cell 0).trans (show _ = some (.pointer (some ⟨b,0,none⟩)) from rfl))
      | (go_at_call 94;refine (HCP.out w2 hb2).mono ?_;rintro e w3 ⟨a3,c3,rfl,hb3⟩))
     go_ret2;refine ⟨.slice none 0 0,by rw [HE.out];rfl, ?_,HBW.out.trans ((hb2.trans (hb3.mono hb2.size)).mono HBW.out.size)⟩;unfold zDd;rw [HE.out];exact zAW.nil _ _
    ·have h2z : np = 0:=by omega
     subst h2z;have HE:=zz (soundE_rest HA.out (by rw [HNB.out];exact h1) (by rw [HNP.out];exact h2));obtain ⟨L,hLw⟩ : ∃ L,zBv js sl.val = L:=⟨_,rfl⟩
     have HLG : Hid (∀ l ∈ L,l ≠ []∧l.length ≤ 800∧∀ x ∈ l,I64 x.lead):=zz (by rw [← hLw];exact fun l hl=>zD6 HV.out hl);have HL8 : Hid (L.length ≤ 800):=zz (by rw [← hLw];exact zDJ HV.out);have HLW:=zz hLw;have HCW : Hid (∀ W,Below w.heap.size w W→Calls Tryz.prog 96 #[.pointer (some ⟨b,0,none⟩)] W fun e w'=>∃ v,e = .returned v∧zAW w' (W.heap.size + 1) v L∧Below W.heap.size W w'):=zz fun W hW=>by
      have h:=walks_any (sj:=⟨aj,capj,js⟩) HV.out W (HN.out.below hW) (HL.out.lmoved hW);simp only [hLw] at h;exact h
     clear h1 h2 hLw
     go_wp2_with (first
      | (go_at_call 92;refine HCB.out.mono ?_;rintro e w2 ⟨a2,c2,rfl,hb2⟩;have hx2:=HB.out.trans (hb2.mono HB.out.size);have q2:=((HX1.out.belowAll hx2).cell 0).trans (show _ = some (.pointer (some ⟨b,0,none⟩)) from rfl))
      | (go_at_call 94;refine (HCP.out w2 hb2).mono ?_;rintro e w3 ⟨a3,c3,rfl,hb3⟩;have hx3:=hx2.trans (hb3.mono hx2.size);have q3:=((HX1.out.belowAll hx3).cell 0).trans (show _ = some (.pointer (some ⟨b,0,none⟩)) from rfl);have hw3:=HB1.out.trans (hx3.mono HB1.out.size))
      | (go_at_call 96;refine (HCW.out w3 hw3).mono ?_;rintro e w4 ⟨wv,rfl,hwo,hb4⟩;obtain ⟨wa,wc4,rfl⟩:=hwo.shape))
     have HX4 : Hid (Below W1.heap.size W1 w4):=zz (hx3.trans (hb4.mono hx3.size));have HW4 : Hid (Below w.heap.size w w4):=zz (HB1.out.trans (HX4.out.mono HB1.out.size));have HWO : Hid (zAW w4 w.heap.size (.slice wa L.length wc4) L):=zz (by
      obtain ⟨ss,a1,a2,a3⟩:=hwo;have hle : w.heap.size ≤ w3.heap.size + 1:=Nat.le_succ_of_le hw3.size;exact ⟨ss,a1.base_le hle,fun s hs=>(a2 s hs).base_le hle,a3⟩)
     clear q1 q2 q3 hb2 hb3 hb4 hx2 hx3 hw3 hwo;have hl8:=HL8.out
     go_loopw [6,43] (fun v i wr=>∃ k : Nat,k ≤ L.length∧i = .int .i64 k∧Hid (OwnSB wr w.heap.size w4.heap.size v ((L.take k).filter fun l=>decide (0 < zBd js sl.val l)))∧Hid (Below w4.heap.size w4 wr)) (fun _ i _=>L.length - (intOf i).toNat)
     case atStart=>exact ⟨0,Nat.zero_le _,rfl,zz ⟨[],OwnL.nil _ _ _ _ _,by simp,rfl⟩,zz (Below.refl _ _)⟩
     case round=>
      obtain ⟨k,hk,rfl,HO,HR⟩:=hrel
      by_cases hlt : k < L.length
      ·obtain ⟨l,hl⟩ : ∃ l,L[k]? = some l:=⟨_,List.getElem?_eq_getElem hlt⟩
       have HBR : Hid (Below w.heap.size w wr):=zz (HW4.out.trans (HR.out.mono HW4.out.size));obtain ⟨g,cap,s,e,_,hgl,hgc,hsv,hso⟩:=(HWO.out.belowAll HR.out).place hl;simp only [Value.slice.injEq] at e;obtain ⟨rfl,_,rfl⟩:=e;obtain ⟨hne,hl8b,hlI⟩:=HLG.out l (List.mem_of_getElem? hl);obtain ⟨sa,sc,sv⟩:=s;simp only at hsv hgc hso;subst hsv;have HSO:=zz hso;have HSL:=zz hl8b;have HLI:=zz hlI;obtain ⟨ar,har⟩ : ∃ z,zBd js sl.val sv = z:=⟨_,rfl⟩
       have HAR : Hid (Calls Tryz.prog 108 #[.pointer (some ⟨b,0,none⟩), .slice sa sv.length sc] wr fun e w'=>e = .returned (.int .i64 ar)∧Below wr.heap.size wr w'):=zz (by
        obtain ⟨t,ht,hts,htok,_⟩:=OwnL.sl (enc:=zAa) (sz:=2) hso (fun _=>rfl) (fun _ _ _=>True) (fun _=>False) (fun _ _=>trivial) (fun _ _ h=>h) (by omega);have h:=area_any (sj:=⟨aj,capj,js⟩) HV.out t (fun x hx=>hlI x (hts ▸ hx)) wr (HN.out.below HBR.out) htok;rw [hts] at h;simp only [har] at h;have e : Value.slice sa sv.length sc = .slice t.a sv.length t.cap:=by rw [ht,← hts];rfl
        rw [e];exact h)
       obtain ⟨acc,hacc⟩ : ∃ z,(L.take k).filter (fun l=>decide (0 < zBd js sl.val l)) = z:=⟨_,rfl⟩
       have HFL : Hid ((L.take (k + 1)).filter (fun l=>decide (0 < zBd js sl.val l)) = acc ++ if decide (0 < ar) then [sv] else []):=zz (by
        rw [zB5 hl,hacc,har])
       rw [hacc] at HO;have HAL : Hid (acc.length ≤ 800):=zz (by
        rw [← hacc];have h1:=List.length_filter_le (fun l=>decide (0 < zBd js sl.val l)) (L.take k);rw [List.length_take] at h1;omega)
       have q1:=((HX1.out.belowAll (HX4.out.trans (HR.out.mono HX4.out.size))).cell 0).trans (show _ = some (.pointer (some ⟨b,0,none⟩)) from rfl);clear hl hgl hne hlI hso har hacc hl8b
       by_cases hp : 0 < ar
       ·have HP:=zz hp;obtain ⟨ss,s1,s2,s3⟩:=HO.out;have S1:=zz s1;have S2:=zz s2;have S3:=zz s3;have HLS : Hid (ss.length + 1 ≤ 4294967296):=zz (by
         have h:=congrArg List.length s3;rw [List.length_map] at h;have:=HAL.out;omega)
        clear s1 s2 s3
        go_wp2_with (first
         | (go_at_call 108;refine HAR.out.mono ?_;rintro e w5 ⟨rfl,hb5⟩;have HB5:=zz hb5;have HZ5:=zz (HBR.out.trans (hb5.mono HBR.out.size));clear hb5)
         | ((with_reducible refine zAm 54 ?_);refine zAU rfl _ _ 67 rfl w4.heap.size zE0 (fun _=>rfl) (by decide) zEt (by decide) u6 ss rfl ((S1.out.belowAll HB5.out).belowAll ((Below.refl _ _).alloc (Nat.le_refl _) _)) w5.heap.size 0 1 ⟨sa,sc,sv⟩ rfl (fun j hj=>by rw [Nat.zero_add];exact (zAe.new w5 62 #[.slice sa sv.length sc]).cell j) HLS.out (Nat.le_trans HR.out.size (Nat.le_trans HB5.out.size (by simp))) ?_;intro v6 w6 ho6 hg6 hv6))
        go_roundw
        case rel=>
         have hBn : Below wr.heap.size wr (w5.alloc (.cells #[.slice sa sv.length sc] 62)):=HB5.out.trans ((Below.refl w5.heap.size w5).alloc (Nat.le_refl _) _ |>.mono HB5.out.size);have hSS:=OwnSB.append (t:=⟨sa,sc,sv⟩) (S1.out.belowAll hBn) (fun s hs=>(S2.out s hs).belowAll hBn) (HSO.out.belowAll hBn) ho6 hg6;rw [S3.out] at hSS;refine ⟨k + 1,by omega,by go_num,zz (by rw [HFL.out,decide_eq_true HP.out];exact hSS),zz ?_⟩;exact (HR.out.trans (hBn.mono HR.out.size)).grown hg6 (Nat.le_trans HR.out.size hBn.size) fun g e=>((S1.out.belowAll hBn).block g e).1
        case measure=>simp [intOf];omega
       ·have HP:=zz hp
        go_wp2_with (first
         | (go_at_call 108;refine HAR.out.mono ?_;rintro e w5 ⟨rfl,hb5⟩;have HB5:=zz hb5;clear hb5))
        go_roundw
        case rel=>exact ⟨k + 1,by omega,by go_num,zz (by rw [HFL.out,decide_eq_false (p:=0 < ar) (by have:=HP.out;omega)];simpa using HO.out.belowAll HB5.out),zz (HR.out.trans (HB5.out.mono HR.out.size))⟩
        case measure=>simp [intOf];omega
      ·have hkv : k = L.length:=by omega
       subst hkv;rw [List.take_length] at HO;have HBE : Hid (zBu js sl.val = L.filter fun l=>decide (0 < zBd js sl.val l)):=zz (by unfold zBu;rw [HLW.out]);obtain ⟨B,hB⟩ : ∃ z,L.filter (fun l=>decide (0 < zBd js sl.val l)) = z:=⟨_,rfl⟩
       rw [hB] at HO HBE;have HBL : Hid (B.length ≤ 800):=zz (by rw [← hB];exact Nat.le_trans (List.length_filter_le _ _) HL8.out);have HBG : Hid (∀ l ∈ B,l ≠ []∧l.length ≤ 800∧∀ x ∈ l,I64 x.lead):=zz fun l hl=>HLG.out l (by rw [← hB] at hl;exact (List.mem_filter.1 hl).1);rw [HBE.out] at HE;have HBR : Hid (Below w.heap.size w wr):=zz (HW4.out.trans (HR.out.mono HW4.out.size));have hOS:=HO.out.ss HW4.out.size;have HOS:=zz hOS;obtain ⟨va,vc,rfl⟩:=hOS.shape;have hx5:=HX4.out.trans (HR.out.mono HX4.out.size);have HBX:=zz (HX1.out.belowAll hx5);have q1:=(HBX.out.cell 0).trans (show _ = some (.pointer (some ⟨b,0,none⟩)) from rfl);obtain ⟨ne,hne⟩ : ∃ z,zB0 js sl.val B = z:=⟨_,rfl⟩
       have HCN : Hid (Calls Tryz.prog 153 #[.pointer (some ⟨b,0,none⟩), .slice va B.length vc] wr fun e w'=>e = .returned (.bool ne)∧Below wr.heap.size wr w'):=zz (by
        have h:=nested_any (sj:=⟨aj,capj,js⟩) HV.out B HBL.out HBG.out _ _ wr (HN.out.below HBR.out) (HJ.out.jmoved HBR.out) hOS;simp only [hne] at h;exact h)
       rw [hne] at HE;obtain ⟨lo,hlo⟩ : ∃ z,B.any (longA js sl.val) = z:=⟨_,rfl⟩
       have HCC : Hid (∀ W,Below wr.heap.size wr W→Calls Tryz.prog 154 #[.slice va B.length vc, .func (.func 155) #[] #[.pointer (some ⟨w.heap.size,0,none⟩)]] W fun e w'=>e = .returned (.bool lo)∧Below W.heap.size W w'):=zz fun W hW=>by
        obtain ⟨ss,a1,a2,a3⟩:=hOS.belowAll hW;have hlen : ss.length ≤ 800:=by have h:=congrArg List.length a3;rw [List.length_map] at h;rw [h];exact HBL.out
        have h:=contains_SS ss (fun s=>longA js sl.val s.val) (.pointer (some ⟨w.heap.size,0,none⟩)) W _ a1 (by omega) (fun s hs W2 hW2=>by
         have hg:=HBG.out s.val (by rw [← a3];exact List.mem_map.2 ⟨s,hs,rfl⟩);have hW3:=hW.trans (hW2.mono hW.size);exact sound1_any (sj:=⟨aj,capj,js⟩) HV.out s hg.2.2 hg.2.1 W2 (HN.out.below (HBR.out.trans (hW3.mono HBR.out.size))) ((a2 s hs).belowAll hW2) (HBX.out.belowAll hW3))
        have e : (ss.any fun s=>longA js sl.val s.val) = lo:=by rw [← hlo,← a3,List.any_map];rfl
        simp only [e] at h;exact h
       rw [hlo] at HE;clear hB hOS hne hlo hx5
       cases ne
       case true=>
        have he : zBW js sl.val = 24:=by rw [HE.out,if_pos rfl]
        have HEE:=zz he;clear he
        go_wp2_with (first
         | (go_at_call 153;refine HCN.out.mono ?_;rintro e w5 ⟨rfl,hb5⟩))
        go_ret2;refine ⟨.slice none 0 0,by rw [HEE.out];rfl, ?_,HBR.out.trans (hb5.mono HBR.out.size)⟩;unfold zDd;rw [HEE.out];exact zAW.nil _ _
       case false=>
        cases lo
        case true=>
         have he : zBW js sl.val = 2:=by rw [HE.out,if_neg (by decide),if_pos rfl]
         have HEE:=zz he;clear he
         go_wp2_with (first
          | (go_at_call 153;refine HCN.out.mono ?_;rintro e w5 ⟨rfl,hb5⟩)
          | (go_at_call 154;refine (HCC.out _ hb5).mono ?_;rintro e w6 ⟨rfl,hb6⟩))
         go_ret2;refine ⟨.slice none 0 0,by rw [HEE.out];rfl, ?_,HBR.out.trans ((hb5.trans (hb6.mono hb5.size)).mono HBR.out.size)⟩;unfold zDd;rw [HEE.out];exact zAW.nil _ _
        case false=>
         by_cases h64 : 64 < B.length
         ·have he : zBW js sl.val = 2:=by rw [HE.out,if_neg (by decide),if_neg (by decide),if_pos h64]
          have HEE:=zz he;have h64i : (64 : Int) < (B.length : Int):=by omega
          clear he
          go_wp2_with (first
           | (go_at_call 153;refine HCN.out.mono ?_;rintro e w5 ⟨rfl,hb5⟩)
           | (go_at_call 154;refine (HCC.out _ hb5).mono ?_;rintro e w6 ⟨rfl,hb6⟩))
          go_ret2;refine ⟨.slice none 0 0,by rw [HEE.out];rfl, ?_,HBR.out.trans ((hb5.trans (hb6.mono hb5.size)).mono HBR.out.size)⟩;unfold zDd;rw [HEE.out];exact zAW.nil _ _
         ·have he : zBW js sl.val = 0:=by rw [HE.out,if_neg (by decide),if_neg (by decide),if_neg h64]
          have HEE:=zz he;have h64i : ¬ (64 : Int) < (B.length : Int):=by omega
          clear he
          go_wp2_with (first
           | (go_at_call 153;refine HCN.out.mono ?_;rintro e w5 ⟨rfl,hb5⟩)
           | (go_at_call 154;refine (HCC.out _ hb5).mono ?_;rintro e w6 ⟨rfl,hb6⟩))
          go_ret2;refine ⟨.slice va B.length vc,by rw [HEE.out];rfl, ?_,HBR.out.trans ((hb5.trans (hb6.mono hb5.size)).mono HBR.out.size)⟩;unfold zDd;rw [HEE.out,if_pos rfl,HBE.out];exact HOS.out.belowAll (hb5.trans (hb6.mono hb5.size))
end Go.Proofs.YtbbblemfodpmaaaGreat
end
