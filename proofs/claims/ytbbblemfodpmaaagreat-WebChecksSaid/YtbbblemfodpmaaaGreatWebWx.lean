/-The reference's different.-/
import Derived.Test.YtbbblemfodpmaaaGreatWebPx
import Derived.Test.YtbbblemfodpmaaaGreatWebHb
import Derived.Test.YtbbblemfodpmaaaGreatWebGd
set_option linter.unusedVariables false
set_option linter.unusedSimpArgs false
set_option maxHeartbeats 16000000
set_option maxRecDepth 100000
section
namespace Go.Proofs.YtbbblemfodpmaaaGreat
open Go.RowKit
def dN (L : List Int) (k : Nat) : Nat:=((List.range k).filter fun r : Nat=>L[r]? == some (r : Int)).length
theorem dN_succ (L : List Int) (k : Nat) : dN L (k + 1) = dN L k + if (L[k]? == some (k : Int)) = true then 1 else 0:=by
 unfold dN;rw [List.range_succ,List.filter_append,List.length_append];congr 1;simp only [List.filter_cons,List.filter_nil]
 split <;> rfl
theorem dN_le (L : List Int) (k : Nat) : dN L k ≤ k:=by
 unfold dN;exact Nat.le_trans (List.length_filter_le _ _) (by simp)
theorem rdiff_det (a : Option Addr) (c : Nat) (L : List Int) (w : World) (hS : Sl.OK 1 zAC (fun _ _ _=>True) (fun _=>False) w ⟨a,c,L⟩) (hlen : L.length ≤ 800) :
  Det 99 #[.slice a L.length c] (.int .i64 (zDG L : Nat)) w:=fun w0 hw0=>by
 have HSL:=zz (hS.up hw0);have HB0 : Hid (Below w0.heap.size w0 w0):=zz (Below.refl _ _);clear hS hw0 w;obtain ⟨w,rfl⟩ : ∃ w,w = w0:=⟨_,rfl⟩
 obtain ⟨n,hn⟩ : ∃ n,L.length = n:=⟨_,rfl⟩
 have HN:=zz hn;have HR : Hid (zDG L = dN L n):=zz (by unfold zDG dN;rw [hn]);simp only [hn] at hlen ⊢;clear hn;rw [HR.out];obtain ⟨f,hf⟩ : ∃ f,f = dN L:=⟨_,rfl⟩
 have HF : Hid (∀ k,f k = dN L k):=zz fun k=>by rw [hf]
 have HLE : Hid (∀ k,f k ≤ k):=zz fun k=>by rw [hf];exact dN_le L k
 rw [← hf];clear hf;go_enter Tryz.func99,Tryz.ntmps99;go_wp2
 go_loopw [3,4] (fun v i wr=>∃ k : Nat,k ≤ n∧i = .int .i64 k∧v = .int .i64 ((f k : Nat) : Int)∧Hid (Below w.heap.size w wr)) (fun _ i _=>n - (intOf i).toNat)
 case atStart=>exact ⟨0,Nat.zero_le _,rfl,by rw [HF.out];rfl,HB0⟩
 case round=>
  obtain ⟨k,hk,rfl,rfl,HWR⟩:=hrel
  by_cases hlt : k < n
  ·obtain ⟨x,hx⟩ : ∃ y,L[k]? = some y:=⟨_,List.getElem?_eq_getElem (by rw [HN.out];exact hlt)⟩
   obtain ⟨bb,o,e,hc⟩:=HSL.out.elemAt (fun _=>rfl) hx;simp only at e;subst e;have HC : Hid (∀ W,Below wr.heap.size wr W→W.cell? ⟨bb,o + k,none⟩ = some (.int .i64 x)):=zz fun W hW=>by
    have:=hc W (HWR.out.trans (hW.mono HWR.out.size)) 0 (by show 0 < 1;decide);rw [Nat.mul_one,Nat.add_zero] at this;exact this
   obtain ⟨q,hq⟩ : ∃ q,(x == (k : Int)) = q:=⟨_,rfl⟩
   have HQ:=zz hq;have HST : Hid (f (k + 1) = f k + if q = true then 1 else 0):=zz (by rw [HF.out,HF.out,dN_succ,hx,← hq];rfl);have hle:=HLE.out k;obtain ⟨t,ht⟩ : ∃ t,f k = t:=⟨_,rfl⟩
   rw [ht] at HST hle;simp only [ht];clear hc hx hq ht;replace HB0:=HWR
   go_upto_region 5 with (fail)
   refine rgQ [0,1,2,3,4,5] [] ?_;iterate 3 (refine wD rfl ?_;simp only [pT])
   refine zAi (v:=.int .i64 x) rfl rfl (fun W hW=>by have e:=HC.out W hW;go_simp;try with_reducible rfl) ?_;simp only [pT]
   (refine wD rfl ?_;simp only [pT])
   refine zAi (v:=.bool q) rfl rfl (fun W hW=>by go_simp;exact HQ.out) ?_;simp only [pT];intro W1 HW1;refine zA1 [11,12,13,14,15] fun u=>?_;simp only [zAu,pT];refine zBe ?_;replace HB0:=hTr HB0 HW1;clear HW1
   cases q
   case false=>
    go_wp2;go_roundw
    case rel=>exact ⟨k + 1,by omega,by go_num,by rw [HST.out];rfl,HB0⟩
    case measure=>simp [intOf];omega
   case true=>
    have K1 : IntKind.i64.wrap ((t : Int) + 1) = ((t + 1 : Nat) : Int):=by rw [IntWalk.i64_in _ (by omega)];omega
    go_wp2;go_roundw
    case rel=>exact ⟨k + 1,by omega,by go_num,by rw [HST.out];go_num,HB0⟩
    case measure=>simp [intOf];omega
  ·have hkn : k = n:=by omega
   subst hkn;go_wp2;go_ret;exact ⟨rfl,HWR.out⟩
end Go.Proofs.YtbbblemfodpmaaaGreat
end
section
namespace Go.Proofs.YtbbblemfodpmaaaGreat
open Go.RowKit
def cellN (o : Option Value) : Nat:=match o with
 | some (.int _ v)=>v.toNat
 | _=>0
def flagN : Value→Nat
 | .bool true=>1
 | _=>0
def sumW (W : World) (a : Option Addr) : Nat→Nat
 | 0=>0
 | k + 1=>sumW W a k + cellN (a.bind fun p=>W.cell? ⟨p.block,k,none⟩)
theorem sum_take : ∀ (L : List Int) (k : Nat) (x : Int),L[k]? = some x→sumL (L.take (k + 1)) = sumL (L.take k) + x.toNat:=fun L k x h=>by
 rw [List.take_add_one,h];unfold sumL;simp
theorem sumW_own {W : World} {N : Nat} {a : Option Addr} {c : Nat} {L : List Int} (h : OwnL zAC 1 W N 3 (.slice a L.length c) L) : sumW W a L.length = sumL L:=by
 have key : ∀ k,k ≤ L.length→sumW W a k = sumL (L.take k):=by
  intro k
  induction k with
  | zero=>intro _;simp [sumW,sumL]
  | succ k ih=>
   intro hk;obtain ⟨x,hx⟩ : ∃ x,L[k]? = some x:=⟨_,List.getElem?_eq_getElem (by omega)⟩
   obtain ⟨g,cap,e,_,_,hc⟩:=OwnL.cellOf (enc:=zAC) (sz:=1) (fun _=>rfl) h hx;have h0:=hc 0 Nat.one_pos;rw [Nat.mul_one,Nat.add_zero] at h0;simp only [Value.slice.injEq] at e;obtain ⟨rfl,_,_⟩:=e;simp only [sumW,Option.bind_some];rw [ih (by omega),h0,sum_take L k x hx]
   rfl
 have:=key L.length (Nat.le_refl _)
 rwa [List.take_length] at this
theorem zGt {js : List Joint} (joint : Int) {k : Nat} {x : Joint} (hx : js[k]? = some x) : zBC js joint (k + 1) = zBC js joint k ++ [if x.id = joint then -1 else (k : Int)]:=by
 unfold zBC;rw [List.range_succ,List.map_append];simp only [List.map_cons,List.map_nil,hx];rfl
theorem zEG (sj : Sl Joint) (sl : Sl Lead) (lead joint : Int) (w : World) (hj : sj.OK 3 zAh zAs (fun _=>False) w) (hl : sl.OK 8 zAd zAA (fun _=>False) w) (V : ValidW sj.val sl.val) :
  Calls Tryz.prog 91 #[.agg #[.slice sj.a sj.val.length sj.cap, .slice sl.a sl.val.length sl.cap], .int .i64 lead, .int .i64 joint] w fun e w'=>∃ v,e = .returned v∧OwnL zAC 1 w' w.heap.size 3 v (labA sj.val sl.val joint lead)∧Below w.heap.size w w':=by
 have HIX : Hid (∀ (a : Nat) (x : Joint),sj.val[a]? = some x→Det 121 #[.agg #[.slice sj.a sj.val.length sj.cap, .slice sl.a sl.val.length sl.cap], .int .i64 x.id] (.int .i64 (a : Int)) w):=zz fun a x h=>by
  have:=zGg sj sl x.id w hj;rw [V.idx_at h] at this;exact this
 have HV:=zz V;have hnj:=V.nj;have hnl:=V.nl;have HJ:=zz hj;have HL:=zz hl;obtain ⟨HB0,HWB⟩:=zP1 w #[.slice sj.a sj.val.length sj.cap, .slice sl.a sl.val.length sl.cap] 25;obtain ⟨aj,cj,js⟩:=sj;obtain ⟨al,cl,ls⟩:=sl;obtain ⟨nj,hn1⟩ : ∃ n,js.length = n:=⟨_,rfl⟩
 obtain ⟨nl,hn2⟩ : ∃ n,ls.length = n:=⟨_,rfl⟩
 have HNJ:=zz hn1;have HNL:=zz hn2;simp only [hn1,hn2] at HIX HB0 HWB hnj hnl ⊢;clear hn1 hn2 V hj hl;go_enter Tryz.func91,Tryz.ntmps91;go_wp2
 go_loopw [7,8] (fun v i wr=>∃ k : Nat,k ≤ nj∧i = .int .i64 k∧Hid (OwnL zAC 1 wr (w.heap.size + 1) 3 v (zBC js joint k))∧Hid (Below w.heap.size w wr∧zAe wr w.heap.size 25 #[.slice aj nj cj, .slice al nl cl])) (fun _ i _=>nj - (intOf i).toNat)
 case atStart=>exact ⟨0,Nat.zero_le _,rfl,zz (OwnL.nil _ _ _ _ _),zz ⟨HB0.out,HWB.out⟩⟩
 case round=>
  obtain ⟨k,hk,rfl,HOV,HW⟩:=hrel;replace HB0:=zz HW.out.1;have HWB:=zz HW.out.2;have q0:=(HW.out.2.cell 0).trans (show _ = some (.slice aj nj cj) from rfl);clear HW
  by_cases hlt : k < nj
  ·obtain ⟨x,hx⟩ : ∃ x,js[k]? = some x:=⟨_,List.getElem?_eq_getElem (by rw [HNJ.out];exact hlt)⟩
   obtain ⟨bb,o,e,hc⟩:=HJ.out.elemAt (fun _=>rfl) hx;simp only at e;subst e;have HX0 : Hid (∀ W,Below wr.heap.size wr W→W.cell? ⟨bb,o + k * 3,none⟩ = some (.int .i64 x.id)):=zz fun W hW=>by
    have:=hc W (HB0.out.trans (hW.mono HB0.out.size)) 0 (by show 0 < 3;decide);rw [Nat.add_zero] at this;exact this
   obtain ⟨q,hq⟩ : ∃ q,(x.id == joint) = q:=⟨_,rfl⟩
   have HQ:=zz hq;have HST : Hid (zBC js joint (k + 1) = zBC js joint k ++ [if q = true then -1 else (k : Int)]):=zz (by rw [zGt joint hx,← hq];simp);have HLN : Hid ((zBC js joint k).length = k):=zz (by unfold zBC;simp);clear hc hx hq
   go_upto_region 5 with (fail)
   clear q0;refine rgQ [0,1,2,3,4,5,6,7] [] ?_
   (refine wD rfl ?_;simp only [pT])
   refine zAi (v:=_) rfl rfl (fun W hW=>by have e:=(HWB.out.belowAll hW).cell;go_simp;with_reducible rfl) ?_;simp only [pT];iterate 3 (refine wD rfl ?_;simp only [pT])
   refine zAi (v:=.int .i64 x.id) rfl rfl (fun W hW=>by have e:=HX0.out W hW;go_simp) ?_;simp only [pT]
   (refine wD rfl ?_;simp only [pT])
   refine zAi (v:=.bool q) rfl rfl (fun W hW=>by go_simp;exact HQ.out) ?_;simp only [pT];intro W1 HW1;refine zA1 [22,23,24,25,26,27,28] fun u=>?_;simp only [zAu,pT];refine zBe ?_;replace HOV:=zz (HOV.out.belowAll HW1);replace HB0:=hTr HB0 HW1;replace HWB:=zz (HWB.out.belowAll HW1);clear HW1
   cases q
   case true=>
    go_wp2_with (first
     | ((with_reducible refine zAm 32 ?_);refine zAU rfl _ _ 50 rfl (w.heap.size + 1) zCm (fun _=>rfl) (by decide) zB4 (by decide) u7 (zBC js joint k) rfl (HOV.out.belowAll ((Below.refl _ _).alloc (Nat.le_refl _) _)) W1.heap.size 0 1 (-1) rfl (fun j hj=>by rw [Nat.zero_add];exact (zAe.new W1 3 (zAC (-1))).cell j) (by have:=HLN.out;omega) (Nat.le_trans HWB.out.lt (by rw [World.size_alloc];omega)) ?_;intro v2 w4 ho2 hg2 hob2))
    have hW4 : Below (w.heap.size + 1) W1 w4:=(((Below.refl W1.heap.size W1).alloc (Nat.le_refl _) (.cells (zAC (-1)) 3)).mono HWB.out.lt).trans (Below.appended (HOV.out.belowAll ((Below.refl _ _).alloc (Nat.le_refl _) _)) hg2 (Nat.le_refl _) (Nat.le_trans HWB.out.lt (by rw [World.size_alloc];omega)));exact ⟨⟨k + 1,by omega,by go_num,zz (by rw [HST.out];exact ho2),zz ⟨HB0.out.trans (hW4.mono (by omega)),HWB.out.below hW4 (by omega)⟩⟩,by simp [intOf];omega⟩
   case false=>
    go_wp2_with (first
     | ((with_reducible refine zAm 36 ?_);refine zAU rfl _ _ 50 rfl (w.heap.size + 1) zCm (fun _=>rfl) (by decide) zB4 (by decide) u7 (zBC js joint k) rfl (HOV.out.belowAll ((Below.refl _ _).alloc (Nat.le_refl _) _)) W1.heap.size 0 1 ((k : Int)) rfl (fun j hj=>by rw [Nat.zero_add];exact (zAe.new W1 3 (zAC ((k : Int)))).cell j) (by have:=HLN.out;omega) (Nat.le_trans HWB.out.lt (by rw [World.size_alloc];omega)) ?_;intro v2 w4 ho2 hg2 hob2))
    have hW4 : Below (w.heap.size + 1) W1 w4:=(((Below.refl W1.heap.size W1).alloc (Nat.le_refl _) (.cells (zAC ((k : Int))) 3)).mono HWB.out.lt).trans (Below.appended (HOV.out.belowAll ((Below.refl _ _).alloc (Nat.le_refl _) _)) hg2 (Nat.le_refl _) (Nat.le_trans HWB.out.lt (by rw [World.size_alloc];omega)));exact ⟨⟨k + 1,by omega,by go_num,zz (by rw [HST.out];exact ho2),zz ⟨HB0.out.trans (hW4.mono (by omega)),HWB.out.below hW4 (by omega)⟩⟩,by simp [intOf];omega⟩
  ·have hkn : k = nj:=by omega
   subst hkn;have hlen0 : (zBC js joint k).length = k:=by unfold zBC;simp
   obtain ⟨oa,oc,e⟩:=HOV.out.shape;rw [hlen0] at e;subst e;have HLI : Hid (LabI js ls joint lead (zBC js joint k)):=zz (by have:=lab_start js ls joint lead;rwa [HNJ.out] at this);obtain ⟨L1,hL1⟩ : ∃ L,zBC js joint k = L:=⟨_,rfl⟩
   rw [hL1] at HOV HLI hlen0;clear hL1 hlt hk;have HLN:=zz hlen0;clear hlen0;go_wp2
   go_loopw [9] (fun ch wr=>∃ (L : List Int) (b : Bool),ch = .bool b∧Hid (L.length = k∧OwnL zAC 1 wr (w.heap.size + 1) 3 (.slice oa k oc) L)∧Hid (LabI js ls joint lead L∧(b = false→L = labA js ls joint lead))∧Hid (Below w.heap.size w wr∧zAe wr w.heap.size 25 #[.slice aj k cj, .slice al nl cl])) (fun ch wr=>2 * sumW wr oa k + flagN ch)
   case atStart=>exact ⟨L1,true,rfl,zz ⟨HLN.out,HOV.out⟩,zz ⟨HLI.out,fun h=>by cases h⟩,zz ⟨HB0.out,HWB.out⟩⟩
   case round=>
    obtain ⟨L0,b,rfl,HO,HI,HW2⟩:=hrel
    cases b
    case false=>
     go_wp2;go_ret;refine ⟨_,rfl, ?_,HW2.out.1⟩;have h:=HO.out.2;rw [HI.out.2 (by trivial)] at h;exact h.base_le (by omega)
    case true=>
     have HS0 : Hid (sumW wr oa k = sumL L0):=zz (by
      obtain ⟨h1,h2⟩:=HO.out;rw [← h1] at h2 ⊢;exact sumW_own h2)
     have HRI : Hid (RoundI js ls joint lead L0 0 L0 false):=zz ⟨HI.out.1,fun _=>⟨rfl,fun l hl=>by simp at hl⟩,fun h=>by cases h⟩;go_wp2
     go_loopw [9,10] (fun ch i wr=>∃ (q : Nat) (L : List Int) (b : Bool),q ≤ nl∧i = .int .i64 q∧ch = .bool b∧Hid (L.length = k∧OwnL zAC 1 wr (w.heap.size + 1) 3 (.slice oa k oc) L)∧Hid (RoundI js ls joint lead L0 q L b)∧Hid (Below w.heap.size w wr∧zAe wr w.heap.size 25 #[.slice aj k cj, .slice al nl cl])) (fun _ i _=>nl - (intOf i).toNat)
     case atStart=>exact ⟨0,L0,false,Nat.zero_le _,rfl,rfl,HO,HRI,HW2⟩
     case round=>
      obtain ⟨q,L,b,hq,rfl,rfl,HO3,HR3,HW3⟩:=hrel;have q1:=(HW3.out.2.cell 1).trans (show _ = some (.slice al nl cl) from rfl)
      by_cases hlt : q < nl
      ·obtain ⟨l,hx⟩ : ∃ l,ls[q]? = some l:=⟨_,List.getElem?_eq_getElem (by rw [HNL.out];exact hlt)⟩
       obtain ⟨bb,o,e,hc⟩:=HL.out.elemAt (fun _=>rfl) hx;simp only at e;subst e;obtain ⟨i,hi,j,hj,e1,e2,_⟩:=HV.out.ends (List.mem_of_getElem? hx);obtain ⟨ia,hia⟩:=List.getElem?_of_mem hi;obtain ⟨ib,hib⟩:=List.getElem?_of_mem hj;have hak : ia < k:=by rw [← HNJ.out];exact (List.getElem?_eq_some_iff.1 hia).1
       have hbk : ib < k:=by rw [← HNJ.out];exact (List.getElem?_eq_some_iff.1 hib).1
       have HIA:=HIX.out ia i hia;have HIB:=HIX.out ib j hib;rw [e1] at HIA;rw [e2] at HIB;replace HIA:=zz HIA;replace HIB:=zz HIB;have HJA : Hid (jIx js l.a = ia):=zz (by rw [← e1];exact HV.out.jIx_at hia);have HJB : Hid (jIx js l.b = ib):=zz (by rw [← e2];exact HV.out.jIx_at hib);have HXL:=zz hx;replace HB0:=zz HW3.out.1;have HWB:=zz HW3.out.2;have HXC : Hid (∀ W,Below wr.heap.size wr W→∀ j,j < (zAd l).size→W.cell? ⟨bb,o + q * 8 + j,none⟩ = (zAd l)[j]?):=zz fun W hW=>hc W (HB0.out.trans (hW.mono HB0.out.size));have HOL:=zz HO3.out.2;have HLL:=zz HO3.out.1;clear hx hc hi hj hia hib e1 e2 HO3 HW3 HS0
       go_upto_region 14 with (fail)
       clear q1;refine rgQ [0,1,2,3,4] [5,6] ?_
       (refine wD rfl ?_;simp only [pT])
       refine zAi (v:=_) rfl rfl (fun W hW=>by have e:=(HWB.out.belowAll hW).cell;go_simp;with_reducible rfl) ?_;simp only [pT];iterate 2 (refine wD rfl ?_;simp only [pT])
       refine zAi (v:=.agg (zAd l)) rfl rfl (fun W hW=>zAE (zAd l) (HXC.out W hW) rfl zuD) ?_;simp only [pT];intro W1 HW1;refine zA1 [45,46,47,48] fun u=>?_;simp only [zAu,pT];refine zCU (T := 31) (cs:=#[.int .i64 0, .int .i64 0, .int .i64 0, .int .i64 0, .int .i64 0, .int .i64 0, .int .i64 0, .int .i64 0]) rfl (by kernel_rfl) ?_;simp only [zBh,pT];have hfb:=zAe.new W1 31 #[.int .i64 0, .int .i64 0, .int .i64 0, .int .i64 0, .int .i64 0, .int .i64 0, .int .i64 0, .int .i64 0];have HW3:=HW1.trans (((Below.refl W1.heap.size W1).alloc (Nat.le_refl _) (.cells #[.int .i64 0, .int .i64 0, .int .i64 0, .int .i64 0, .int .i64 0, .int .i64 0, .int .i64 0, .int .i64 0] 31)).mono HW1.size);have hfl:=HW1.size;obtain ⟨jl,hj⟩ : ∃ j,W1.heap.size = j:=⟨_,rfl⟩
       rw [hj] at hfb hfl;simp only [hj];refine zBN hfb rfl rfl (.agg (zAd l)) rfl (by kernel_rfl) (by rfl) (zA9 _) fun W2 hb2 ht2=>?_;have HX:=zz (hb2.eqv (cs':=zAd l) (by simp [zAx,zAd,Value.cells]));have HW2:=HW3.trans (ht2.below hfl);refine zBe ?_;clear hb2 ht2 hfl hfb HW1 HW3 hj W1;replace HOL:=zz (HOL.out.belowAll HW2);replace HB0:=hTr HB0 HW2;replace HWB:=zz (HWB.out.belowAll HW2);clear HW2
       go_upto_region 15 with (fail)
       refine rgQ [0,1,2,3,4] [] ?_;refine zAi (v:=_) rfl rfl (fun W hW=>zAc _ (HWB.out.belowAll hW) rfl (zAg _) zuC) ?_;simp only [pT]
       (refine wD rfl ?_;simp only [pT])
       refine zAi (v:=_) rfl rfl (fun W hW=>by have e:=(HX.out.belowAll hW).cell;go_simp;with_reducible rfl) ?_;simp only [pT];refine zAO _ _ _ rfl rfl (fun W=>by go_simp;try with_reducible rfl) (HIA.out.moved HB0.out) ?_;simp only [pT]
       (refine wD rfl ?_;simp only [pT])
       intro W1 HW1;refine zA1 [50,51,52,53] fun u=>?_;simp only [zAu,pT];refine zBe ?_;replace HOL:=zz (HOL.out.belowAll HW1);replace HB0:=hTr HB0 HW1;replace HWB:=zz (HWB.out.belowAll HW1);replace HX:=zz (HX.out.belowAll HW1);clear HW1
       go_upto_region 16 with (fail)
       refine rgQ [0,1,2,3,4] [] ?_;refine zAi (v:=_) rfl rfl (fun W hW=>zAc _ (HWB.out.belowAll hW) rfl (zAg _) zuC) ?_;simp only [pT]
       (refine wD rfl ?_;simp only [pT])
       refine zAi (v:=_) rfl rfl (fun W hW=>by have e:=(HX.out.belowAll hW).cell;go_simp;with_reducible rfl) ?_;simp only [pT];refine zAO _ _ _ rfl rfl (fun W=>by go_simp;try with_reducible rfl) (HIB.out.moved HB0.out) ?_;simp only [pT]
       (refine wD rfl ?_;simp only [pT])
       intro W1 HW1;refine zA1 [54,55,56,57] fun u=>?_;simp only [zAu,pT];refine zBe ?_;replace HOL:=zz (HOL.out.belowAll HW1);replace HB0:=hTr HB0 HW1;replace HWB:=zz (HWB.out.belowAll HW1);replace HX:=zz (HX.out.belowAll HW1);clear HW1;obtain ⟨ux,hu⟩ : ∃ u,L[ia]? = some u:=⟨_,List.getElem?_eq_getElem (by rw [HLL.out];exact hak)⟩
       obtain ⟨vx,hv⟩ : ∃ v,L[ib]? = some v:=⟨_,List.getElem?_eq_getElem (by rw [HLL.out];exact hbk)⟩
       obtain ⟨g,cap,e,hg1,hg2,hcu⟩:=OwnL.cellOf (enc:=zAC) (sz:=1) (fun _=>rfl) HOL.out hu;simp only [Value.slice.injEq] at e;obtain ⟨rfl, -,rfl⟩:=e;obtain ⟨g',cap',e,_,_,hcv⟩:=OwnL.cellOf (enc:=zAC) (sz:=1) (fun _=>rfl) HOL.out hv;simp only [Value.slice.injEq,Option.some.injEq,Addr.mk.injEq,and_true] at e;obtain ⟨rfl, -,rfl⟩:=e;have HCu : Hid (∀ W,Below W1.drew.heap.size W1.drew W→W.cell? ⟨g,ia,none⟩ = some (.int .i64 ux)):=zz fun W hW=>by
        rw [((Below.refl W1.heap.size W1).drew.trans hW).cell (p:=⟨g,ia,none⟩) hg2];have:=hcu 0 Nat.one_pos;rw [Nat.mul_one,Nat.add_zero] at this;exact this
       have HCv : Hid (∀ W,Below W1.drew.heap.size W1.drew W→W.cell? ⟨g,ib,none⟩ = some (.int .i64 vx)):=zz fun W hW=>by
        rw [((Below.refl W1.heap.size W1).drew.trans hW).cell (p:=⟨g,ib,none⟩) hg2];have:=hcv 0 Nat.one_pos;rw [Nat.mul_one,Nat.add_zero] at this;exact this
       go_upto_region 17 with (fail)
       refine rgD [0,1,2,3,4,5,6,7,8,9,10,11,12,13,14,15,16,17,18,19,20,21,22,23,24,25,26,27,28] [] (fun _=>(0,#[])) [] ?_
       (refine wD rfl ?_;simp only [pT])
       refine zAi (v:=_) rfl rfl (fun W hW=>by have e:=(HX.out.drew.belowAll hW).cell;go_simp;with_reducible rfl) ?_;simp only [pT];iterate 3 (refine wD rfl ?_;simp only [pT])
       iterate 3 (refine wI rfl ?_;simp only [pT])
       refine zAB (v:=.int .i64 ux) rfl rfl (fun hg W hW=>by (try simp only [Bool.and_eq_true] at hg);(try simp only [hg,Bool.and_self,zAz]);have e:=HCu.out W hW;go_simp;try with_reducible rfl) ?_;simp only [pT]
       (refine wI rfl ?_;simp only [pT])
       refine zBX rfl rfl rfl ?_;simp only [pT]
       (refine wD rfl ?_;simp only [pT])
       iterate 3 (refine wI rfl ?_;simp only [pT])
       refine zAB (v:=.int .i64 vx) rfl rfl (fun hg W hW=>by (try simp only [Bool.and_eq_true] at hg);(try simp only [hg,Bool.and_self,zAz]);have e:=HCv.out W hW;go_simp;try with_reducible rfl) ?_;simp only [pT]
       (refine wI rfl ?_;simp only [pT])
       refine zBX rfl rfl rfl ?_;simp only [pT]
       (refine wD rfl ?_;simp only [pT])
       iterate 3 (refine wI rfl ?_;simp only [pT])
       refine zAB (v:=.int .i64 ux) rfl rfl (fun hg W hW=>by (try simp only [Bool.and_eq_true] at hg);(try simp only [hg,Bool.and_self,zAz]);have e:=HCu.out W hW;go_simp;try with_reducible rfl) ?_;simp only [pT];iterate 3 (refine wI rfl ?_;simp only [pT])
       refine zAB (v:=.int .i64 vx) rfl rfl (fun hg W hW=>by (try simp only [Bool.and_eq_true] at hg);(try simp only [hg,Bool.and_self,zAz]);have e:=HCv.out W hW;go_simp;try with_reducible rfl) ?_;simp only [pT]
       (refine wI rfl ?_;simp only [pT])
       refine zBX rfl rfl rfl ?_;simp only [pT];intro f W1 HW1 h1 h2;simp only [zAP];clear h1 h2 f;refine zAt [58,59,60,61,62,63,64,65,66,67,68,69,70,71,72,73,74,75,76,77,78,79,80,81,82,83,84,85] fun u=>?_;simp only [zAu,pT];simp only [wpS];replace HOL:=zz (HOL.out.belowAll ((Below.refl _ _).drew.trans HW1));replace HB0:=zz (HB0.out.drew.trans (HW1.mono HB0.out.drew.size));replace HWB:=zz (HWB.out.drew.belowAll HW1);replace HX:=zz (HX.out.drew.belowAll HW1);clear HW1;have HNOL : Hid (noLab js lead L l = (l.id == lead || decide (ux < 0) || decide (vx < 0) || ux == vx)):=zz (by unfold noLab lbl;rw [HJA.out,HJB.out,hu,hv];rfl);have HSTEP:=zz (HV.out.round_step HXL.out HR3.out);obtain ⟨cc,hcc⟩ : ∃ c,(l.id == lead || decide (ux < 0) || decide (vx < 0) || ux == vx) = c:=⟨_,rfl⟩
       rw [hcc] at HNOL;simp only [hcc];clear hcc
       cases cc
       case true=>
        have HSK : Hid (RoundI js ls joint lead L0 (q + 1) L b):=zz (by
         have h:=HSTEP.out;unfold zEK at h;rw [if_pos HNOL.out] at h;exact h)
        clear hu hv hcu hcv HSTEP;go_wp2;go_roundw
        case rel=>exact ⟨q + 1,L,b,by omega,by go_num,rfl,zz ⟨HLL.out,HOL.out⟩,HSK,zz ⟨HB0.out,HWB.out⟩⟩
        case measure=>simp [intOf];omega
       case false=>
        have HCu2 : Hid (∀ W,Below W1.drew.heap.size W1.drew W→W.cell? ⟨g,ia,none⟩ = some (.int .i64 ux)):=zz fun W hW=>by
         obtain ⟨g2,cap2,e,_,hg3,hc3⟩:=OwnL.cellOf (enc:=zAC) (sz:=1) (fun _=>rfl) HOL.out hu;simp only [Value.slice.injEq,Option.some.injEq,Addr.mk.injEq,and_true] at e;obtain ⟨rfl, -, -⟩:=e;rw [((Below.refl W1.heap.size W1).drew.trans hW).cell (p:=⟨g,ia,none⟩) hg3];have:=hc3 0 Nat.one_pos;rw [Nat.mul_one,Nat.add_zero] at this;exact this
        have HCv2 : Hid (∀ W,Below W1.drew.heap.size W1.drew W→W.cell? ⟨g,ib,none⟩ = some (.int .i64 vx)):=zz fun W hW=>by
         obtain ⟨g2,cap2,e,_,hg3,hc3⟩:=OwnL.cellOf (enc:=zAC) (sz:=1) (fun _=>rfl) HOL.out hv;simp only [Value.slice.injEq,Option.some.injEq,Addr.mk.injEq,and_true] at e;obtain ⟨rfl, -, -⟩:=e;rw [((Below.refl W1.heap.size W1).drew.trans hW).cell (p:=⟨g,ib,none⟩) hg3];have:=hc3 0 Nat.one_pos;rw [Nat.mul_one,Nat.add_zero] at this;exact this
        go_upto_region 18 with (fail)
        refine rgD [0,1,2,3,4,5,6,7,8,9] [] (fun _=>(0,#[])) [] ?_;iterate 3 (refine wD rfl ?_;simp only [pT])
        refine zAi (v:=.int .i64 ux) rfl rfl (fun W hW=>by have e:=HCu2.out W hW;go_simp;try with_reducible rfl) ?_;simp only [pT];iterate 3 (refine wD rfl ?_;simp only [pT])
        refine zAi (v:=.int .i64 vx) rfl rfl (fun W hW=>by have e:=HCv2.out W hW;go_simp;try with_reducible rfl) ?_;simp only [pT];iterate 2 (refine wD rfl ?_;simp only [pT])
        intro f W1 HW1 h1 h2;simp only [zAP];clear h1 h2 f;refine zAt [87,88,89,90,91,92,93,94,95] fun u=>?_;simp only [zAu,pT];simp only [wpS];replace HOL:=zz (HOL.out.belowAll ((Below.refl _ _).drew.trans HW1));replace HB0:=zz (HB0.out.drew.trans (HW1.mono HB0.out.drew.size));replace HWB:=zz (HWB.out.drew.belowAll HW1);clear HW1;obtain ⟨m,hm⟩ : ∃ m,min ux vx = m:=⟨_,rfl⟩
        have HRN : Hid (RoundI js ls joint lead L0 (q + 1) ((L.set ia m).set ib m) true):=zz (by
         have h:=HSTEP.out;unfold zEK at h;rw [if_neg (by rw [HNOL.out];decide)] at h;unfold setLab lbl at h;rw [HJA.out,HJB.out,hu,hv] at h;simp only [Option.getD_some,hm] at h;exact h)
        simp only [hm];obtain ⟨g1,cap1,cur1,e,hb1,hs1,hset1⟩:=OwnL.store (enc:=zAC) (sz:=1) (fun _=>rfl) HOL.out (i:=ia) (by rw [HLL.out];exact hak);simp only [Value.slice.injEq,Option.some.injEq,Addr.mk.injEq,and_true] at e;obtain ⟨rfl, -,rfl⟩:=e;rw [Nat.mul_one] at hs1;simp only [Nat.mul_one] at hset1;have HS1:=zz hset1;have hgw : w.heap.size ≠ g:=by omega
        clear hu hv hcu hcv hm HSTEP HCu HCv HCu2 HCv2 hset1
        go_wp2_with (first
         | ((with_reducible refine zAv 3 ?_);refine zAS hb1 rfl _ _ _ rfl rfl (.int .i64 m) rfl (by kernel_rfl) (Nat.ble_eq_true_of_le hs1) (by simp [Value.cells,Value.oneCell']) ?_;intro w5 hb5 ht5;have HO5:=zz (HS1.out w5 m hb5);obtain ⟨g2,cap2,cur2,e,hb2,hs2,hset2⟩:=OwnL.store (enc:=zAC) (sz:=1) (fun _=>rfl) HO5.out (i:=ib) (by rw [List.length_set,HLL.out];exact hbk);simp only [Value.slice.injEq,Option.some.injEq,Addr.mk.injEq,and_true] at e;obtain ⟨rfl, -,rfl⟩:=e;rw [Nat.mul_one] at hs2;simp only [Nat.mul_one] at hset2;have HS2:=zz hset2;clear hset2)
         | ((with_reducible refine zAv 3 ?_);refine zAS hb2 rfl _ _ _ rfl rfl (.int .i64 m) rfl (by kernel_rfl) (Nat.ble_eq_true_of_le hs2) (by simp [Value.cells,Value.oneCell']) ?_;intro w6 hb6 ht6))
        go_roundw
        case rel=>exact ⟨q + 1,_,true,by omega,by go_num,rfl,zz ⟨by rw [List.length_set,List.length_set];exact HLL.out,HS2.out w6 m hb6⟩,HRN,zz ⟨(HB0.out.trans (ht5.below (by omega))).trans (ht6.below (by omega)),(HWB.out.turn ht5 hgw).turn ht6 hgw⟩⟩
        case measure=>simp [intOf];omega
      ·have hqn : q = nl:=by omega
       subst hqn;have HFIN : Hid (LabI js ls joint lead L∧(b = false→L = labA js ls joint lead)∧2 * sumL L + (if b = true then 1 else 0) < 2 * sumL L0 + 1):=zz ⟨HR3.out.inv,fun h=>by
        have h3:=HR3.out;rw [h,← HNL.out] at h3;exact HV.out.round_done h3,by
        cases b with
        | false=>rw [(HR3.out.same rfl).1];simp
        | true=>have:=HR3.out.less rfl;simp;omega⟩
       have HS1 : Hid (sumW wr oa k = sumL L):=zz (by
        obtain ⟨h1,h2⟩:=HO3.out;rw [← h1] at h2 ⊢;exact sumW_own h2)
       go_wp2;go_roundw
       case rel=>exact ⟨L,b,rfl,HO3,zz ⟨HFIN.out.1,HFIN.out.2.1⟩,HW3⟩
       case measure=>rw [HS1.out,HS0.out];have:=HFIN.out.2.2;cases b <;> simp [flagN] at this ⊢ <;> omega
end Go.Proofs.YtbbblemfodpmaaaGreat
end
section
namespace Go.Proofs.YtbbblemfodpmaaaGreat
open Go.RowKit
theorem rbridges_any (sj : Sl Joint) (sl : Sl Lead) (w : World) (hj : sj.OK 3 zAh zAs (fun _=>False) w) (hl : sl.OK 8 zAd zAA (fun _=>False) w) (V : ValidW sj.val sl.val) :
  Calls Tryz.prog 93 #[.agg #[.slice sj.a sj.val.length sj.cap, .slice sl.a sl.val.length sl.cap]] w fun e w'=>∃ v,e = .returned v∧OwnL zAC 1 w' w.heap.size 3 v (zCC sj.val sl.val)∧Below w.heap.size w w':=by
 obtain ⟨LB,hLB⟩ : ∃ LB : Int→List Int,∀ lead,labA sj.val sl.val 0 lead = LB lead:=⟨_,fun _=>rfl⟩
 have HLB : Hid (∀ (W : World) (lead : Int),Below w.heap.size w W→Calls Tryz.prog 91 #[.agg #[.slice sj.a sj.val.length sj.cap, .slice sl.a sl.val.length sl.cap], .int .i64 lead, .int .i64 0] W fun e w'=>∃ v,e = .returned v∧OwnL zAC 1 w' W.heap.size 3 v (LB lead)∧Below W.heap.size W w'):=zz fun W lead hW=>by
  have h:=zEG sj sl lead 0 W (hj.jmoved hW) (hl.lmoved hW) V;rw [hLB] at h;exact h
 have HLN : Hid (∀ lead,(LB lead).length = sj.val.length):=zz fun lead=>by rw [← hLB];exact zC4 _ _ _ _
 have hnj:=V.nj;have hnl:=V.nl;obtain ⟨D,hD⟩ : ∃ D : Int→Nat,∀ lead,zDG (LB lead) = D lead:=⟨_,fun _=>rfl⟩
 have HDF : Hid (∀ (W : World) (a : Option Addr) (c : Nat) (lead : Int),Sl.OK 1 zAC (fun _ _ _=>True) (fun _=>False) W ⟨a,c,LB lead⟩→Det 99 #[.slice a (LB lead).length c] (.int .i64 (D lead : Nat)) W):=zz fun W a c lead h=>by
  have h:=rdiff_det a c _ W h (by rw [HLN.out];omega);rw [hD] at h;exact h
 have HBR : Hid (∀ l ∈ sl.val,decide (D 0 < D l.id) = zBF sj.val sl.val l):=zz fun l h=>by rw [← V.bridge h,hLB,hLB,hD,hD]
 have HL:=zz hl;obtain ⟨HB0,HWB⟩:=zP1 w #[.slice sj.a sj.val.length sj.cap, .slice sl.a sl.val.length sl.cap] 25;obtain ⟨aj,cj,js⟩:=sj;obtain ⟨al,cl,ls⟩:=sl;obtain ⟨nj,hn1⟩ : ∃ n,js.length = n:=⟨_,rfl⟩
 obtain ⟨nl,hn2⟩ : ∃ n,ls.length = n:=⟨_,rfl⟩
 have HNL:=zz hn2;obtain ⟨f,hf⟩ : ∃ f : Nat→List Int,∀ k,((ls.take k).filter (zBF js ls)).map (·.id) = f k:=⟨_,fun _=>rfl⟩
 have HF:=zz hf;have HEND : Hid (zCC js ls = f nl):=zz (by rw [← hf,List.take_of_length_le (by omega),zCC]);have HFL : Hid (∀ k,(f k).length ≤ k):=zz fun k=>by rw [← hf,List.length_map];exact Nat.le_trans (List.length_filter_le _ _) (by rw [List.length_take];omega)
 simp only [hn1,hn2] at HLB HLN HB0 HWB hnj hnl ⊢;rw [HEND.out];clear hn1 hn2 V hj hl hLB hD hf;go_enter Tryz.func93,Tryz.ntmps93
 go_upto_region 2 with (first
  | (refine zLd 6 HWB.out #[.slice aj nj cj, .slice al nl cl] zuC ?_)
  | (go_at_call 91;refine (HLB.out _ 0 HB0.out).mono ?_;rintro e w2 ⟨v,rfl,ho1,hb2⟩;obtain ⟨so,rfl,hsv,hso,_⟩:=ho1.sl (fun _=>rfl) (fun _ _ _=>True) (fun _=>False) (fun _ _=>trivial) (fun _ _ h=>h) (by rw [HLN.out];omega);obtain ⟨sa,sc,sv⟩:=so;simp only at hsv;subst hsv;simp only [Sl.v];replace HWB:=zz (HWB.out.belowAll hb2);replace HB0:=hTr HB0 hb2;have HDF0:=zz (HDF.out w2 sa sc 0 hso w2 (Below.refl _ _));clear ho1 hb2 hso)
  | (go_at_call 99;refine HDF0.out.mono ?_;rintro e w3 ⟨rfl,hb3⟩;replace HWB:=zz (HWB.out.belowAll hb3);replace HB0:=hTr HB0 hb3;clear HDF0 hb3))
 go_wp2
 go_loopw [4,5] (fun v i wr=>∃ k : Nat,k ≤ nl∧i = .int .i64 k∧Hid (OwnL zAC 1 wr (w.heap.size + 1) 3 v (f k))∧Hid (Below w.heap.size w wr∧zAe wr w.heap.size 25 #[.slice aj nj cj, .slice al nl cl])) (fun _ i _=>nl - (intOf i).toNat)
 case atStart=>exact ⟨0,Nat.zero_le _,rfl,zz (by rw [← HF.out];exact OwnL.nil _ _ _ _ _),zz ⟨HB0.out,HWB.out⟩⟩
 case round=>
  obtain ⟨k,hk,rfl,HOV,HW⟩:=hrel;replace HB0:=zz HW.out.1;have HWB:=zz HW.out.2;have q0:=(HW.out.2.cell 1).trans (show _ = some (.slice al nl cl) from rfl);clear HW
  by_cases hlt : k < nl
  ·obtain ⟨x,hx⟩ : ∃ x,ls[k]? = some x:=⟨_,List.getElem?_eq_getElem (by rw [HNL.out];exact hlt)⟩
   obtain ⟨bb,o,e,hc⟩:=HL.out.elemAt (fun _=>rfl) hx;simp only at e;subst e;have HX0 : Hid (∀ W,Below w.heap.size w W→W.cell? ⟨bb,o + k * 8,none⟩ = some (.int .i64 x.id)):=zz fun W hW=>by
    have:=hc W hW 0 (by show 0 < 8;decide);rw [Nat.add_zero] at this;exact this
   obtain ⟨q,hq⟩ : ∃ q,decide (D 0 < D x.id) = q:=⟨_,rfl⟩
   have HQ:=zz hq;have HST : Hid (f (k + 1) = f k ++ if q = true then [x.id] else []):=zz (by rw [← HF.out,← HF.out,zB5 hx,← HBR.out x (List.mem_of_getElem? hx),hq,List.map_append];cases q <;> rfl);clear hc hx hq
   go_upto_region 6 with (fail)
   clear q0;have S1 : (fun W=>Below w.heap.size w W∧zAe W w.heap.size 25 #[.slice aj nj cj, .slice (some ⟨bb,o,none⟩) nl cl]∧Below wr.drew.heap.size wr.drew W) wr.drew:=⟨HB0.out.drew,HWB.out.drew,Below.refl _ _⟩
   refine zCQ (fun W=>Below w.heap.size w W∧zAe W w.heap.size 25 #[.slice aj nj cj, .slice (some ⟨bb,o,none⟩) nl cl]∧Below wr.drew.heap.size wr.drew W) [(0,true),(1,true),(2,true),(3,true),(4,true),(5,true),(6,true),(9,true),(7,false),(8,false),(10,true)] rfl (by kernel_rfl) (by kernel_rfl) (fun d _ _ _ _ h=>by cases d <;> exact h) S1 ?_;refine zBw (v:=.agg #[.slice aj nj cj, .slice (some ⟨bb,o,none⟩) nl cl]) rfl rfl (fun W hW=>zAc _ hW.2.1 rfl (zAg _) zuC) ?_;simp only [pT];refine wS rfl ?_;simp only [pT];refine zBw (v:=.slice (some ⟨bb,o,none⟩) nl cl) rfl rfl (fun W hW=>by have e:=hW.2.1.cell;go_simp) ?_;simp only [pT];iterate 3 (refine wS rfl ?_;simp only [pT])
   refine zBw (v:=.int .i64 x.id) rfl rfl (fun W hW=>by have e:=HX0.out W hW.1;go_simp) ?_;simp only [pT];refine wS rfl ?_;simp only [pT];refine zCo rfl rfl (fun K hK=>?_)
   go_simp
   refine (HLB.out _ _ S1.1).mono ?_;rintro e w2 ⟨v,rfl,ho1,hb2⟩;have S2 : (fun W=>Below w.heap.size w W∧zAe W w.heap.size 25 #[.slice aj nj cj, .slice (some ⟨bb,o,none⟩) nl cl]∧Below wr.drew.heap.size wr.drew W) w2:=⟨S1.1.trans (hb2.mono S1.1.size),S1.2.1.belowAll hb2,S1.2.2.trans (hb2.mono S1.2.2.size)⟩
   obtain ⟨so,rfl,hsv,hso,_⟩:=ho1.sl (fun _=>rfl) (fun _ _ _=>True) (fun _=>False) (fun _ _=>trivial) (fun _ _ h=>h) (by rw [HLN.out];omega);obtain ⟨sa,sc,sv⟩:=so;simp only at hsv;subst hsv;simp only [Sl.v];refine hK _ _ S2 ?_;clear hK K
   try simp only [pT]
   refine zCo rfl rfl (fun K hK=>?_)
   go_simp
   refine (HDF.out w2 sa sc _ hso w2 (Below.refl _ _)).mono ?_;rintro e w3 ⟨rfl,hb3⟩;have S3 : (fun W=>Below w.heap.size w W∧zAe W w.heap.size 25 #[.slice aj nj cj, .slice (some ⟨bb,o,none⟩) nl cl]∧Below wr.drew.heap.size wr.drew W) w3:=⟨S2.1.trans (hb3.mono S2.1.size),S2.2.1.belowAll hb3,S2.2.2.trans (hb3.mono S2.2.2.size)⟩
   refine hK _ _ S3 ?_;clear hK K
   try simp only [pT]
   refine zBw (v:=.bool q) rfl rfl (fun W hW=>by go_simp;exact HQ.out) ?_;simp only [pT];simp only [wpS];replace HOV:=zz (HOV.out.belowAll ((Below.refl wr.heap.size wr).drew.trans S3.2.2));replace HB0:=zz S3.1;replace HWB:=zz S3.2.1;clear S1 S2 S3 hb2 hb3 ho1 hso
   cases q
   case true=>
    have q1:=(HWB.out.cell 1).trans (show _ = some (.slice (some ⟨bb,o,none⟩) nl cl) from rfl);have q2:=HX0.out w3 HB0.out
    go_wp2_with (first
     | ((with_reducible refine zAm 35 ?_);refine zAU rfl _ _ 50 rfl (w.heap.size + 1) zCm (fun _=>rfl) (by decide) zB4 (by decide) u4 (f k) rfl (HOV.out.belowAll ((Below.refl _ _).alloc (Nat.le_refl _) _)) w3.heap.size 0 1 x.id rfl (fun j hj=>by rw [Nat.zero_add];exact (zAe.new w3 3 (zAC x.id)).cell j) (by have:=HFL.out k;omega) (Nat.le_trans HWB.out.lt (by rw [World.size_alloc];omega)) ?_;intro v2 w4 ho2 hg2 hob2))
    have hW4 : Below (w.heap.size + 1) w3 w4:=(((Below.refl w3.heap.size w3).alloc (Nat.le_refl _) (.cells (zAC x.id) 3)).mono HWB.out.lt).trans (Below.appended (HOV.out.belowAll ((Below.refl _ _).alloc (Nat.le_refl _) _)) hg2 (Nat.le_refl _) (Nat.le_trans HWB.out.lt (by rw [World.size_alloc];omega)));exact ⟨⟨k + 1,by omega,by go_num,zz (by rw [HST.out];exact ho2),zz ⟨HB0.out.trans (hW4.mono (by omega)),HWB.out.below hW4 (by omega)⟩⟩,by simp [intOf];omega⟩
   case false=>
    go_wp2;go_roundw
    case rel=>exact ⟨k + 1,by omega,by go_num,zz (by rw [HST.out];simpa using HOV.out),zz ⟨HB0.out,HWB.out⟩⟩
    case measure=>simp [intOf];omega
  ·have hkn : k = nl:=by omega
   subst hkn;go_wp2;go_ret;exact ⟨_,rfl,HOV.out.base_le (by omega),HB0.out⟩
end Go.Proofs.YtbbblemfodpmaaaGreat
end
