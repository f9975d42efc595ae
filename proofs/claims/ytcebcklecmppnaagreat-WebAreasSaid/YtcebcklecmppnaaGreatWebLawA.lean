/-WebAreas answers true: the law.-/
import Derived.Test.YtcebcklecmppnaaGreatWebLawB
import Derived.Test.YtcebcklecmppnaaGreatWebGv
import Derived.Test.YtcebcklecmppnaaGreatWebUf
import Derived.Test.YtcebcklecmppnaaGreatWebGs
set_option linter.unusedVariables false
set_option linter.unusedSimpArgs false
set_option maxHeartbeats 16000000
set_option maxRecDepth 100000
namespace Go.Proofs.YtcebcklecmppnaaGreat
open Go.RowKit
theorem OwnLL.place {α : Type} {enc : α → Array Value} {sz : Nat} {te tl : TypeId} {W : World} {N : Nat} {v : Value} {ss : List (Sl α)} (h : OwnLL enc sz te tl W N v ss) {k : Nat} {l : List α} (hk : (ss.map Sl.val)[k]? = some l) :
  ∃ (g cap : Nat) (a : Option Addr) (c : Nat),v = .slice (some ⟨g,0,none⟩) ss.length cap ∧ g < W.heap.size ∧ W.cell? ⟨g,k,none⟩ = some (.slice a l.length c) ∧ OwnL enc sz W N te (.slice a l.length c) l := by
 rw [List.getElem?_map] at hk
 cases hs : ss[k]? with
 | none => rw [hs] at hk;cases hk
 | some s =>
  rw [hs] at hk;obtain rfl : s.val = l := by simpa using hk
  obtain ⟨g,cap,e,_,hg,hc⟩ := OwnL.cellOf (enc := encS) (sz := 1) (fun _ => rfl) h.outer hs;have hc0 := hc 0 (by decide);rw [Nat.mul_one,Nat.add_zero] at hc0;exact ⟨g,cap,s.a,s.cap,e,hg,hc0,h.inner s (List.mem_of_getElem? hs)⟩
def walksX (js : List Joint) (ls : List Lead) : List (List Side) := if (zAE js ls).1 = 0 then zBo js ls else []
section
variable {α : Type} (X : List α) (p : α → Bool) (A : α → Int)
def ownN (k : Nat) : Nat := ((X.take k).filter p).length
def ownS (k : Nat) : Int := (((X.take k).filter p).map A).sum
def ownO (k : Nat) : Nat := (((X.take k).filter p).filter fun x => decide (A x ≤ 0)).length
theorem own_yes {k : Nat} {x : α} (hx : X[k]? = some x) (hp : p x = true) : ownN X p (k + 1) = ownN X p k + 1 ∧ ownS X p A (k + 1) = ownS X p A k + A x ∧ ownO X p A (k + 1) = ownO X p A k + (decide (A x ≤ 0)).toNat := by
 unfold ownN ownS ownO;rw [zCn hx,hp];simp only [if_true,List.length_append,List.map_append,List.sum_append,List.filter_append];refine ⟨rfl,by simp, ?_⟩
 by_cases h : A x ≤ 0 <;> simp [h]
theorem own_no {k : Nat} {x : α} (hx : X[k]? = some x) (hp : p x = false) : ownN X p (k + 1) = ownN X p k ∧ ownS X p A (k + 1) = ownS X p A k ∧ ownO X p A (k + 1) = ownO X p A k := by
 unfold ownN ownS ownO;rw [zCn hx,hp];simp
theorem own_small (M : Int) (hM : ∀ x ∈ X, -M ≤ A x ∧ A x ≤ M) (hM0 : 0 ≤ M) (k : Nat) : ownN X p k ≤ k ∧ ownO X p A k ≤ k ∧ -(M * k) ≤ ownS X p A k ∧ ownS X p A k ≤ M * k := by
 have h1 : ((X.take k).filter p).length ≤ k := Nat.le_trans (List.length_filter_le _ _) (by rw [List.length_take];omega);have h2 : ∀ L : List α,(∀ x ∈ L, -M ≤ A x ∧ A x ≤ M) → -(M * L.length) ≤ (L.map A).sum ∧ (L.map A).sum ≤ M * L.length := by
  intro L
  induction L with
  | nil => intro _;simp
  | cons x L ih =>
   intro h;have i := ih fun y hy => h y (List.mem_cons_of_mem _ hy);have j := h x (by simp);rw [List.map_cons,List.sum_cons,List.length_cons,Int.natCast_add,Int.mul_add];omega
 have h3 := h2 ((X.take k).filter p) fun x hx => hM x (List.take_subset _ _ (List.mem_filter.1 hx).1);have h4 : M * (((X.take k).filter p).length : Int) ≤ M * k := Int.mul_le_mul_of_nonneg_left (by omega) hM0;refine ⟨h1,Nat.le_trans (List.length_filter_le _ _) h1, ?_, ?_⟩ <;> unfold ownS <;> omega
end
theorem len_take {c : List (List Int)} {i : Nat} {x : List Int} (h : c[i]? = some x) : ((c.take (i + 1)).map (·.length)).sum = ((c.take i).map (·.length)).sum + x.length := by
 rw [List.take_add_one,h];simp
theorem len_take_le (c : List (List Int)) (i : Nat) : ((c.take i).map (·.length)).sum ≤ (c.map (·.length)).sum := by
 conv => rhs;rw [← List.take_append_drop i c,List.map_append,List.sum_append_nat]
 omega
theorem wareas_any (sj : Sl Joint) (sl : Sl Lead) (w : World) (hj : sj.OK 3 zAg zAv (fun _ => False) w) (hl : sl.OK 8 zAe zAx (fun _ => False) w) (hf1 : sj.val.length ≤ 40) (hf2 : sl.val.length ≤ 60) :
  Calls Tryz.prog 6 #[.agg #[.slice sj.a sj.val.length sj.cap, .slice sl.a sl.val.length sl.cap]] w fun e w' => e = .returned (.bool true) ∧ Below w.heap.size w w' := by
 have HCA : Hid (∀ W,Below w.heap.size w W → Calls Tryz.prog 12 #[.agg #[.slice sj.a sj.val.length sj.cap, .slice sl.a sl.val.length sl.cap]] W fun e w' => ∃ v ss,e = .returned (.tuple #[v, .int .i64 (zAE sj.val sl.val).1]) ∧ OwnLL zAQ 1 3 54 w' W.heap.size v ss ∧ ss.map Sl.val = zEL sj.val sl.val ∧ Below W.heap.size W w') := zz fun W hW => zGy sj sl W (hj.jmoved hW) (hl.lmoved hW);have HWK : Hid (∀ W,Below w.heap.size w W → Calls Tryz.prog 20 #[.agg #[.slice sj.a sj.val.length sj.cap, .slice sl.a sl.val.length sl.cap]] W fun e w' => ∃ v,e = .returned (.tuple #[v, .int .i64 (zAE sj.val sl.val).1]) ∧ zAT w' W.heap.size v (walksX sj.val sl.val) ∧ Below W.heap.size W w') := zz fun W hW => by
  unfold walksX
  by_cases h0 : (zAE sj.val sl.val).1 = 0
  ·rw [if_pos h0,h0];exact Walks_ok sj sl W (hj.jmoved hW) (hl.lmoved hW) h0
  ·rw [if_neg h0];exact (Walks_bad sj sl W (hj.jmoved hW) (hl.lmoved hW) h0).mono fun e w' ⟨h1,h2⟩ => ⟨_,h1,zAT.nil _ _,h2⟩
 have HGD : Hid ((zAE sj.val sl.val).1 = 0 → ∃ (C : List (List Int)) (X : List (List Side)) (fr A : List Side → Int),zEL sj.val sl.val = C ∧ walksX sj.val sl.val = X ∧ C.length ≤ 200 ∧ X.length ≤ 120 ∧ (C.map (·.length)).sum = sj.val.length ∧
   (∀ x ∈ X,0 < x.length ∧ x.length ≤ 800 ∧ -33554432000 ≤ A x ∧ A x ≤ 33554432000) ∧
   (∀ x ∈ X,∀ s,x[0]? = some s → (∃ p q,Det 21 #[.agg #[.slice sj.a sj.val.length sj.cap, .slice sl.a sl.val.length sl.cap], .agg (zAa s)] (.tuple #[.agg (zAg ⟨fr x,p⟩), .agg (zAg q), .int .i64 0]) w) ∧ Det 22 #[.agg #[.slice sj.a sj.val.length sj.cap, .slice sl.a sl.val.length sl.cap], .agg (zAa s)] (.tuple #[.int .i64 (A x), .int .i64 0]) w) ∧
   ∀ c ∈ C,0 < ownN X (fun x => c.contains (fr x)) X.length → ownS X (fun x => c.contains (fr x)) A X.length = 0 ∧ ownO X (fun x => c.contains (fr x)) A X.length = 1) := zz fun h => by
  have V := zCT h;refine ⟨zBF sj.val sl.val,zBo sj.val sl.val,fun x => (zAi sl.val (x.headD zCF)).1,zAW sj.val sl.val,by unfold zEL;rw [if_pos h],by unfold walksX;rw [if_pos h],zFJ V, ?_,V.comps_total,fun x hx => ?_,fun x hx s hs => ?_,fun c hc => ?_⟩
  ·have h1 := zDH V (zBc sl.val) [];rw [zB3] at h1;simp only [List.length_nil] at h1;unfold zBo;omega
  ·obtain ⟨a,b,_⟩ := zDU V hx;have h2 := zEV (ls := sl.val) V.small x;exact ⟨List.length_pos_iff.2 a,b,by omega,by omega⟩
  ·obtain ⟨t,ht,e,eh⟩ := V.walk_of hx;have est : s = t := by
    rw [← eh]
    cases x with
    | nil => cases hs
    | cons y r => simpa using hs.symm
   subst est;have hI : I64 s.lead := (zDU V hx).2.2 s (List.mem_of_getElem? hs);have h0 : zBV sj.val sl.val s = 0 := by
    obtain ⟨y,hy,e2⟩ := ht;unfold zBV;rw [if_neg (by simp [h]),if_pos (by rw [← e2,V.lead hy];rfl)]
   refine ⟨⟨ptA sj.val (zAi sl.val s).1,endTo sj.val sl.val s,fun W hW => ?_⟩,fun W hW => ?_⟩
   ·have := Ends_any sj sl s W (hj.jmoved hW) (hl.lmoved hW) hI;rw [h0,show endFrom sj.val sl.val s = ⟨(zAi sl.val s).1,ptA sj.val (zAi sl.val s).1⟩ by unfold endFrom;rw [if_pos h0]] at this;simp only [eh];exact this
   ·have := Area_ok sj sl s W (hj.jmoved hW) (hl.lmoved hW) hI h0;rw [← e] at this;exact this
  ·unfold ownN ownS ownO;rw [List.take_length];exact V.areas hc
 obtain ⟨HB0,HWB⟩ := zP1 w #[.slice sj.a sj.val.length sj.cap, .slice sl.a sl.val.length sl.cap] 25;obtain ⟨aj,cj,js⟩ := sj;obtain ⟨al,cl,ls⟩ := sl;obtain ⟨nj,hn1⟩ : ∃ n,js.length = n := ⟨_,rfl⟩
 obtain ⟨nl,hn2⟩ : ∃ n,ls.length = n := ⟨_,rfl⟩
 obtain ⟨C,hn3⟩ : ∃ n,zEL js ls = n := ⟨_,rfl⟩
 obtain ⟨X,hn4⟩ : ∃ n,walksX js ls = n := ⟨_,rfl⟩
 obtain ⟨E,hn5⟩ : ∃ n,(zAE js ls).1 = n := ⟨_,rfl⟩
 simp only [hn1,hn2,hn3,hn4,hn5] at HCA HWK HGD HB0 HWB hf1 hf2 ⊢;clear hn1 hn2 hn3 hn4 hn5 hj hl;go_enter Tryz.func6,Tryz.ntmps6;have m1 : ¬ 40 < nj := by omega
 have m2 : ¬ 60 < nl := by omega
 by_cases h0 : E = 0
 case neg =>
  clear HGD
  go_wp2_with (first
   | (go_at_call 9;refine (zEl _).mono ?_;rintro e w1 ⟨rfl,hb1⟩;replace HWB := zz (HWB.out.belowAll hb1);replace HB0 := hTr HB0 hb1;clear hb1;have q0 := (HWB.out.cell 0).trans (show _ = some (.slice aj nj cj) from rfl);have q1 := (HWB.out.cell 1).trans (show _ = some (.slice al nl cl) from rfl))
   | (refine zLd 32 HWB.out #[.slice aj nj cj, .slice al nl cl] zuC ?_) | (go_at_call 12;refine (HCA.out _ HB0.out).mono ?_;rintro e w2 ⟨cv,ss,rfl,hcl,hss,hb2⟩;replace HWB := zz (HWB.out.belowAll hb2);replace HB0 := hTr HB0 hb2;have HCL := zz hcl;have HSS := zz hss;obtain ⟨va,vc,rfl⟩ := hcl.outer.shape;clear hb2 hcl hss) | (refine zLd 37 HWB.out #[.slice aj nj cj, .slice al nl cl] zuC ?_) | (go_at_call 20;refine (HWK.out _ HB0.out).mono ?_;rintro e w3 ⟨xv,rfl,hxl,hb3⟩;replace HWB := zz (HWB.out.belowAll hb3);replace HB0 := hTr HB0 hb3;replace HCL := zz (HCL.out.belowAll hb3);have HXL := zz hxl;obtain ⟨xa,xc,rfl⟩ := hxl.shape;clear hb3 hxl))
  go_ret;exact ⟨by simp,HB0.out⟩
 subst h0;obtain ⟨_,_,fr,A,rfl,rfl,hC2,hX1,hCt,hXg,hXd,hCX⟩ := HGD.out rfl;have HXG := zz hXg;have HXD := zz hXd;have HCX := zz hCX;have HCT := zz hCt;clear hXg hXd hCX hCt HGD
 go_wp2_with (first
  | (go_at_call 9;refine (zEl _).mono ?_;rintro e w1 ⟨rfl,hb1⟩;replace HWB := zz (HWB.out.belowAll hb1);replace HB0 := hTr HB0 hb1;clear hb1;have q0 := (HWB.out.cell 0).trans (show _ = some (.slice aj nj cj) from rfl);have q1 := (HWB.out.cell 1).trans (show _ = some (.slice al nl cl) from rfl))
  | (refine zLd 32 HWB.out #[.slice aj nj cj, .slice al nl cl] zuC ?_) | (go_at_call 12;refine (HCA.out _ HB0.out).mono ?_;rintro e w2 ⟨cv,ss,rfl,hcl,hss,hb2⟩;replace HWB := zz (HWB.out.belowAll hb2);replace HB0 := hTr HB0 hb2;have HCL := zz hcl;have HSS := zz hss;obtain ⟨va,vc,rfl⟩ := hcl.outer.shape;clear hb2 hcl hss) | (refine zLd 37 HWB.out #[.slice aj nj cj, .slice al nl cl] zuC ?_) | (go_at_call 20;refine (HWK.out _ HB0.out).mono ?_;rintro e w3 ⟨xv,rfl,hxl,hb3⟩;replace HWB := zz (HWB.out.belowAll hb3);replace HB0 := hTr HB0 hb3;replace HCL := zz (HCL.out.belowAll hb3);have HXL := zz hxl;obtain ⟨xa,xc,rfl⟩ := hxl.shape;clear hb3 hxl))
 obtain ⟨nC,hn7⟩ : ∃ n,ss.length = n := ⟨_,rfl⟩
 have HNC : Hid (C.length = nC) := zz (by rw [← HSS.out,List.length_map];exact hn7);obtain ⟨nX,hn8⟩ : ∃ n,X.length = n := ⟨_,rfl⟩
 have HNX := zz hn8;simp only [hn7,hn8] at HCL HCX HXL hX1 ⊢;clear hn7 hn8;have hC3 : nC ≤ 200 := by rw [← HNC.out];exact hC2
 have HR0 : Hid (Below w3.heap.size w3 w3) := zz (Below.refl _ _);obtain ⟨J,hJ⟩ : ∃ J : Nat → Nat,∀ i,((C.take i).map (·.length)).sum = J i := ⟨_,fun _ => rfl⟩
 have HJ := zz hJ;have HJN : Hid (J nC = nj) := zz (by rw [← hJ,List.take_of_length_le (by rw [HNC.out];exact Nat.le_refl _)];exact HCT.out);have HJL : Hid (∀ i,J i ≤ nj) := zz fun i => by rw [← hJ,← HCT.out];exact len_take_le C i
 clear hJ
 go_loopw [8,9] (fun jv iv wr => ∃ i : Nat,i ≤ nC ∧ iv = .int .i64 i ∧ jv = .int .i64 ((J i : Nat) : Int) ∧ Hid (Below w3.heap.size w3 wr)) (fun _ iv _ => nC - (intOf iv).toNat)
 case atStart => exact ⟨0,Nat.zero_le _,rfl,by rw [← HJ.out];rfl,HR0⟩
 case round =>
  obtain ⟨i,hi,rfl,rfl,HW0⟩ := hrel
  by_cases hlt : i < nC
  ·obtain ⟨c,hc⟩ : ∃ c,C[i]? = some c := ⟨_,List.getElem?_eq_getElem (by rw [HNC.out];exact hlt)⟩
   have hcm := List.mem_of_getElem? hc;obtain ⟨g1,cap1,ca,cc,e,hg1,hq1,hoc⟩ := HCL.out.place (by rw [HSS.out];exact hc);simp only [Value.slice.injEq] at e;obtain ⟨rfl,_,rfl⟩ := e;have HQC : Hid (∀ W,Below w3.heap.size w3 W → W.cell? ⟨g1,i,none⟩ = some (.slice ca c.length cc)) := zz fun W hW => (hW.cell (p := ⟨g1,i,none⟩) hg1).trans hq1;have HJS : Hid (J (i + 1) = J i + c.length) := zz (by rw [← HJ.out,← HJ.out];exact len_take hc);have hcl : J i + c.length ≤ 40 := by have h1 := HJL.out (i + 1);rw [HJS.out] at h1;omega
   have HAL : Hid (∀ y,Det 19 #[.slice ca c.length cc, .int .i64 y] (.bool (c.contains y)) w3) := zz fun y => among_det ca cc c y w3 (hoc.okSl (fun _ => rfl) (fun _ _ _ => True) (fun _ _ => trivial) (by omega)) (by omega);obtain ⟨ow,how⟩ : ∃ f : Nat → Nat,∀ k,ownN X (fun x => c.contains (fr x)) k = f k := ⟨_,fun _ => rfl⟩
   obtain ⟨su,hsu⟩ : ∃ f : Nat → Int,∀ k,ownS X (fun x => c.contains (fr x)) A k = f k := ⟨_,fun _ => rfl⟩
   obtain ⟨op,hop⟩ : ∃ f : Nat → Nat,∀ k,ownO X (fun x => c.contains (fr x)) A k = f k := ⟨_,fun _ => rfl⟩
   have HYS : Hid (∀ k x,X[k]? = some x → c.contains (fr x) = true → ow (k + 1) = ow k + 1 ∧ su (k + 1) = su k + A x ∧ op (k + 1) = op k + (decide (A x ≤ 0)).toNat) := zz fun k x hx hp => by
    simp only [← how,← hsu,← hop];exact own_yes X _ A hx hp
   have HNS : Hid (∀ k x,X[k]? = some x → c.contains (fr x) = false → ow (k + 1) = ow k ∧ su (k + 1) = su k ∧ op (k + 1) = op k) := zz fun k x hx hp => by
    simp only [← how,← hsu,← hop];exact own_no X _ A hx hp
   have HSM : Hid (∀ k,ow k ≤ k ∧ op k ≤ k ∧ -(33554432000 * (k : Int)) ≤ su k ∧ su k ≤ 33554432000 * k) := zz fun k => by
    simp only [← how,← hsu,← hop];exact own_small X _ A 33554432000 (fun x hx => (HXG.out x hx).2.2) (by decide) k
   have HFIN : Hid (0 < ow nX → su nX = 0 ∧ op nX = 1) := zz (by
    have h1 := HCX.out c hcm;simp only [how,hsu,hop] at h1;exact h1)
   have H0 : Hid (ow 0 = 0 ∧ su 0 = 0 ∧ op 0 = 0) := zz (by rw [← how,← hsu,← hop];exact ⟨rfl,rfl,rfl⟩);have q2 := HQC.out wr HW0.out;clear hc hcm hq1 hoc hg1 how hsu hop;go_wp2
   go_loopw [10,11,12,13] (fun sv ov nv kv wr2 => ∃ k : Nat,k ≤ nX ∧ kv = .int .i64 k ∧ sv = .int .i64 (su k) ∧ ov = .int .i64 ((op k : Nat) : Int) ∧ nv = .int .i64 ((ow k : Nat) : Int) ∧ Hid (Below w3.heap.size w3 wr2)) (fun _ _ _ kv _ => nX - (intOf kv).toNat)
   case atStart => exact ⟨0,Nat.zero_le _,rfl,by rw [H0.out.2.1],by rw [H0.out.2.2];rfl,by rw [H0.out.1];rfl,HW0⟩
   case round =>
    clear q2;obtain ⟨k,hk,rfl,rfl,rfl,rfl,HW⟩ := hrel
    by_cases hlt2 : k < nX
    ·obtain ⟨x,hx⟩ : ∃ x,X[k]? = some x := ⟨_,List.getElem?_eq_getElem (by rw [HNX.out];exact hlt2)⟩
     have hxm := List.mem_of_getElem? hx;obtain ⟨h1,h2,h3,h4⟩ := HXG.out x hxm;obtain ⟨g,cap,⟨sa,sc,sv⟩,e,_,hg,hq,hsv,hos⟩ := HXL.out.place hx;simp only [Value.slice.injEq] at e;obtain ⟨rfl,_,rfl⟩ := e;simp only at hq hos hsv;obtain ⟨s,hs⟩ : ∃ s,x[0]? = some s := ⟨_,List.getElem?_eq_getElem h1⟩
     obtain ⟨g2,c2,e,_,hg2,hcy⟩ := OwnL.cellOf (enc := zAa) (sz := 2) (fun _ => rfl) hos hs;simp only [Value.slice.injEq,true_and] at e;obtain ⟨rfl,rfl⟩ := e;have HCY : Hid (∀ W,Below w3.heap.size w3 W → ∀ j,j < (zAa s).size → W.cell? ⟨g2,0 + j,none⟩ = (zAa s)[j]?) := zz fun W hW j hj => by
      rw [hW.cell (p := ⟨g2,0 + j,none⟩) hg2];have := hcy j hj;rwa [Nat.zero_mul] at this
     obtain ⟨⟨jp,jq,hen⟩,har⟩ := HXD.out x hxm s hs;have hyes := HYS.out k x hx;have hno := HNS.out k x hx;obtain ⟨m,hm⟩ : ∃ m,x.length = m := ⟨_,rfl⟩
     rw [hm] at hq h1;have HQX : Hid (∀ W,Below w3.heap.size w3 W → W.cell? ⟨g,k,none⟩ = some (.slice (some ⟨g2,0,none⟩) m sc)) := zz fun W hW => (hW.cell (p := ⟨g,k,none⟩) hg).trans hq;obtain ⟨fx,hfx⟩ : ∃ f,fr x = f := ⟨_,rfl⟩
     obtain ⟨ax,hax⟩ : ∃ f,A x = f := ⟨_,rfl⟩
     obtain ⟨b,hb⟩ : ∃ b,c.contains fx = b := ⟨_,rfl⟩
     rw [hfx] at hen hyes hno;rw [hax] at har hyes h3 h4;rw [hb] at hyes hno;have HEN := zz (hen.moved HB0.out);have HAR := zz (har.moved HB0.out);have ham := HAL.out fx;rw [hb] at ham;have HAM := zz ham;have HYE := zz hyes;have HNO := zz hno;obtain ⟨s1,s2,s3,s4⟩ := HSM.out k;have hm0 : ¬ m = 0 := by omega
     have HWR := zz (HWB.out.belowAll HW.out);have q3 := HQX.out wr HW.out;have HK2 : Hid (IntKind.i64.wrap (((ow k : Nat) : Int) + 1) = ((ow k + 1 : Nat) : Int)) := zz (by rw [IntWalk.i64_in _ (by omega)];omega);have HK3 : Hid (IntKind.i64.wrap (su k + ax) = su k + ax) := zz (by rw [IntWalk.i64_in _ (by omega)]);have HK4 : Hid (IntKind.i64.wrap (((op k : Nat) : Int) + 1) = ((op k + 1 : Nat) : Int)) := zz (by rw [IntWalk.i64_in _ (by omega)];omega);clear hx hxm hg hq hsv hos hs hcy hg2 hm hfx hax hb hen har ham hyes hno h2 s1 s2 s3 s4 h3 h4
     go_upto_region 21 with (fail)
     clear q3;refine zGA [0,1,2,3,4,5,6,7,8,9,10,11] [10,11] [(12,14),(13,15)] (fun _ => (48,#[.int .i64 0, .int .i64 0, .int .i64 0])) [(14,false),(15,false),(16,false)] rfl (by kernel_rfl) (fun d _ _ _ _ h => by cases d <;> exact h) (by intro k hk K a w h;simp only [List.mem_cons,List.not_mem_nil,or_false] at hk;rcases hk with rfl | rfl <;> exact wpOp_box _ rfl (by kernel_rfl) h) ?_;refine zC9 (v := _) rfl rfl (fun W hW => zAf _ (HWR.out.drew.belowAll hW) rfl (zAr _) zuC) ?_;simp only [pT];iterate 3 (refine wD rfl ?_;simp only [pT])
     refine zC9 (v := .slice (some ⟨g2,0,none⟩) m sc) rfl rfl (fun W hW => by have e := HQX.out W (HW.out.drew.trans (hW.mono HW.out.drew.size));go_simp;try with_reducible rfl) ?_;simp only [pT]
     (refine wD rfl ?_;simp only [pT])
     refine zC9 (v := .agg (zAa s)) rfl rfl (fun W hW => zA3 (zAa s) (HCY.out W (HW.out.drew.trans (hW.mono HW.out.drew.size))) rfl zuA) ?_;simp only [pT];refine wpD_call _ _ _ rfl rfl (fun W => by go_simp;try with_reducible rfl) (HEN.out.moved HW.out.drew) ?_;simp only [pT];iterate 4 (refine wD rfl ?_;simp only [pT])
     intro f W1 HW1 hf hi;simp only [zB8,zCg,pT];refine zDh [75,76,77,78,79,80,81,82,74] fun u => ?_;simp only [zDg,pT];have h14 := hf (12,14) (by simp);have h15 := hf (13,15) (by simp);have hn12 : f 12 ≠ f 13 := fun e => by have := hi (12,14) (by simp) (13,15) (by simp) e;simp at this
     simp only at h14 h15;obtain ⟨j1,hj1⟩ : ∃ j,f 12 = j := ⟨_,rfl⟩
     obtain ⟨j2,hj2⟩ : ∃ j,f 13 = j := ⟨_,rfl⟩
     simp only [hj1,hj2] at h14 h15 hn12 ⊢;obtain ⟨l1,b1⟩ := h14;obtain ⟨l2,b2⟩ := h15;clear hf hi hj1 hj2 f;refine wpS_store b1 rfl rfl (.agg (zAg ⟨fx,jp⟩)) rfl (by kernel_rfl) (by rfl) (zAU _) fun W2 hb2 ht2 => ?_;refine wpS_store (b2.turn ht2 (by omega)) rfl rfl (.agg (zAg jq)) rfl (by kernel_rfl) (by rfl) (zAU _) fun W3 hb3 ht3 => ?_;have HJA := zz ((hb2.turn ht3 (by omega)).eqv (cs' := zAg ⟨fx,jp⟩) (by simp [zAF,zAg,Value.cells]));refine wpS_val rfl rfl (by go_simp;with_reducible rfl) ?_;simp only [pT];simp only [wpS];have HW3 := (HW1.trans (ht2.below l1)).trans (ht3.below l2);clear hb2 ht2 hb3 ht3 b1 b2 l1 l2 hn12 HW1 W2;replace HW := zz (HW.out.drew.trans (HW3.mono HW.out.drew.size));clear HW3 HWR
     go_upto_region 22 with (fail)
     refine rgD [0,1,2,3,4,5,6,7,8,9,10,11] [] (fun _ => (0,#[])) [] ?_;iterate 3 (refine wD rfl ?_;simp only [pT])
     iterate 3 (refine wI rfl ?_;simp only [pT])
     refine wpD_if (v := .slice ca c.length cc) rfl rfl (fun hg W hW => by (try simp only [Bool.and_eq_true] at hg);(try simp only [hg,Bool.and_self,ifB_true]);have e := HQC.out W (HW.out.drew.trans (hW.mono HW.out.drew.size));go_simp;try with_reducible rfl) ?_;simp only [pT]
     (refine wI rfl ?_;simp only [pT])
     refine wpD_if (v := _) rfl rfl (fun hg W hW => by (try simp only [Bool.and_eq_true] at hg);(try simp only [hg,Bool.and_self,ifB_true]);have e := (HJA.out.drew.belowAll hW).cell;go_simp;with_reducible rfl) ?_;simp only [pT];refine wpD_ifcall _ _ _ rfl rfl (fun hg W => by go_simp;try with_reducible rfl) (fun hg => HAM.out.moved HW.out.drew) ?_;simp only [pT]
     (refine wI rfl ?_;simp only [pT])
     refine wpD_or rfl rfl rfl ?_;simp only [pT];intro f W1 HW1 h1 h2;simp only [zB8];clear h1 h2 f;refine zDh [86,87,88,89,90,91,92,93,94,95,96] fun u => ?_;simp only [zDg,pT];simp only [wpS];replace HW := zz (HW.out.drew.trans (HW1.mono HW.out.drew.size));clear HW1 HJA
     cases b
     case false =>
      obtain ⟨n1,n2,n3⟩ := HNO.out rfl;go_wp2;go_roundw
      case rel => exact ⟨k + 1,by omega,by go_num,by rw [n2],by rw [n3],by rw [n1],HW⟩
      case measure => simp [intOf];omega
     case true =>
      obtain ⟨n1,n2,n3⟩ := HYE.out rfl;have N1 := zz n1;have N2 := zz n2;have N3 := zz n3;clear n1 n2 n3;have HWR := zz (HWB.out.belowAll HW.out)
      go_upto_region 23 with (fail)
      refine rgD [0,1,2,3,4,5,6,7,8,9,10,11,12] [] (fun _ => (0,#[])) [] ?_;refine zC9 (v := _) rfl rfl (fun W hW => zAf _ (HWR.out.drew.belowAll hW) rfl (zAr _) zuC) ?_;simp only [pT];iterate 3 (refine wD rfl ?_;simp only [pT])
      refine zC9 (v := .slice (some ⟨g2,0,none⟩) m sc) rfl rfl (fun W hW => by have e := HQX.out W (HW.out.drew.trans (hW.mono HW.out.drew.size));go_simp;try with_reducible rfl) ?_;simp only [pT]
      (refine wD rfl ?_;simp only [pT])
      refine zC9 (v := .agg (zAa s)) rfl rfl (fun W hW => zA3 (zAa s) (HCY.out W (HW.out.drew.trans (hW.mono HW.out.drew.size))) rfl zuA) ?_;simp only [pT];refine wpD_call _ _ _ rfl rfl (fun W => by go_simp;try with_reducible rfl) (HAR.out.moved HW.out.drew) ?_;simp only [pT];iterate 5 (refine wD rfl ?_;simp only [pT])
      intro f W1 HW1 h1 h2;simp only [zB8];clear h1 h2 f;refine zDh [99,100,101,102,103,104,105,106,98,107,108] fun u => ?_;simp only [zDg,pT];simp only [wpS];replace HW := zz (HW.out.drew.trans (HW1.mono HW.out.drew.size));clear HW1 HWR;have k2 := HK2.out;have k3 := HK3.out;have k4 := HK4.out
      by_cases hA : ax ≤ 0
      ·go_wp2;go_roundw
       case rel => exact ⟨k + 1,by omega,by go_num,by rw [N2.out],by rw [N3.out,decide_eq_true hA];try go_num,by rw [N1.out];try go_num,HW⟩
       case measure => simp [intOf];omega
      ·go_wp2;go_roundw
       case rel => exact ⟨k + 1,by omega,by go_num,by rw [N2.out],by rw [N3.out,decide_eq_false hA];try go_num,by rw [N1.out];try go_num,HW⟩
       case measure => simp [intOf];omega
    ·have hkn : k = nX := by omega
     subst hkn
     by_cases hO : 0 < ow k
     ·obtain ⟨z1,z2⟩ := HFIN.out hO;rw [z1,z2];go_wp2;go_roundw
      case rel => exact ⟨i + 1,by omega,by go_num,by rw [HJS.out];try go_num,HW⟩
      case measure => simp [intOf];omega
     ·go_wp2;go_roundw
      case rel => exact ⟨i + 1,by omega,by go_num,by rw [HJS.out];try go_num,HW⟩
      case measure => simp [intOf];omega
  ·have hin : i = nC := by omega
   subst hin;rw [HJN.out];have q5 := ((HWB.out.belowAll HW0.out).cell 0).trans (show _ = some (.slice aj nj cj) from rfl);go_wp2;go_ret;exact ⟨by simp,HB0.out.trans (HW0.out.mono HB0.out.size)⟩
theorem wareas_big (aj al : Option Addr) (nj cj nl cl : Nat) (w : World) (hbig : 40 < nj ∨ 60 < nl) :
  Calls Tryz.prog 6 #[.agg #[.slice aj nj cj, .slice al nl cl]] w fun e w' => e = .returned (.bool true) ∧ Below w.heap.size w w' := by
 obtain ⟨HB0,HWB⟩ := zP1 w #[.slice aj nj cj, .slice al nl cl] 25;go_enter Tryz.func6,Tryz.ntmps6
 by_cases h1 : 40 < nj
 ·go_wp2_with (first
   | (go_at_call 9;refine (zEl _).mono ?_;rintro e w1 ⟨rfl,hb1⟩;replace HWB := zz (HWB.out.belowAll hb1);replace HB0 := hTr HB0 hb1;clear hb1;have q0 := (HWB.out.cell 0).trans (show _ = some (.slice aj nj cj) from rfl);have q1 := (HWB.out.cell 1).trans (show _ = some (.slice al nl cl) from rfl)))
  go_ret;exact ⟨rfl,HB0.out⟩
 ·have h2 : 60 < nl := by omega
  clear hbig
  go_wp2_with (first
   | (go_at_call 9;refine (zEl _).mono ?_;rintro e w1 ⟨rfl,hb1⟩;replace HWB := zz (HWB.out.belowAll hb1);replace HB0 := hTr HB0 hb1;clear hb1;have q0 := (HWB.out.cell 0).trans (show _ = some (.slice aj nj cj) from rfl);have q1 := (HWB.out.cell 1).trans (show _ = some (.slice al nl cl) from rfl)))
  go_ret;exact ⟨rfl,HB0.out⟩
end Go.Proofs.YtcebcklecmppnaaGreat
