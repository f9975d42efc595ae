/-
  The reference's around: the sides in order.
  The reference's JointOf, LeadOf, Ends, Flange, Around.
  The reference's Ends, Flange, Around.
-/
import Derived.Test.YtbbblemfodpmaaaGreatWebGx
import Derived.Test.YtbbblemfodpmaaaGreatWebGv
import Derived.Test.YtbbblemfodpmaaaGreatWebGm
set_option linter.unusedVariables false
set_option linter.unusedSimpArgs false
set_option maxHeartbeats 16000000
set_option maxRecDepth 100000
section
namespace Go.Proofs.YtbbblemfodpmaaaGreat
open Go.RowKit
theorem cutSide : CutT 62 2 := cutT (e := 59) (by kernel_rfl) (by kernel_rfl) (by kernel_rfl)
theorem insB_at {α : Type} {lt : α → α → Bool} {x : α} : ∀ {l : List α} {q : Nat},(l.take q).all (lt · x) = true → (∀ y,l[q]? = some y → lt y x = false) → insB lt x l = l.take q ++ [x] ++ l.drop q
 | [],q,_,_ => by simp [insB]
 | y :: r,0,_,h => by
  have := h y rfl
  simp [insB,this]
 | y :: r,q + 1,h1,h2 => by
  simp only [List.take_succ_cons,List.all_cons,Bool.and_eq_true] at h1
  have ih := insB_at (lt := lt) (x := x) (l := r) (q := q) h1.2 (fun z hz => h2 z (by simpa using hz))
  simp only [insB,h1.1,if_true,ih,List.take_succ_cons,List.drop_succ_cons,List.cons_append]
theorem ar_len (js : List Joint) (ls : List Lead) (j : Int) : ∀ (m : List Lead) (acc : List Side),(m.foldl (zBl js ls j) acc).length ≤ acc.length + m.length
 | [],acc => by simp
 | x :: m,acc => by
  have := ar_len js ls j m (zBl js ls j acc x)
  have h : (zBl js ls j acc x).length ≤ acc.length + 1 := by
   unfold zBl
   split
   ·omega
   ·have := (zDy (befR js ls) ⟨x.id,decide (x.b = j)⟩ acc).length_eq
    simp only [List.length_cons] at this
    omega
  simp only [List.foldl_cons,List.length_cons]
  omega
theorem ValidW.around_mem {js : List Joint} {ls : List Lead} (V : ValidW js ls) (j : Int) {k : Nat} {s : Side} (h : s ∈ (ls.take k).foldl (zBl js ls j) []) : s ∈ zAx j ls := by
 have key : ∀ (m l : List Lead),l ++ m = ls → (l.foldl (zBl js ls j) []).Perm (zAx j l) := fun m => by
  intro l e
  have : ∀ (l2 l1 : List Lead),(∀ x ∈ l2,x ∈ ls) → (l1.foldl (zBl js ls j) []).Perm (zAx j l1) → ((l1 ++ l2).foldl (zBl js ls j) []).Perm (zAx j (l1 ++ l2)) := fun l2 => by
   induction l2 with
   | nil => intro l1 _ h;simpa using h
   | cons x l2 ih =>
    intro l1 hx h
    have hab : x.a ≠ x.b := by obtain ⟨_,_,_,_,_,_,h,_,_⟩ := V.ends (hx x (by simp));exact h
    have h2 := ih (l1 ++ [x]) (fun y hy => hx y (by simp [hy])) (by
     rw [List.foldl_append,zCz,zF5 hab]
     show (zBl js ls j _ x).Perm _
     generalize l1.foldl (zBl js ls j) [] = out at h ⊢
     unfold zBl
     by_cases hc : x.a ≠ j ∧ x.b ≠ j
     ·rw [if_pos hc,if_pos hc,List.append_nil];exact h
     ·rw [if_neg hc,if_neg hc]
      exact (zDy _ _ _).trans ((List.perm_append_singleton _ _).symm.trans (h.append_right _)))
    rwa [List.append_assoc] at h2
  exact this l [] (fun x hx => by rw [← e];exact List.mem_append_left _ hx) (.refl _)
 have h2 := (key (ls.drop k) (ls.take k) (List.take_append_drop k ls)).mem_iff.1 h
 have : zAx j ls = zAx j (ls.take k) ++ zAx j (ls.drop k) := by rw [← zCz,List.take_append_drop]
 rw [this];exact List.mem_append_left _ h2
theorem ValidW.side_ok {js : List Joint} {ls : List Lead} (V : ValidW js ls) {s : Side} (h : zAS ls s) : (zBh ls s.lead).isSome = true ∧ (atA js (zAs ls s).1).isSome = true ∧ (atA js (zAs ls s).2).isSome = true := by
 obtain ⟨l,hl,e⟩ := h
 obtain ⟨a1,a2,_⟩ := zDj (V.lok l hl)
 obtain ⟨sl,sb⟩ := s
 simp only at e
 subst e
 rw [V.sideEnds hl,V.lead hl]
 cases sb
 ·exact ⟨rfl,a1,a2⟩
 ·exact ⟨rfl,a2,a1⟩
theorem zGW {js : List Joint} {ls : List Lead} (h : ∀ id,zAI (ptA js id)) (s : Side) : smallD (dirR js ls s) := by
 obtain ⟨a1,a2,a3,a4⟩ := h (zAs ls s).1
 obtain ⟨b1,b2,b3,b4⟩ := h (zAs ls s).2
 unfold smallD dirR
 simp only
 omega
theorem around_any (sj : Sl Joint) (sl : Sl Lead) (j : Int) (w : World) (hj : sj.OK 3 zAh zAu (fun _ => False) w) (hl : sl.OK 8 zAf zAB (fun _ => False) w) (V : ValidW sj.val sl.val) :
  Calls Tryz.prog 98 #[.agg #[.slice sj.a sj.val.length sj.cap, .slice sl.a sl.val.length sl.cap], .int .i64 j] w fun e w' => ∃ v,e = .returned v ∧ OwnL zAa 2 w' w.heap.size 59 v (aroundR sj.val sl.val j) ∧ Below w.heap.size w w' := by
 have hsp : ∀ id,zAI (ptA sj.val id) := zEN fun j hm => (V.jok j hm).2
 have HSP := zz hsp
 have HV := zz V
 have HDT : Hid (∀ s,zAS sl.val s → Det 162 #[.agg #[.slice sj.a sj.val.length sj.cap, .slice sl.a sl.val.length sl.cap], .agg (zAa s)] (.agg (zAb (dirR sj.val sl.val s))) w) := zz fun s h => rdir_det sj sl s w hj hl (V.side_ok h).1 (V.side_ok h).2.1 (V.side_ok h).2.2 hsp
 have hnl := V.nl
 have HL := zz hl
 have HB0 : Hid (Below w.heap.size w (w.alloc (.cells #[.slice sj.a sj.val.length sj.cap, .slice sl.a sl.val.length sl.cap] 25))) := zz (((Lays.refl w).alloc _).below (Nat.le_refl _))
 have HWB : Hid (zAc (w.alloc (.cells #[.slice sj.a sj.val.length sj.cap, .slice sl.a sl.val.length sl.cap] 25)) (w.heap.size) 25 #[.slice sj.a sj.val.length sj.cap, .slice sl.a sl.val.length sl.cap]) := zz (zAc.new w 25 #[.slice sj.a sj.val.length sj.cap, .slice sl.a sl.val.length sl.cap])
 clear hsp V hj hl
 obtain ⟨aj,cj,js⟩ := sj
 obtain ⟨al,cl,ls⟩ := sl
 obtain ⟨n,hn⟩ : ∃ n,ls.length = n := ⟨_,rfl⟩
 obtain ⟨nj,hnj⟩ : ∃ n,js.length = n := ⟨_,rfl⟩
 have HN := zz hn
 simp only [hn,hnj] at hnl HB0 HWB HDT ⊢
 clear hn hnj
 obtain ⟨R,hR⟩ : ∃ R,aroundR js ls j = R := ⟨_,rfl⟩
 have HR : Hid (R = (ls.take n).foldl (zBl js ls j) []) := zz (by rw [← hR,List.take_of_length_le (by rw [HN.out];exact Nat.le_refl _)];rfl)
 simp only [hR]
 clear hR
 go_enter Tryz.func98,Tryz.ntmps98
 go_wp2
 go_loopw [5,6] (fun v i wr => ∃ k : Nat,k ≤ n ∧ i = .int .i64 k ∧ Hid (OwnL zAa 2 wr w.heap.size 59 v ((ls.take k).foldl (zBl js ls j) [])) ∧ Hid (Below w.heap.size w wr ∧ zAc wr w.heap.size 25 #[.slice aj nj cj, .slice al n cl])) (fun _ i _ => n - (intOf i).toNat)
 case atStart => exact ⟨0,Nat.zero_le _,rfl,zz (OwnL.nil _ _ _ _ _),zz ⟨HB0.out,HWB.out⟩⟩
 case round =>
  obtain ⟨k,hk,rfl,HOV,HW⟩ := hrel
  have q0 := (HW.out.2.cell 1).trans (show _ = some (.slice al n cl) from rfl)
  have hlen : ((ls.take k).foldl (zBl js ls j) []).length ≤ k := by have := ar_len js ls j (ls.take k) [];simp only [List.length_nil,List.length_take] at this;omega
  have HMEM : Hid (∀ s ∈ (ls.take k).foldl (zBl js ls j) [],s ∈ zAx j ls) := zz fun s hs => HV.out.around_mem j hs
  have HSTEP : Hid (∀ x,ls[k]? = some x → (ls.take (k + 1)).foldl (zBl js ls j) [] = zBl js ls j ((ls.take k).foldl (zBl js ls j) []) x) := zz fun x hx => by rw [List.take_add_one,hx,List.foldl_append];rfl
  by_cases hlt : k < n
  ·obtain ⟨x,hx⟩ : ∃ x,ls[k]? = some x := ⟨_,List.getElem?_eq_getElem (by rw [HN.out];exact hlt)⟩
   obtain ⟨bb,o,e,hc⟩ := HL.out.elemAt (fun _ => rfl) hx
   simp only at e
   subst e
   have HEX := zz hc
   have HXM := zz (List.mem_of_getElem? hx)
   have HST := zz (HSTEP.out x hx)
   replace HB0 := zz HW.out.1
   have HWB := zz HW.out.2
   obtain ⟨l,hl⟩ : ∃ l,(ls.take k).foldl (zBl js ls j) [] = l := ⟨_,rfl⟩
   simp only [hl] at HOV hlen HMEM HST
   clear hc hx HW hl HSTEP
   obtain ⟨b1,h1⟩ : ∃ b,(x.a != j) = b := ⟨_,rfl⟩
   obtain ⟨b2,h2⟩ : ∃ b,(x.b != j) = b := ⟨_,rfl⟩
   have E1 := zz h1
   have E2 := zz h2
   have HARS : Hid (zBl js ls j l x = if (b1 && b2) = true then l else insB (befR js ls) ⟨x.id,x.b == j⟩ l) := zz (by rw [← h1,← h2];unfold zBl;simp only [bne_iff_ne,ne_eq,Bool.and_eq_true];rfl)
   have hb12 : (b1 && b2) = false → (⟨x.id,x.b == j⟩ : Side) ∈ zAx j ls := fun h => by
    rw [← h1,← h2] at h
    refine zD1.2 ⟨x,HXM.out, ?_⟩
    by_cases hb : x.b = j
    ·right;simp [hb]
    ·left
     have : x.a = j := by simpa [hb] using h
     simp [this,hb]
   have HB12 := zz hb12
   clear h1 h2 hb12
   go_upto_region 5 with (fail)
   refine zBv [0,1,2,3,4] [(5,7)] (fun _ => (31,#[.int .i64 0, .int .i64 0, .int .i64 0, .int .i64 0, .int .i64 0, .int .i64 0, .int .i64 0, .int .i64 0])) [(6,false)] (by kernel_rfl) (fun d _ _ _ _ h => by cases d <;> exact h) (by intro k hk K a w h;simp only [List.mem_cons,List.not_mem_nil,or_false] at hk;rcases hk with rfl <;> exact zB1 _ rfl (by kernel_rfl) h) ?_
   (refine wD rfl rfl ?_;simp only [pT])
   refine zAm (v := _) rfl rfl (fun W hW => by have e := (HWB.out.belowAll hW).cell;go_simp;with_reducible rfl) ?_;simp only [pT]
   iterate 2 (refine wD rfl rfl ?_;simp only [pT])
   refine zAm (v := _) rfl rfl (fun W hW => zAy _ (HEX.out W (HB0.out.trans (hW.mono HB0.out.size))) rfl Tryz.underlying31) ?_;simp only [pT]
   intro f W1 HW1 hf hi
   simp only [zAQ,zBm,pT]
   have hf0 := hf (5,7) (by simp)
   simp only at hf0
   obtain ⟨jx,hj⟩ : ∃ j,f 5 = j := ⟨_,rfl⟩
   simp only [hj] at hf0 ⊢
   obtain ⟨hfl,hfb⟩ := hf0
   clear hf hi hj f
   refine zAw [18,19,20,21] fun u => ?_;simp only [zAD,pT]
   refine zBJ hfb rfl rfl (.agg (zAf x)) rfl (by kernel_rfl) (by rfl) (zAU _) fun W2 hb2 ht2 => ?_
   have HX := zz (hb2.eqv (cs' := zAf x) (by simp [zAv,zAf,Value.cells]))
   have HW2 := HW1.trans (ht2.below hfl)
   simp only [wpS]
   clear hb2 ht2 hfl hfb HW1 W1
   replace HB0 := zz (HB0.out.trans (HW2.mono HB0.out.size))
   replace HWB := zz (HWB.out.belowAll HW2)
   replace HOV := zz (HOV.out.belowAll HW2)
   clear HW2
   go_upto_region 6 with (fail)
   refine rgR [0,1,2,3,4,5,6,7,8,9] [] (fun _ => (0,#[])) [] ?_
   (refine wD rfl rfl ?_;simp only [pT])
   refine zAm (v := _) rfl rfl (fun W hW => by have e := (HX.out.belowAll hW).cell;go_simp;with_reducible rfl) ?_;simp only [pT]
   (refine wD rfl rfl ?_;simp only [pT])
   refine zAm (v := .bool b1) rfl rfl (fun W hW => by have e := (HX.out.belowAll hW).cell;go_simp;exact E1.out) ?_;simp only [pT]
   (refine wD rfl rfl ?_;simp only [pT])
   (refine wI rfl rfl ?_;simp only [pT])
   refine zAH (v := _) rfl rfl (fun hg W hW => by (try simp only [Bool.and_eq_true] at hg);(try simp only [hg,Bool.and_self,zAJ]);have e := (HX.out.belowAll hW).cell;go_simp;with_reducible rfl) ?_;simp only [pT]
   (refine wI rfl rfl ?_;simp only [pT])
   refine zAH (v := .bool b2) rfl rfl (fun hg W hW => by (try simp only [Bool.and_eq_true] at hg);(try simp only [hg,Bool.and_self,zAJ]);have e := (HX.out.belowAll hW).cell;go_simp;exact E2.out) ?_;simp only [pT]
   refine zCb rfl rfl rfl ?_;simp only [pT]
   intro f W1 HW1 h1 h2;simp only [zAQ];clear h1 h2 f
   refine zAw [23,24,25,26,27,28,29,30,31] fun u => ?_;simp only [zAD,pT]
   simp only [wpS]
   replace HB0 := zz (HB0.out.trans (HW1.mono HB0.out.size))
   replace HWB := zz (HWB.out.belowAll HW1)
   replace HOV := zz (HOV.out.belowAll HW1)
   replace HX := zz (HX.out.belowAll HW1)
   clear HW1
   obtain ⟨q,hq⟩ : ∃ q,(b1 && b2) = q := ⟨_,rfl⟩
   simp only [hq] at HARS HB12 ⊢
   clear hq
   cases q
   case true =>
    rw [if_pos rfl] at HARS
    go_wp2
    go_roundw
    case rel => exact ⟨k + 1,by omega,by go_num,zz (by rw [HST.out,HARS.out];exact HOV.out),zz ⟨HB0.out,HWB.out⟩⟩
    case measure => simp [intOf];omega
   rw [if_neg (by decide)] at HARS
   obtain ⟨s0,hs0⟩ : ∃ s : Side,(⟨x.id,x.b == j⟩ : Side) = s := ⟨_,rfl⟩
   simp only [hs0] at HARS HB12
   have HS0 := zz hs0
   have HS0M : Hid (s0 ∈ zAx j ls) := zz (by simpa using HB12.out)
   clear hs0
   go_upto_region 7 with (fail)
   refine zBv [0,1,2,3,4,5,6] [(7,8)] (fun _ => (59,#[.int .i64 0, .bool false])) [(8,false)] (by kernel_rfl) (fun d _ _ _ _ h => by cases d <;> exact h) (by intro k hk K a w h;simp only [List.mem_cons,List.not_mem_nil,or_false] at hk;rcases hk with rfl <;> exact zB1 _ rfl (by kernel_rfl) h) ?_
   (refine wD rfl rfl ?_;simp only [pT])
   refine zAm (v := _) rfl rfl (fun W hW => by have e := (HX.out.belowAll hW).cell;go_simp;with_reducible rfl) ?_;simp only [pT]
   (refine wD rfl rfl ?_;simp only [pT])
   refine zAm (v := _) rfl rfl (fun W hW => by have e := (HX.out.belowAll hW).cell;go_simp;with_reducible rfl) ?_;simp only [pT]
   iterate 2 (refine wD rfl rfl ?_;simp only [pT])
   refine zAm (v := .agg (zAa s0)) rfl rfl (fun W hW => by go_simp;rw [← HS0.out];rfl) ?_;simp only [pT]
   intro f W1 HW1 hf hi
   simp only [zAQ,zBm,pT]
   have hf0 := hf (7,8) (by simp)
   simp only at hf0
   obtain ⟨j0,hj⟩ : ∃ j,f 7 = j := ⟨_,rfl⟩
   simp only [hj] at hf0 ⊢
   obtain ⟨hfl,hfb⟩ := hf0
   clear hf hi hj f
   refine zAw [33,34,35,36,37,38] fun u => ?_;simp only [zAD,pT]
   refine zBJ hfb rfl rfl (.agg (zAa s0)) rfl (by kernel_rfl) (by rfl) (zAp _) fun W2 hb2 ht2 => ?_
   have HSB := zz (hb2.eqv (cs' := zAa s0) (by simp [zAv,zAa,Value.cells]))
   have HW2 := HW1.trans (ht2.below hfl)
   simp only [wpS]
   clear hb2 ht2 hfl hfb HW1 W1
   replace HB0 := zz (HB0.out.trans (HW2.mono HB0.out.size))
   replace HWB := zz (HWB.out.belowAll HW2)
   replace HOV := zz (HOV.out.belowAll HW2)
   clear HW2
   obtain ⟨so,rfl,hsv,hso,_⟩ := HOV.out.sl (fun _ => rfl) (fun _ _ _ => True) (fun _ => False) (fun _ _ => trivial) (fun _ _ h => h) (by omega)
   have HSO := zz hso
   have HPP : ∃ pb po,0 < so.val.length → so.a = some ⟨pb,po,none⟩ := by
    cases h : so.a with
    | none => exact ⟨0,0,fun h0 => by rw [(hso.isNil h).1] at h0;simp at h0⟩
    | some p =>
     obtain ⟨pb,po,sp⟩ := p
     exact ⟨pb,po,fun h0 => by have := (hso.place _ h h0).1;simp only at this;rw [this]⟩
   obtain ⟨pb,po,hpa⟩ := HPP
   have hcap := hso.le
   obtain ⟨sa,sc,sv⟩ := so
   simp only at hsv hpa hcap
   subst hsv
   obtain ⟨m,hm⟩ : ∃ m,sv.length = m := ⟨_,rfl⟩
   have HM := zz hm
   simp only [Sl.v,hm] at hpa hlen hcap ⊢
   have HPA := zz hpa
   have HD0 := zz (HDT.out s0 (HV.out.of_leave HS0M.out).1)
   clear hso hpa hm q0
   have HWQ : Hid (Below W2.heap.size W2 W2) := zz (Below.refl _ _)
   go_wp2
   go_loopw [9] (fun i wr => ∃ q : Nat,q ≤ m ∧ i = .int .i64 q ∧ Hid ((sv.take q).all (fun y => befR js ls y s0) = true) ∧ Hid (Below W2.heap.size W2 wr)) (fun i _ => m - (intOf i).toNat)
   case atStart => exact ⟨0,Nat.zero_le _,rfl,zz (by simp),HWQ⟩
   case round =>
    obtain ⟨q,hq,rfl,HALL,HWR⟩ := hrel
    have HB2 : Hid (Below w.heap.size w wr.drew) := zz ((HB0.out.trans (HWR.out.mono HB0.out.size)).drew)
    have HWB2 := zz (HWB.out.belowAll HWR.out).drew
    have HSB2 := zz (HSB.out.belowAll HWR.out).drew
    obtain ⟨y,hy⟩ : ∃ y,(sv[q]?).getD default = y := ⟨_,rfl⟩
    have HY : Hid (q < m → sv[q]? = some y) := zz fun h => by rw [← hy,List.getElem?_eq_getElem (by rw [HM.out];exact h)];rfl
    have HYC : Hid (q < m → ∀ W,Below wr.drew.heap.size wr.drew W → ∀ j,j < (zAa y).size → W.cell? ⟨pb,po + q * 2 + j,none⟩ = (zAa y)[j]?) := zz fun h W hW => by
     obtain ⟨b3,o3,e,hc⟩ := HSO.out.elemAt (fun _ => rfl) (HY.out h)
     rw [HPA.out (by omega)] at e
     simp only [Option.some.injEq,Addr.mk.injEq,and_true] at e
     obtain ⟨rfl,rfl⟩ := e
     exact hc W (HWR.out.drew.trans (hW.mono HWR.out.size))
    have HDY : Hid (q < m → Det 162 #[.agg #[.slice aj nj cj, .slice (some ⟨bb,o,none⟩) n cl], .agg (zAa y)] (.agg (zAb (dirR js ls y))) w) := zz fun h => HDT.out y (HV.out.of_leave (HMEM.out y (List.mem_of_getElem? (HY.out h)))).1
    clear hy
    go_wp2
    refine rgD [0,1,2,3,4,5,6,7,8,9,10,11,12,13,14,15] [] (fun _ => (0,#[])) [] ?_
    iterate 5 (refine wD rfl rfl ?_;simp only [pT])
    refine zAH (v := _) rfl rfl (fun hg W hW => zAd _ (HWB2.out.belowAll hW) rfl (zAe _) Tryz.underlying25) ?_;simp only [pT]
    iterate 2 (refine wI rfl rfl ?_;simp only [pT])
    refine zAH (v := .pointer (some ⟨pb,po + q * 2,none⟩)) rfl rfl (fun hg W hW => by (try simp only [Bool.and_eq_true] at hg);(try simp only [hg,Bool.and_self,zAJ]);have h0 : q < m := (by simpa using hg);have h1 := HPA.out (by omega);simp only [h1];go_simp) ?_;simp only [pT]
    refine zAH (v := .agg (zAa y)) rfl rfl (fun hg W hW => by (try simp only [Bool.and_eq_true] at hg);(try simp only [hg,Bool.and_self,zAJ]);exact zAy (zAa y) (HYC.out (by simpa using hg) W hW) rfl Tryz.underlying59) ?_;simp only [pT]
    refine zBy _ _ _ rfl rfl (fun hg W => by go_simp;try with_reducible rfl) (fun hg => (HDY.out (by simpa using hg)).moved HB2.out) ?_;simp only [pT]
    refine zAH (v := _) rfl rfl (fun hg W hW => zAd _ (HWB2.out.belowAll hW) rfl (zAe _) Tryz.underlying25) ?_;simp only [pT]
    refine zAH (v := _) rfl rfl (fun hg W hW => zAd _ (HSB2.out.belowAll hW) rfl (zAe _) Tryz.underlying59) ?_;simp only [pT]
    refine zBy _ _ _ rfl rfl (fun hg W => by go_simp;try with_reducible rfl) (fun hg => HD0.out.moved HB2.out) ?_;simp only [pT]
    refine zBy _ _ _ rfl rfl (fun hg W => by go_simp;try with_reducible rfl) (fun hg => rbefore_det _ _ (zGW (ls := ls) HSP.out y) (zGW (ls := ls) HSP.out s0) _) ?_;simp only [pT]
    refine zCb rfl rfl rfl ?_;simp only [pT]
    intro f W1 HW1 h1 h2;simp only [zAQ];clear h1 h2 f
    refine zAw [40,41,42,43,44,45,46,47,48,49,50,51,52,53,54] fun u => ?_;simp only [zAD,pT]
    simp only [wpS]
    have HB3 : Hid (Below w.heap.size w W1) := zz (HB2.out.trans (HW1.mono HB2.out.size))
    have HSQ : Hid (Below W2.heap.size W2 W1) := zz (HWR.out.drew.trans (HW1.mono HWR.out.size))
    obtain ⟨c,hc⟩ : ∃ c,(decide (q < m) && zDD (dirR js ls y) (dirR js ls s0)) = c := ⟨_,rfl⟩
    have HC := zz hc
    simp only [hc]
    clear hc HD0 HDY HYC HW1 HB2 HWB2 HSB2
    cases c
    case true =>
     have hh := HC.out
     simp only [Bool.and_eq_true,decide_eq_true_eq] at hh
     have hqm := hh.1
     have HBY := zz hh.2
     clear hh
     go_wp2
     go_roundw
     case rel => exact ⟨q + 1,by omega,by go_num,zz (by rw [List.take_add_one,HY.out hqm,List.all_append,HALL.out];simp only [List.all_cons,List.all_nil,Bool.and_true,Bool.true_and,Option.toList_some];exact HBY.out),HSQ⟩
     case measure => simp [intOf];omega
    case false =>
     have HNB : Hid (∀ z,sv[q]? = some z → befR js ls z s0 = false) := zz fun z hz => by
      have hqm : q < m := by rw [← HM.out];exact (List.getElem?_eq_some_iff.1 hz).1
      have e := HY.out hqm
      rw [hz] at e;cases e
      have hh := HC.out
      rw [decide_eq_true hqm,Bool.true_and] at hh
      exact hh
     have HSO1 : Hid (Sl.OK 2 zAa (fun _ _ _ => True) (fun _ => False) W1 ⟨sa,sc,sv⟩) := zz (HSO.out.ext (fun _ h => h) (.of_below HSQ.out))
     have HSB1 := zz (HSB.out.belowAll HSQ.out)
     have HWB1 := zz (HWB.out.belowAll HSQ.out)
     clear HC HY HWR HSQ HSO
     have HTK : Hid (Value.slice sa q sc = Sl.v (⟨sa,sc,sv.take q⟩ : Sl Side)) := zz (by simp only [Sl.v,List.length_take,HM.out,Nat.min_eq_left hq])
     have HDR : Hid (Value.slice (if sc = q then sa else sa.map (·.add (q * 2))) (m - q) (sc - q) = Sl.v (⟨if sc = q then sa else sa.map (·.add (q * 2)),sc - q,sv.drop q⟩ : Sl Side)) := zz (by simp only [Sl.v,List.length_drop,HM.out])
     have HLT : Hid ((sv.take q).length ≤ 400 ∧ (sv.drop q).length ≤ 400) := zz (by simp only [List.length_take,List.length_drop,HM.out];omega)
     have HE1 : Hid (Below W1.heap.size W1 (W1.alloc (.cells #[] 59))) := zz ((Below.refl _ _).alloc (Nat.le_refl _) _)
     go_upto_region 12 with (first
      | ((with_reducible refine zAk 61 ?_);refine zCY rfl _ _ _ _ _ rfl _ (.slice sa q sc) rfl (run_tkN cutSide _ sa m sc q hq hcap) ?_)
      | ((with_reducible refine zAk 62 ?_);refine zGo rfl _ _ 62 rfl W1.heap.size zB2 (fun _ => rfl) (by decide) zAp (by decide) (.slice (some ⟨W1.heap.size,0,none⟩) 0 0) [] rfl (own_lit0 _ _) ⟨sa,sc,sv.take q⟩ HTK.out ((HSO1.out.tkN q).up HE1.out) (by have := HLT.out;simp;omega) HE1.out.size ?_;intro v2 w2 ho2 hb2))
     have HO2 : Hid (OwnL zAa 2 w2 W1.heap.size 59 v2 (sv.take q)) := zz ho2
     have HE2 := zz (HE1.out.trans hb2)
     have HSB2 := zz (HSB1.out.belowAll HE2.out)
     have HAL : Hid (Below W1.heap.size W1 (w2.alloc (.cells (zAa s0) 59))) := zz (HE2.out.alloc HE2.out.size _)
     clear ho2 hb2
     go_upto_region 13 with (first
      | ((with_reducible refine zAk 64 ?_);refine zAj HSB2.out rfl 59 _ rfl rfl (zAa s0) (zAe _) Tryz.underlying59 ?_)
      | ((with_reducible refine zAk 66 ?_);refine wpList_app1 rfl _ _ 62 rfl W1.heap.size zB2 (fun _ => rfl) (by decide) zAp (by decide) v2 (sv.take q) rfl (HO2.out.belowAll ((Below.refl _ _).alloc (Nat.le_refl _) _)) w2.heap.size 0 1 s0 rfl (fun j hj => by rw [Nat.zero_add];exact (zAc.new w2 59 (zAa s0)).cell j) (by have := HLT.out;omega) HAL.out.size ?_;intro v3 w3 ho3 hb3))
     have HO3 := zz ho3
     have HE3 := zz (HAL.out.trans hb3)
     clear ho3 hb3
     go_wp2_with (first
      | ((with_reducible refine zAk 70 ?_);refine zCY rfl _ _ _ _ _ rfl _ (.slice (if sc = q then sa else sa.map (·.add (q * 2))) (m - q) (sc - q)) rfl (run_drN cutSide _ sa m sc q hq) ?_)
      | ((with_reducible refine zAk 71 ?_);refine zGo rfl _ _ 62 rfl W1.heap.size zB2 (fun _ => rfl) (by decide) zAp (by decide) v3 (sv.take q ++ [s0]) rfl HO3.out ⟨if sc = q then sa else sa.map (·.add (q * 2)),sc - q,sv.drop q⟩ HDR.out ((HSO1.out.drN (by rw [HM.out];exact hq)).up HE3.out) (by have := HLT.out;simp only [List.length_append,List.length_cons,List.length_nil];omega) HE3.out.size ?_;intro v4 w4 ho4 hb4))
     have hE4 := HE3.out.trans hb4
     have hlist : (ls.take (k + 1)).foldl (zBl js ls j) [] = sv.take q ++ [s0] ++ sv.drop q := by rw [HST.out,HARS.out,insB_at HALL.out HNB.out]
     have hown : OwnL zAa 2 w4 w.heap.size 59 v4 ((ls.take (k + 1)).foldl (zBl js ls j) []) := by rw [hlist];exact ho4.base_le HB3.out.size
     exact ⟨⟨k + 1,by omega,by go_num,zz hown,zz ⟨HB3.out.trans (hE4.mono HB3.out.size),HWB1.out.belowAll hE4⟩⟩,by simp [intOf];omega⟩
  ·go_wp2
   go_ret
   have hkn : k = n := by omega
   subst hkn
   refine ⟨_,rfl, ?_,HW.out.1⟩
   rw [HR.out]
   exact HOV.out
end Go.Proofs.YtbbblemfodpmaaaGreat
end
section
namespace Go.Proofs.YtbbblemfodpmaaaGreat
open Go.RowKit
def zCP (js : List Joint) (ls : List Lead) (id : Int) : Int := if (zAE js ls).1 ≠ 0 then (zAE js ls).1 else if (atA js id).isSome = true then 0 else 3
def zEI (js : List Joint) (ls : List Lead) (id : Int) : Joint := if zCP js ls id = 0 then ⟨id,ptA js id⟩ else ⟨0,zAA⟩
def zDL (js : List Joint) (ls : List Lead) (id : Int) : Int := if (zAE js ls).1 ≠ 0 then (zAE js ls).1 else if (zBh ls id).isSome = true then 0 else 3
def zCQ (js : List Joint) (ls : List Lead) (id : Int) : Lead := if zDL js ls id = 0 then (zBh ls id).getD zBu else zBu
theorem zDc {α : Type} (p : α → Bool) (l : List α) : idxI p l < 0 ↔ l.find? p = none := by
 have := idx_neg p l
 rw [← find_some] at this
 constructor
 ·intro h
  rw [decide_eq_true h] at this
  cases hf : l.find? p with
  | none => rfl
  | some x => rw [hf] at this;cases this
 ·intro h
  rw [h] at this
  simpa using this
theorem rjoint_any (sj : Sl Joint) (sl : Sl Lead) (id : Int) (w : World) (hj : sj.OK 3 zAh zAu (fun _ => False) w) (hl : sl.OK 8 zAf zAB (fun _ => False) w) :
  Calls Tryz.prog 53 #[.agg #[.slice sj.a sj.val.length sj.cap, .slice sl.a sl.val.length sl.cap], .int .i64 id] w fun e w' => e = .returned (.tuple #[.agg (zAh (zEI sj.val sl.val id)), .int .i64 (zCP sj.val sl.val id)]) ∧ Below w.heap.size w w' := by
 have HC := zz (zD0 sj sl w hj hl)
 have HI := zz (zEn sj sl id w hj)
 have HJ := zz hj
 have HB0 : Hid (Below w.heap.size w ((w.alloc (.cells #[.slice sj.a sj.val.length sj.cap, .slice sl.a sl.val.length sl.cap] 25)).alloc (.cells #[.int .i64 0, .int .i64 0, .int .i64 0] 29))) := zz ((((Lays.refl w).alloc _).alloc _).below (Nat.le_refl _))
 have HWB : Hid (zAc ((w.alloc (.cells #[.slice sj.a sj.val.length sj.cap, .slice sl.a sl.val.length sl.cap] 25)).alloc (.cells #[.int .i64 0, .int .i64 0, .int .i64 0] 29)) (w.heap.size) 25 #[.slice sj.a sj.val.length sj.cap, .slice sl.a sl.val.length sl.cap]) := zz ((zAc.new w 25 #[.slice sj.a sj.val.length sj.cap, .slice sl.a sl.val.length sl.cap]).alloc _)
 have HR0 : Hid (zAc ((w.alloc (.cells #[.slice sj.a sj.val.length sj.cap, .slice sl.a sl.val.length sl.cap] 25)).alloc (.cells #[.int .i64 0, .int .i64 0, .int .i64 0] 29)) (w.heap.size + 1) 29 #[.int .i64 0, .int .i64 0, .int .i64 0]) := zz (by have := zAc.new (w.alloc (.cells #[.slice sj.a sj.val.length sj.cap, .slice sl.a sl.val.length sl.cap] 25)) 29 #[.int .i64 0, .int .i64 0, .int .i64 0];simpa only [World.size_alloc] using this : zAc _ _ _ _)
 obtain ⟨E,hE⟩ : ∃ E,(zAE sj.val sl.val).1 = E := ⟨_,rfl⟩
 obtain ⟨RJ,hRJ⟩ : ∃ r,zEI sj.val sl.val id = r := ⟨_,rfl⟩
 obtain ⟨RE,hRE⟩ : ∃ r,zCP sj.val sl.val id = r := ⟨_,rfl⟩
 have HR1 : Hid (RE = if E ≠ 0 then E else if (atA sj.val id).isSome = true then 0 else 3) := zz (by rw [← hRE,← hE];rfl)
 have HR2 : Hid (RJ = if RE = 0 then ⟨id,ptA sj.val id⟩ else ⟨0,zAA⟩) := zz (by rw [← hRJ,← hRE];rfl)
 obtain ⟨z,hz⟩ : ∃ z,idxI (fun x => decide (x.id = id)) sj.val = z := ⟨_,rfl⟩
 have HZ := zz hz
 have hrj := hj.room
 obtain ⟨nj,hnj⟩ : ∃ n,sj.val.length = n := ⟨_,rfl⟩
 simp only [hE,hRJ,hRE,hz,hnj] at HC HI HB0 HWB HR0 hrj ⊢
 have HN := zz hnj
 clear hE hRJ hRE hz hj hl hnj
 go_enter Tryz.func53,Tryz.ntmps53
 go_upto_region 1 with (fail)
 refine rgR [0,1,2] [] (fun _ => (0,#[])) [] ?_
 refine zAm (v := _) rfl rfl (fun W hW => zAd _ (HWB.out.belowAll hW) rfl (zAe _) Tryz.underlying25) ?_;simp only [pT]
 refine zAL _ _ _ rfl rfl (fun W => by go_simp;try with_reducible rfl) (HC.out.moved HB0.out) ?_;simp only [pT]
 (refine wD rfl rfl ?_;simp only [pT])
 intro f W1 HW1 h1 h2;simp only [zAQ];clear h1 h2 f
 refine zAw [8,9] fun u => ?_;simp only [zAD,pT]
 simp only [wpS]
 replace HB0 := zz (HB0.out.trans (HW1.mono HB0.out.size))
 replace HWB := zz (HWB.out.belowAll HW1)
 replace HR0 := zz (HR0.out.belowAll HW1)
 clear HW1
 by_cases h0 : E = 0
 case neg =>
  go_upto_region 3 with (fail)
  refine rgQ [0,1] [2,3] ?_
  iterate 2 (refine wD rfl rfl ?_;simp only [pT])
  intro W1 HW1
  refine zA3 ((HR0.out).belowAll HW1) rfl rfl (.agg (zAh ⟨0,zAA⟩)) rfl (by kernel_rfl) (by rfl) (zAG _) fun W2 hb2 ht2 => ?_
  refine zBx rfl rfl (by go_simp;with_reducible rfl) ?_;simp only [pT]
  refine zBc ?_
  go_wp2
  have HBE : Below w.heap.size w W2 := (HB0.out.trans (HW1.mono HB0.out.size)).trans (ht2.below (by omega))
  refine bodyPost_ret (zAY (cs := zAh ⟨0,zAA⟩) (.int .i64 E) (hb2.eqv (by simp [zAv,zAh,Value.cells])) rfl rfl rfl Tryz.underlying29) rfl ⟨?_,HBE⟩
  have e1 : RE = E := by rw [HR1.out,if_pos h0]
  rw [HR2.out,e1,if_neg h0]
 go_upto_region 4 with (fail)
 refine rgR [0,1,2,3] [] (fun _ => (0,#[])) [] ?_
 refine zAm (v := _) rfl rfl (fun W hW => zAd _ (HWB.out.belowAll hW) rfl (zAe _) Tryz.underlying25) ?_;simp only [pT]
 (refine wD rfl rfl ?_;simp only [pT])
 refine zAL _ _ _ rfl rfl (fun W => by go_simp;try with_reducible rfl) (HI.out.moved HB0.out) ?_;simp only [pT]
 (refine wD rfl rfl ?_;simp only [pT])
 intro f W1 HW1 h1 h2;simp only [zAQ];clear h1 h2 f
 refine zAw [14,15,16] fun u => ?_;simp only [zAD,pT]
 simp only [wpS]
 replace HB0 := zz (HB0.out.trans (HW1.mono HB0.out.size))
 replace HWB := zz (HWB.out.belowAll HW1)
 replace HR0 := zz (HR0.out.belowAll HW1)
 clear HW1
 by_cases hz : z < 0
 case pos =>
  go_upto_region 6 with (fail)
  refine rgQ [0] [1,2] ?_
  (refine wD rfl rfl ?_;simp only [pT])
  intro W1 HW1
  refine zA3 ((HR0.out).belowAll HW1) rfl rfl (.agg (zAh ⟨0,zAA⟩)) rfl (by kernel_rfl) (by rfl) (zAG _) fun W2 hb2 ht2 => ?_
  refine zBx rfl rfl (by go_simp;with_reducible rfl) ?_;simp only [pT]
  refine zBc ?_
  go_wp2
  have HBE : Below w.heap.size w W2 := (HB0.out.trans (HW1.mono HB0.out.size)).trans (ht2.below (by omega))
  refine bodyPost_ret (zAY (cs := zAh ⟨0,zAA⟩) (.int .i64 3) (hb2.eqv (by simp [zAv,zAh,Value.cells])) rfl rfl rfl Tryz.underlying29) rfl ⟨?_,HBE⟩
  have e1 : RE = 3 := by
   rw [HR1.out,if_neg (by simpa using h0),if_neg]
   have := HZ.out;rw [← this,zDc] at hz
   unfold atA;rw [hz];simp
  rw [HR2.out,e1,if_neg (by decide)]
 obtain ⟨x,hx⟩ : ∃ x,sj.val.find? (fun x => decide (x.id = id)) = some x := by
  cases hf : sj.val.find? (fun x => decide (x.id = id)) with
  | none => exact absurd ((zDc _ _).2 hf) (by rw [HZ.out];exact hz)
  | some x => exact ⟨x,rfl⟩
 obtain ⟨k,e1,hk,hxk,hxi⟩ := idx_find hx
 have ez : z = (k : Int) := by rw [← HZ.out,e1]
 have HAT : Hid (atA sj.val id = some x.at_) := zz (by unfold atA;rw [hx];rfl)
 have HXI : Hid (x.id = id) := zz (by simpa using hxi)
 obtain ⟨bb,o,ha,hc⟩ := HJ.out.elemAt (fun _ => rfl) hxk
 have HEX := zz hc
 rw [HN.out] at hk
 subst ez
 obtain ⟨aj,cj,js⟩ := sj
 simp only at ha;subst ha
 clear hc hx e1 hxk hxi hz
 go_upto_region 7 with (fail)
 refine rgQ [0,1,2,3,4] [5,6] ?_
 (refine wD rfl rfl ?_;simp only [pT])
 refine zAm (v := _) rfl rfl (fun W hW => by have e := (HWB.out.belowAll hW).cell;go_simp;with_reducible rfl) ?_;simp only [pT]
 iterate 2 (refine wD rfl rfl ?_;simp only [pT])
 refine zAm (v := _) rfl rfl (fun W hW => zAy _ (HEX.out W (HB0.out.trans (hW.mono HB0.out.size))) rfl Tryz.underlying29) ?_;simp only [pT]
 intro W1 HW1
 refine zBk [20,21,22,23] fun u => ?_;simp only [zAD,pT]
 refine zA3 ((HR0.out).belowAll HW1) rfl rfl (.agg (zAh x)) rfl (by kernel_rfl) (by rfl) (zAG _) fun W2 hb2 ht2 => ?_
 refine zBx rfl rfl (by go_simp;with_reducible rfl) ?_;simp only [pT]
 refine zBc ?_
 go_wp2
 have HBE : Below w.heap.size w W2 := (HB0.out.trans (HW1.mono HB0.out.size)).trans (ht2.below (by omega))
 refine bodyPost_ret (zAY (cs := zAh x) (.int .i64 0) (hb2.eqv (by simp [zAv,zAh,Value.cells])) rfl rfl rfl Tryz.underlying29) rfl ⟨?_,HBE⟩
 have e1 : RE = 0 := by rw [HR1.out,if_neg (by simpa using h0),HAT.out];rfl
 have e2 : RJ = x := by
  have h2 := HR2.out
  rw [e1,if_pos rfl,← HXI.out] at h2
  rw [h2]
  have : ptA js x.id = x.at_ := by unfold ptA;rw [HXI.out,HAT.out];rfl
  rw [this]
 rw [e1,e2]
theorem zGp (sj : Sl Joint) (sl : Sl Lead) (id : Int) (w : World) (hj : sj.OK 3 zAh zAu (fun _ => False) w) (hl : sl.OK 8 zAf zAB (fun _ => False) w) :
  Calls Tryz.prog 55 #[.agg #[.slice sj.a sj.val.length sj.cap, .slice sl.a sl.val.length sl.cap], .int .i64 id] w fun e w' => e = .returned (.tuple #[.agg (zAf (zCQ sj.val sl.val id)), .int .i64 (zDL sj.val sl.val id)]) ∧ Below w.heap.size w w' := by
 have HC := zz (zD0 sj sl w hj hl)
 have HI := zz (zF6 sj sl id w hl)
 have HJ := zz hl
 have HB0 : Hid (Below w.heap.size w ((w.alloc (.cells #[.slice sj.a sj.val.length sj.cap, .slice sl.a sl.val.length sl.cap] 25)).alloc (.cells #[.int .i64 0, .int .i64 0, .int .i64 0, .int .i64 0, .int .i64 0, .int .i64 0, .int .i64 0, .int .i64 0] 31))) := zz ((((Lays.refl w).alloc _).alloc _).below (Nat.le_refl _))
 have HWB : Hid (zAc ((w.alloc (.cells #[.slice sj.a sj.val.length sj.cap, .slice sl.a sl.val.length sl.cap] 25)).alloc (.cells #[.int .i64 0, .int .i64 0, .int .i64 0, .int .i64 0, .int .i64 0, .int .i64 0, .int .i64 0, .int .i64 0] 31)) (w.heap.size) 25 #[.slice sj.a sj.val.length sj.cap, .slice sl.a sl.val.length sl.cap]) := zz ((zAc.new w 25 #[.slice sj.a sj.val.length sj.cap, .slice sl.a sl.val.length sl.cap]).alloc _)
 have HR0 : Hid (zAc ((w.alloc (.cells #[.slice sj.a sj.val.length sj.cap, .slice sl.a sl.val.length sl.cap] 25)).alloc (.cells #[.int .i64 0, .int .i64 0, .int .i64 0, .int .i64 0, .int .i64 0, .int .i64 0, .int .i64 0, .int .i64 0] 31)) (w.heap.size + 1) 31 #[.int .i64 0, .int .i64 0, .int .i64 0, .int .i64 0, .int .i64 0, .int .i64 0, .int .i64 0, .int .i64 0]) := zz (by have := zAc.new (w.alloc (.cells #[.slice sj.a sj.val.length sj.cap, .slice sl.a sl.val.length sl.cap] 25)) 31 #[.int .i64 0, .int .i64 0, .int .i64 0, .int .i64 0, .int .i64 0, .int .i64 0, .int .i64 0, .int .i64 0];simpa only [World.size_alloc] using this : zAc _ _ _ _)
 obtain ⟨E,hE⟩ : ∃ E,(zAE sj.val sl.val).1 = E := ⟨_,rfl⟩
 obtain ⟨RJ,hRJ⟩ : ∃ r,zCQ sj.val sl.val id = r := ⟨_,rfl⟩
 obtain ⟨RE,hRE⟩ : ∃ r,zDL sj.val sl.val id = r := ⟨_,rfl⟩
 have HR1 : Hid (RE = if E ≠ 0 then E else if (zBh sl.val id).isSome = true then 0 else 3) := zz (by rw [← hRE,← hE];rfl)
 have HR2 : Hid (RJ = if RE = 0 then (zBh sl.val id).getD zBu else zBu) := zz (by rw [← hRJ,← hRE];rfl)
 obtain ⟨z,hz⟩ : ∃ z,idxI (fun x => decide (x.id = id)) sl.val = z := ⟨_,rfl⟩
 have HZ := zz hz
 have hrj := hl.room
 obtain ⟨nj,hnj⟩ : ∃ n,sl.val.length = n := ⟨_,rfl⟩
 simp only [hE,hRJ,hRE,hz,hnj] at HC HI HB0 HWB HR0 hrj ⊢
 have HN := zz hnj
 clear hE hRJ hRE hz hj hl hnj
 go_enter Tryz.func55,Tryz.ntmps55
 go_upto_region 1 with (fail)
 refine rgR [0,1,2] [] (fun _ => (0,#[])) [] ?_
 refine zAm (v := _) rfl rfl (fun W hW => zAd _ (HWB.out.belowAll hW) rfl (zAe _) Tryz.underlying25) ?_;simp only [pT]
 refine zAL _ _ _ rfl rfl (fun W => by go_simp;try with_reducible rfl) (HC.out.moved HB0.out) ?_;simp only [pT]
 (refine wD rfl rfl ?_;simp only [pT])
 intro f W1 HW1 h1 h2;simp only [zAQ];clear h1 h2 f
 refine zAw [8,9] fun u => ?_;simp only [zAD,pT]
 simp only [wpS]
 replace HB0 := zz (HB0.out.trans (HW1.mono HB0.out.size))
 replace HWB := zz (HWB.out.belowAll HW1)
 replace HR0 := zz (HR0.out.belowAll HW1)
 clear HW1
 by_cases h0 : E = 0
 case neg =>
  go_upto_region 3 with (fail)
  refine rgQ [0,1] [2,3] ?_
  iterate 2 (refine wD rfl rfl ?_;simp only [pT])
  intro W1 HW1
  refine zA3 ((HR0.out).belowAll HW1) rfl rfl (.agg (zAf zBu)) rfl (by kernel_rfl) (by rfl) (zAU _) fun W2 hb2 ht2 => ?_
  refine zBx rfl rfl (by go_simp;with_reducible rfl) ?_;simp only [pT]
  refine zBc ?_
  go_wp2
  have HBE : Below w.heap.size w W2 := (HB0.out.trans (HW1.mono HB0.out.size)).trans (ht2.below (by omega))
  refine bodyPost_ret (zAY (cs := zAf zBu) (.int .i64 E) (hb2.eqv (by simp [zAv,zAf,Value.cells])) rfl rfl rfl Tryz.underlying31) rfl ⟨?_,HBE⟩
  have e1 : RE = E := by rw [HR1.out,if_pos h0]
  rw [HR2.out,e1,if_neg h0]
 go_upto_region 4 with (fail)
 refine rgR [0,1,2,3] [] (fun _ => (0,#[])) [] ?_
 refine zAm (v := _) rfl rfl (fun W hW => zAd _ (HWB.out.belowAll hW) rfl (zAe _) Tryz.underlying25) ?_;simp only [pT]
 (refine wD rfl rfl ?_;simp only [pT])
 refine zAL _ _ _ rfl rfl (fun W => by go_simp;try with_reducible rfl) (HI.out.moved HB0.out) ?_;simp only [pT]
 (refine wD rfl rfl ?_;simp only [pT])
 intro f W1 HW1 h1 h2;simp only [zAQ];clear h1 h2 f
 refine zAw [14,15,16] fun u => ?_;simp only [zAD,pT]
 simp only [wpS]
 replace HB0 := zz (HB0.out.trans (HW1.mono HB0.out.size))
 replace HWB := zz (HWB.out.belowAll HW1)
 replace HR0 := zz (HR0.out.belowAll HW1)
 clear HW1
 by_cases hz : z < 0
 case pos =>
  go_upto_region 6 with (fail)
  refine rgQ [0] [1,2] ?_
  (refine wD rfl rfl ?_;simp only [pT])
  intro W1 HW1
  refine zA3 ((HR0.out).belowAll HW1) rfl rfl (.agg (zAf zBu)) rfl (by kernel_rfl) (by rfl) (zAU _) fun W2 hb2 ht2 => ?_
  refine zBx rfl rfl (by go_simp;with_reducible rfl) ?_;simp only [pT]
  refine zBc ?_
  go_wp2
  have HBE : Below w.heap.size w W2 := (HB0.out.trans (HW1.mono HB0.out.size)).trans (ht2.below (by omega))
  refine bodyPost_ret (zAY (cs := zAf zBu) (.int .i64 3) (hb2.eqv (by simp [zAv,zAf,Value.cells])) rfl rfl rfl Tryz.underlying31) rfl ⟨?_,HBE⟩
  have e1 : RE = 3 := by
   rw [HR1.out,if_neg (by simpa using h0),if_neg]
   have := HZ.out;rw [← this,zDc] at hz
   unfold zBh;rw [hz];simp
  rw [HR2.out,e1,if_neg (by decide)]
 obtain ⟨x,hx⟩ : ∃ x,sl.val.find? (fun x => decide (x.id = id)) = some x := by
  cases hf : sl.val.find? (fun x => decide (x.id = id)) with
  | none => exact absurd ((zDc _ _).2 hf) (by rw [HZ.out];exact hz)
  | some x => exact ⟨x,rfl⟩
 obtain ⟨k,e1,hk,hxk,hxi⟩ := idx_find hx
 have ez : z = (k : Int) := by rw [← HZ.out,e1]
 have HAT : Hid (zBh sl.val id = some x) := zz hx
 have HXI : Hid (x.id = id) := zz (by simpa using hxi)
 obtain ⟨bb,o,ha,hc⟩ := HJ.out.elemAt (fun _ => rfl) hxk
 have HEX := zz hc
 rw [HN.out] at hk
 subst ez
 obtain ⟨al,cl,ls⟩ := sl
 simp only at ha;subst ha
 clear hc hx e1 hxk hxi hz
 go_upto_region 7 with (fail)
 refine rgQ [0,1,2,3,4] [5,6] ?_
 (refine wD rfl rfl ?_;simp only [pT])
 refine zAm (v := _) rfl rfl (fun W hW => by have e := (HWB.out.belowAll hW).cell;go_simp;with_reducible rfl) ?_;simp only [pT]
 iterate 2 (refine wD rfl rfl ?_;simp only [pT])
 refine zAm (v := _) rfl rfl (fun W hW => zAy _ (HEX.out W (HB0.out.trans (hW.mono HB0.out.size))) rfl Tryz.underlying31) ?_;simp only [pT]
 intro W1 HW1
 refine zBk [20,21,22,23] fun u => ?_;simp only [zAD,pT]
 refine zA3 ((HR0.out).belowAll HW1) rfl rfl (.agg (zAf x)) rfl (by kernel_rfl) (by rfl) (zAU _) fun W2 hb2 ht2 => ?_
 refine zBx rfl rfl (by go_simp;with_reducible rfl) ?_;simp only [pT]
 refine zBc ?_
 go_wp2
 have HBE : Below w.heap.size w W2 := (HB0.out.trans (HW1.mono HB0.out.size)).trans (ht2.below (by omega))
 refine bodyPost_ret (zAY (cs := zAf x) (.int .i64 0) (hb2.eqv (by simp [zAv,zAf,Value.cells])) rfl rfl rfl Tryz.underlying31) rfl ⟨?_,HBE⟩
 have e1 : RE = 0 := by rw [HR1.out,if_neg (by simpa using h0),HAT.out];rfl
 have e2 : RJ = x := by
  have h2 := HR2.out
  rw [e1,if_pos rfl,HAT.out] at h2
  exact h2
 rw [e1,e2]
end Go.Proofs.YtbbblemfodpmaaaGreat
end
section
namespace Go.Proofs.YtbbblemfodpmaaaGreat
open Go.RowKit
theorem zDt {P : Program} {fn : Func} {a : Act} {w : World} {t1 t2 t3 : Tmp} {ty : TypeId} {b1 b2 : Nat} {T : TypeId} {c1 c2 : Array Value} {d : TypeDesc} (v : Value) (hb1 : zAc w b1 T c1) (hb2 : zAc w b2 T c2) (hr : fn.results = #[.cell t1 ty, .cell t2 ty, .tmp t3])
  (h1 : a.tmps.getD t1 undef = .pointer (some ⟨b1,0,none⟩)) (h2 : a.tmps.getD t2 undef = .pointer (some ⟨b2,0,none⟩)) (h3 : a.tmps.getD t3 undef = v) (hu : P.underlying ty = some d) (hd : (match d with | .struct _ | .array _ _ => true | _ => false) = true := by rfl)
  (hi1 : (P.info? ty).map (·.size) = some c1.size := by kernel_rfl) (hi2 : (P.info? ty).map (·.size) = some c2.size := by kernel_rfl) :
  (results fn a.tmps).run P w = .ok (.tuple #[.agg c1, .agg c2,v]) w := by
 have hl1 := zBS (P := P) w b1 0 ty c1 d hb1.cells hu hd hi1
 have hl2 := zBS (P := P) w b2 0 ty c2 d hb2.cells hu hd hi2
 have k1 : a.tmps[t1]?.getD undef = .pointer (some ⟨b1,0,none⟩) := by rw [← h1];simp
 have k2 : a.tmps[t2]?.getD undef = .pointer (some ⟨b2,0,none⟩) := by rw [← h2];simp
 have k3 : a.tmps[t3]?.getD undef = v := by rw [← h3];simp
 simp [results,hr,k1,k2,k3,asAddr,hl1,hl2]
def zFk (js : List Joint) (ls : List Lead) (s : Side) : Joint := if zBI js ls s = 0 then ⟨(zAs ls s).1,ptA js (zAs ls s).1⟩ else ⟨0,zAA⟩
def endTo (js : List Joint) (ls : List Lead) (s : Side) : Joint := if zBI js ls s = 0 then ⟨(zAs ls s).2,ptA js (zAs ls s).2⟩ else ⟨0,zAA⟩
theorem idx_joint {js : List Joint} {id : Int} (h : (atA js id).isSome = true) : ∃ k : Nat,idxI (fun x => decide (x.id = id)) js = (k : Int) ∧ k < js.length ∧ js[k]? = some ⟨id,ptA js id⟩ := by
 obtain ⟨k,x,e1,hk,hx,e2,e3⟩ := idx_some h
 refine ⟨k,e1,hk, ?_⟩
 rw [hx,e3,← e2]
theorem rEnds_any (sj : Sl Joint) (sl : Sl Lead) (s : Side) (w : World) (hj : sj.OK 3 zAh zAu (fun _ => False) w) (hl : sl.OK 8 zAf zAB (fun _ => False) w) :
  Calls Tryz.prog 56 #[.agg #[.slice sj.a sj.val.length sj.cap, .slice sl.a sl.val.length sl.cap], .agg (zAa s)] w fun e w' => e = .returned (.tuple #[.agg (zAh (zFk sj.val sl.val s)), .agg (zAh (endTo sj.val sl.val s)), .int .i64 (zBI sj.val sl.val s)]) ∧ Below w.heap.size w w' := by
 have HC := zz (zD0 sj sl w hj hl)
 have HI := zz (zF6 sj sl s.lead w hl)
 have HJ := zz hj
 have HL := zz hl
 have HB0 : Hid (Below w.heap.size w ((((w.alloc (.cells #[.slice sj.a sj.val.length sj.cap, .slice sl.a sl.val.length sl.cap] 25)).alloc (.cells (zAa s) 59)).alloc (.cells #[.int .i64 0, .int .i64 0, .int .i64 0] 29)).alloc (.cells #[.int .i64 0, .int .i64 0, .int .i64 0] 29))) := zz ((((((Lays.refl w).alloc _).alloc _).alloc _).alloc _).below (Nat.le_refl _))
 have HWB : Hid (zAc ((((w.alloc (.cells #[.slice sj.a sj.val.length sj.cap, .slice sl.a sl.val.length sl.cap] 25)).alloc (.cells (zAa s) 59)).alloc (.cells #[.int .i64 0, .int .i64 0, .int .i64 0] 29)).alloc (.cells #[.int .i64 0, .int .i64 0, .int .i64 0] 29)) (w.heap.size) 25 #[.slice sj.a sj.val.length sj.cap, .slice sl.a sl.val.length sl.cap]) := zz ((((zAc.new w 25 #[.slice sj.a sj.val.length sj.cap, .slice sl.a sl.val.length sl.cap]).alloc _).alloc _).alloc _)
 have HSB : Hid (zAc ((((w.alloc (.cells #[.slice sj.a sj.val.length sj.cap, .slice sl.a sl.val.length sl.cap] 25)).alloc (.cells (zAa s) 59)).alloc (.cells #[.int .i64 0, .int .i64 0, .int .i64 0] 29)).alloc (.cells #[.int .i64 0, .int .i64 0, .int .i64 0] 29)) (w.heap.size + 1) 59 (zAa s)) := zz (((by have := zAc.new (w.alloc (.cells #[.slice sj.a sj.val.length sj.cap, .slice sl.a sl.val.length sl.cap] 25)) 59 (zAa s);simpa only [World.size_alloc] using this : zAc _ _ _ _).alloc _).alloc _)
 have HR1 : Hid (zAc ((((w.alloc (.cells #[.slice sj.a sj.val.length sj.cap, .slice sl.a sl.val.length sl.cap] 25)).alloc (.cells (zAa s) 59)).alloc (.cells #[.int .i64 0, .int .i64 0, .int .i64 0] 29)).alloc (.cells #[.int .i64 0, .int .i64 0, .int .i64 0] 29)) (w.heap.size + 1 + 1) 29 #[.int .i64 0, .int .i64 0, .int .i64 0]) := zz ((by have := zAc.new ((w.alloc (.cells #[.slice sj.a sj.val.length sj.cap, .slice sl.a sl.val.length sl.cap] 25)).alloc (.cells (zAa s) 59)) 29 #[.int .i64 0, .int .i64 0, .int .i64 0];simpa only [World.size_alloc] using this : zAc _ _ _ _).alloc _)
 have HR2 : Hid (zAc ((((w.alloc (.cells #[.slice sj.a sj.val.length sj.cap, .slice sl.a sl.val.length sl.cap] 25)).alloc (.cells (zAa s) 59)).alloc (.cells #[.int .i64 0, .int .i64 0, .int .i64 0] 29)).alloc (.cells #[.int .i64 0, .int .i64 0, .int .i64 0] 29)) (w.heap.size + 1 + 1 + 1) 29 #[.int .i64 0, .int .i64 0, .int .i64 0]) := zz (by have := zAc.new (((w.alloc (.cells #[.slice sj.a sj.val.length sj.cap, .slice sl.a sl.val.length sl.cap] 25)).alloc (.cells (zAa s) 59)).alloc (.cells #[.int .i64 0, .int .i64 0, .int .i64 0] 29)) 29 #[.int .i64 0, .int .i64 0, .int .i64 0];simpa only [World.size_alloc] using this : zAc _ _ _ _)
 obtain ⟨E,hE⟩ : ∃ E,(zAE sj.val sl.val).1 = E := ⟨_,rfl⟩
 obtain ⟨R1,hR1⟩ : ∃ r,zFk sj.val sl.val s = r := ⟨_,rfl⟩
 obtain ⟨R2,hR2⟩ : ∃ r,endTo sj.val sl.val s = r := ⟨_,rfl⟩
 obtain ⟨RE,hRE⟩ : ∃ r,zBI sj.val sl.val s = r := ⟨_,rfl⟩
 have HRE : Hid (RE = if E ≠ 0 then E else if (zBh sl.val s.lead).isSome = true then 0 else 3) := zz (by rw [← hRE,← hE];rfl)
 have HRA : Hid (R1 = if RE = 0 then ⟨(zAs sl.val s).1,ptA sj.val (zAs sl.val s).1⟩ else ⟨0,zAA⟩) := zz (by rw [← hR1,← hRE];rfl)
 have HRB : Hid (R2 = if RE = 0 then ⟨(zAs sl.val s).2,ptA sj.val (zAs sl.val s).2⟩ else ⟨0,zAA⟩) := zz (by rw [← hR2,← hRE];rfl)
 have HVW : Hid (E = 0 → ValidW sj.val sl.val) := zz fun h => zB9 (by rw [hE];exact h)
 obtain ⟨z,hz⟩ : ∃ z,idxI (fun x => decide (x.id = s.lead)) sl.val = z := ⟨_,rfl⟩
 have HZ := zz hz
 have hrj := hj.room
 obtain ⟨nj,hnj⟩ : ∃ n,sj.val.length = n := ⟨_,rfl⟩
 have HN := zz hnj
 simp only [hE,hR1,hR2,hRE,hz,hnj] at HC HI HB0 HWB HSB HR1 HR2 hrj ⊢
 clear hE hR1 hR2 hRE hz hj hl hnj
 go_enter Tryz.func56,Tryz.ntmps56
 go_upto_region 1 with (fail)
 refine rgR [0,1,2] [] (fun _ => (0,#[])) [] ?_
 refine zAm (v := _) rfl rfl (fun W hW => zAd _ (HWB.out.belowAll hW) rfl (zAe _) Tryz.underlying25) ?_;simp only [pT]
 refine zAL _ _ _ rfl rfl (fun W => by go_simp;try with_reducible rfl) (HC.out.moved HB0.out) ?_;simp only [pT]
 (refine wD rfl rfl ?_;simp only [pT])
 intro f W1 HW1 h1 h2;simp only [zAQ];clear h1 h2 f
 refine zAw [10,11] fun u => ?_;simp only [zAD,pT]
 simp only [wpS]
 replace HB0 := zz (HB0.out.trans (HW1.mono HB0.out.size))
 replace HWB := zz (HWB.out.belowAll HW1)
 replace HSB := zz (HSB.out.belowAll HW1)
 replace HR1 := zz (HR1.out.belowAll HW1)
 replace HR2 := zz (HR2.out.belowAll HW1)
 clear HW1
 by_cases h0 : E = 0
 case neg =>
  go_upto_region 3 with (fail)
  refine rgQ [0,1,2] [3,4,5] ?_
  iterate 3 (refine wD rfl rfl ?_;simp only [pT])
  intro W1 HW1
  refine zA3 ((HR1.out).belowAll HW1) rfl rfl (.agg (zAh ⟨0,zAA⟩)) rfl (by kernel_rfl) (by rfl) (zAG _) fun W2 hb2 ht2 => ?_
  refine zA3 (((HR2.out).belowAll HW1).turn ht2 (by omega)) rfl rfl (.agg (zAh ⟨0,zAA⟩)) rfl (by kernel_rfl) (by rfl) (zAG _) fun W3 hb3 ht3 => ?_
  refine zBx rfl rfl (by go_simp;with_reducible rfl) ?_;simp only [pT]
  refine zBc ?_
  go_wp2
  have HBE : Below w.heap.size w W3 := ((HB0.out.trans (HW1.mono HB0.out.size)).trans (ht2.below (by omega))).trans (ht3.below (by omega))
  refine bodyPost_ret (zDt (c1 := zAh ⟨0,zAA⟩) (c2 := zAh ⟨0,zAA⟩) (.int .i64 E) ((hb2.turn ht3 (by omega)).eqv (by simp [zAv,zAh,Value.cells])) (hb3.eqv (by simp [zAv,zAh,Value.cells])) rfl rfl rfl rfl Tryz.underlying29) rfl ⟨?_,HBE⟩
  have e1 : RE = E := by rw [HRE.out,if_pos h0]
  rw [HRA.out,HRB.out,e1,if_neg h0,if_neg h0]
 go_upto_region 4 with (fail)
 refine rgR [0,1,2,3,4] [] (fun _ => (0,#[])) [] ?_
 refine zAm (v := _) rfl rfl (fun W hW => zAd _ (HWB.out.belowAll hW) rfl (zAe _) Tryz.underlying25) ?_;simp only [pT]
 (refine wD rfl rfl ?_;simp only [pT])
 refine zAm (v := _) rfl rfl (fun W hW => by have e := (HSB.out.belowAll hW).cell;go_simp;with_reducible rfl) ?_;simp only [pT]
 refine zAL _ _ _ rfl rfl (fun W => by go_simp;try with_reducible rfl) (HI.out.moved HB0.out) ?_;simp only [pT]
 (refine wD rfl rfl ?_;simp only [pT])
 intro f W1 HW1 h1 h2;simp only [zAQ];clear h1 h2 f
 refine zAw [17,18,19,20] fun u => ?_;simp only [zAD,pT]
 simp only [wpS]
 replace HB0 := zz (HB0.out.trans (HW1.mono HB0.out.size))
 replace HWB := zz (HWB.out.belowAll HW1)
 replace HSB := zz (HSB.out.belowAll HW1)
 replace HR1 := zz (HR1.out.belowAll HW1)
 replace HR2 := zz (HR2.out.belowAll HW1)
 clear HW1
 by_cases hz : z < 0
 case pos =>
  go_upto_region 5 with (fail)
  refine rgQ [0,1] [2,3,4] ?_
  iterate 2 (refine wD rfl rfl ?_;simp only [pT])
  intro W1 HW1
  refine zA3 ((HR1.out).belowAll HW1) rfl rfl (.agg (zAh ⟨0,zAA⟩)) rfl (by kernel_rfl) (by rfl) (zAG _) fun W2 hb2 ht2 => ?_
  refine zA3 (((HR2.out).belowAll HW1).turn ht2 (by omega)) rfl rfl (.agg (zAh ⟨0,zAA⟩)) rfl (by kernel_rfl) (by rfl) (zAG _) fun W3 hb3 ht3 => ?_
  refine zBx rfl rfl (by go_simp;with_reducible rfl) ?_;simp only [pT]
  refine zBc ?_
  go_wp2
  have HBE : Below w.heap.size w W3 := ((HB0.out.trans (HW1.mono HB0.out.size)).trans (ht2.below (by omega))).trans (ht3.below (by omega))
  refine bodyPost_ret (zDt (c1 := zAh ⟨0,zAA⟩) (c2 := zAh ⟨0,zAA⟩) (.int .i64 3) ((hb2.turn ht3 (by omega)).eqv (by simp [zAv,zAh,Value.cells])) (hb3.eqv (by simp [zAv,zAh,Value.cells])) rfl rfl rfl rfl Tryz.underlying29) rfl ⟨?_,HBE⟩
  have e1 : RE = 3 := by
   rw [HRE.out,if_neg (by simpa using h0),if_neg]
   have := HZ.out;rw [← this,zDc] at hz
   unfold zBh;rw [hz];simp
  rw [HRA.out,HRB.out,e1,if_neg (by decide),if_neg (by decide)]
 have hls : (zBh sl.val s.lead).isSome = true := by
  unfold zBh
  cases hf : sl.val.find? (fun x => decide (x.id = s.lead)) with
  | none => exact absurd ((zDc _ _).2 hf) (by rw [HZ.out];exact hz)
  | some x => rfl
 have HRE0 : Hid (RE = 0) := zz (by rw [HRE.out,if_neg (by simpa using h0),if_pos hls])
 have HE := rends_det sj sl s w HL.out hls
 obtain ⟨_,k1,k2⟩ := (HVW.out h0).side_ok (zFh hls)
 obtain ⟨i1,e1,l1,x1⟩ := idx_joint k1
 obtain ⟨i2,e2,l2,x2⟩ := idx_joint k2
 have HI1 := zz (zEn sj sl (zAs sl.val s).1 w HJ.out)
 have HI2 := zz (zEn sj sl (zAs sl.val s).2 w HJ.out)
 rw [e1] at HI1
 rw [e2] at HI2
 obtain ⟨bb,o,ha,hc1⟩ := HJ.out.elemAt (fun _ => rfl) x1
 obtain ⟨b2,o2,ha2,hc2⟩ := HJ.out.elemAt (fun _ => rfl) x2
 rw [ha] at ha2
 simp only [Option.some.injEq,Addr.mk.injEq,and_true] at ha2
 obtain ⟨rfl,rfl⟩ := ha2
 have HEX := zz hc1
 have HEY := zz hc2
 rw [HN.out] at l1 l2
 obtain ⟨j1,hj1⟩ : ∃ j : Joint,(⟨(zAs sl.val s).1,ptA sj.val (zAs sl.val s).1⟩ : Joint) = j := ⟨_,rfl⟩
 obtain ⟨j2,hj2⟩ : ∃ j : Joint,(⟨(zAs sl.val s).2,ptA sj.val (zAs sl.val s).2⟩ : Joint) = j := ⟨_,rfl⟩
 simp only [hj1,hj2] at HEX HEY HRA HRB
 obtain ⟨a1,ha1⟩ : ∃ a,(zAs sl.val s).1 = a := ⟨_,rfl⟩
 obtain ⟨a2,ha2⟩ : ∃ a,(zAs sl.val s).2 = a := ⟨_,rfl⟩
 simp only [ha1,ha2,HN.out] at HI1 HI2 HE
 obtain ⟨aj,cj,js⟩ := sj
 simp only at ha;subst ha
 clear hc1 hc2 x1 x2 e1 e2 k1 k2 hls hj1 hj2 ha1 ha2
 go_upto_region 6 with (fail)
 refine rgR [0,1,2,3,4,5,6,7] [] (fun _ => (0,#[])) [] ?_
 refine zAm (v := _) rfl rfl (fun W hW => zAd _ (HWB.out.belowAll hW) rfl (zAe _) Tryz.underlying25) ?_;simp only [pT]
 refine zAm (v := _) rfl rfl (fun W hW => zAd _ (HSB.out.belowAll hW) rfl (zAe _) Tryz.underlying59) ?_;simp only [pT]
 refine zAL _ _ _ rfl rfl (fun W => by go_simp;try with_reducible rfl) (HE.moved HB0.out) ?_;simp only [pT]
 iterate 5 (refine wD rfl rfl ?_;simp only [pT])
 intro f W1 HW1 h1 h2;simp only [zAQ];clear h1 h2 f
 refine zAw [25,26,27,24,28,29] fun u => ?_;simp only [zAD,pT]
 simp only [wpS]
 replace HB0 := zz (HB0.out.trans (HW1.mono HB0.out.size))
 replace HWB := zz (HWB.out.belowAll HW1)
 replace HSB := zz (HSB.out.belowAll HW1)
 replace HR1 := zz (HR1.out.belowAll HW1)
 replace HR2 := zz (HR2.out.belowAll HW1)
 clear HW1
 clear HE
 go_upto_region 7 with (fail)
 have upS : ∀ {x y : World},(fun W => Below w.heap.size w W ∧ zAc W w.heap.size 25 #[.slice (some ⟨bb,o,none⟩) nj cj, .slice sl.a sl.val.length sl.cap] ∧ (∃ c,zAc W (w.heap.size + 1 + 1) 29 c) ∧ ∃ c,zAc W (w.heap.size + 1 + 1 + 1) 29 c) x → Below x.heap.size x y → (fun W => Below w.heap.size w W ∧ zAc W w.heap.size 25 #[.slice (some ⟨bb,o,none⟩) nj cj, .slice sl.a sl.val.length sl.cap] ∧ (∃ c,zAc W (w.heap.size + 1 + 1) 29 c) ∧ ∃ c,zAc W (w.heap.size + 1 + 1 + 1) 29 c) y := fun h hb => ⟨h.1.trans (hb.mono h.1.size),h.2.1.belowAll hb,⟨_,h.2.2.1.choose_spec.belowAll hb⟩,_,h.2.2.2.choose_spec.belowAll hb⟩
 have stS1 : ∀ {x y : World} {c : Array Value},(fun W => Below w.heap.size w W ∧ zAc W w.heap.size 25 #[.slice (some ⟨bb,o,none⟩) nj cj, .slice sl.a sl.val.length sl.cap] ∧ (∃ c,zAc W (w.heap.size + 1 + 1) 29 c) ∧ ∃ c,zAc W (w.heap.size + 1 + 1 + 1) 29 c) x → zAc y (w.heap.size + 1 + 1) 29 c → Turn (w.heap.size + 1 + 1) x y → (fun W => Below w.heap.size w W ∧ zAc W w.heap.size 25 #[.slice (some ⟨bb,o,none⟩) nj cj, .slice sl.a sl.val.length sl.cap] ∧ (∃ c,zAc W (w.heap.size + 1 + 1) 29 c) ∧ ∃ c,zAc W (w.heap.size + 1 + 1 + 1) 29 c) y := fun h hb ht => ⟨h.1.trans (ht.below (by omega)),h.2.1.turn ht (by omega),⟨_,hb⟩,_,h.2.2.2.choose_spec.turn ht (by omega)⟩
 have stS2 : ∀ {x y : World} {c : Array Value},(fun W => Below w.heap.size w W ∧ zAc W w.heap.size 25 #[.slice (some ⟨bb,o,none⟩) nj cj, .slice sl.a sl.val.length sl.cap] ∧ (∃ c,zAc W (w.heap.size + 1 + 1) 29 c) ∧ ∃ c,zAc W (w.heap.size + 1 + 1 + 1) 29 c) x → zAc y (w.heap.size + 1 + 1 + 1) 29 c → Turn (w.heap.size + 1 + 1 + 1) x y → (fun W => Below w.heap.size w W ∧ zAc W w.heap.size 25 #[.slice (some ⟨bb,o,none⟩) nj cj, .slice sl.a sl.val.length sl.cap] ∧ (∃ c,zAc W (w.heap.size + 1 + 1) 29 c) ∧ ∃ c,zAc W (w.heap.size + 1 + 1 + 1) 29 c) y := fun h hb ht => ⟨h.1.trans (ht.below (by omega)),h.2.1.turn ht (by omega),⟨_,h.2.2.1.choose_spec.turn ht (by omega)⟩,_,hb⟩
 have S1 : (fun W => Below w.heap.size w W ∧ zAc W w.heap.size 25 #[.slice (some ⟨bb,o,none⟩) nj cj, .slice sl.a sl.val.length sl.cap] ∧ (∃ c,zAc W (w.heap.size + 1 + 1) 29 c) ∧ ∃ c,zAc W (w.heap.size + 1 + 1 + 1) 29 c) W1.drew := ⟨HB0.out.drew,HWB.out.drew,⟨_,HR1.out.drew⟩,_,HR2.out.drew⟩
 refine zDl (fun W => Below w.heap.size w W ∧ zAc W w.heap.size 25 #[.slice (some ⟨bb,o,none⟩) nj cj, .slice sl.a sl.val.length sl.cap] ∧ (∃ c,zAc W (w.heap.size + 1 + 1) 29 c) ∧ ∃ c,zAc W (w.heap.size + 1 + 1 + 1) 29 c) [(0,true),(1,true),(2,true),(3,true),(7,true),(8,true),(9,true),(10,true),(4,false),(5,true),(6,true),(11,false),(12,true),(13,true),(14,false),(15,false),(16,true)] rfl (by kernel_rfl) (by kernel_rfl) (fun d _ _ _ _ h => by cases d <;> exact h) S1 ?_
 refine wS rfl rfl ?_;simp only [pT]
 refine zBs (v := .slice (some ⟨bb,o,none⟩) nj cj) rfl rfl (fun W hW => by have e := hW.2.1.cell 0;go_simp) ?_;simp only [pT]
 refine zBs (v := .agg #[.slice (some ⟨bb,o,none⟩) nj cj, .slice sl.a sl.val.length sl.cap]) rfl rfl (fun W hW => zAd _ hW.2.1 rfl (zAe _) Tryz.underlying25) ?_;simp only [pT]
 iterate 2 (refine wS rfl rfl ?_;simp only [pT])
 refine zBs (v := .slice (some ⟨bb,o,none⟩) nj cj) rfl rfl (fun W hW => by have e := hW.2.1.cell 0;go_simp) ?_;simp only [pT]
 refine zBs (v := .agg #[.slice (some ⟨bb,o,none⟩) nj cj, .slice sl.a sl.val.length sl.cap]) rfl rfl (fun W hW => zAd _ hW.2.1 rfl (zAe _) Tryz.underlying25) ?_;simp only [pT]
 refine wS rfl rfl ?_;simp only [pT]
 refine zBT rfl rfl (fun K hK => ?_)
 go_simp
 refine (HI1.out _ S1.1).mono ?_
 rintro e w2 ⟨rfl,hbw2⟩
 have Sw2 := upS (x := W1.drew) (y := w2) S1 hbw2
 refine hK _ _ Sw2 ?_
 clear hK K
 try simp only [pT]
 refine wS rfl rfl ?_;simp only [pT]
 refine zBs (v := .agg (zAh j1)) rfl rfl (fun W hW => zAy _ (HEX.out W hW.1) rfl Tryz.underlying29) ?_;simp only [pT]
 refine zBT rfl rfl (fun K hK => ?_)
 go_simp
 refine (HI2.out _ Sw2.1).mono ?_
 rintro e w3 ⟨rfl,hbw3⟩
 have Sw3 := upS (x := w2) (y := w3) Sw2 hbw3
 refine hK _ _ Sw3 ?_
 clear hK K
 try simp only [pT]
 refine wS rfl rfl ?_;simp only [pT]
 refine zBs (v := .agg (zAh j2)) rfl rfl (fun W hW => zAy _ (HEY.out W hW.1) rfl Tryz.underlying29) ?_;simp only [pT]
 refine zBT rfl rfl (fun K hK => ?_)
 have K1 := zz ((HR1.out.drew.belowAll hbw2).belowAll hbw3)
 have K2 := zz ((HR2.out.drew.belowAll hbw2).belowAll hbw3)
 refine zAr K1.out 29 _ _ rfl rfl (.agg (zAh j1)) rfl (by kernel_rfl) (by rfl) (zAG _) fun w4 hb4 ht4 => ?_
 have S4 := stS1 Sw3 hb4 ht4
 refine hK _ _ S4 ?_
 clear hK K
 try simp only [pT]
 refine zBT rfl rfl (fun K hK => ?_)
 refine zAr ((K2.out).turn ht4 (by omega)) 29 _ _ rfl rfl (.agg (zAh j2)) rfl (by kernel_rfl) (by rfl) (zAG _) fun w5 hb5 ht5 => ?_
 have S5 := stS2 S4 hb5 ht5
 refine hK _ _ S5 ?_
 clear hK K
 try simp only [pT]
 refine wS rfl rfl ?_;simp only [pT]
 simp only [wpS]
 go_wp2
 have HBE := S5.1
 refine bodyPost_ret (zDt (c1 := zAh j1) (c2 := zAh j2) (.int .i64 0) ((hb4.turn ht5 (by omega)).eqv (by simp [zAv,zAh,Value.cells])) (hb5.eqv (by simp [zAv,zAh,Value.cells])) rfl rfl rfl rfl Tryz.underlying29) rfl ⟨?_,HBE⟩
 rw [HRA.out,HRB.out,HRE0.out,if_pos rfl,if_pos rfl]
def zEp (js : List Joint) (ls : List Lead) (s : Side) : Int := if s.back = true then (zCQ js ls s.lead).right else (zCQ js ls s.lead).left
theorem rFlange_any (sj : Sl Joint) (sl : Sl Lead) (s : Side) (w : World) (hj : sj.OK 3 zAh zAu (fun _ => False) w) (hl : sl.OK 8 zAf zAB (fun _ => False) w) :
  Calls Tryz.prog 58 #[.agg #[.slice sj.a sj.val.length sj.cap, .slice sl.a sl.val.length sl.cap], .agg (zAa s)] w fun e w' => e = .returned (.tuple #[.int .i64 (zEp sj.val sl.val s), .int .i64 (zDL sj.val sl.val s.lead)]) ∧ Below w.heap.size w w' := by
 have HC : Hid (Det 55 #[.agg #[.slice sj.a sj.val.length sj.cap, .slice sl.a sl.val.length sl.cap], .int .i64 s.lead] _ w) := zz fun W hW => zGp sj sl s.lead W (hj.jmoved hW) (hl.lmoved hW)
 have HB0 : Hid (Below w.heap.size w ((w.alloc (.cells #[.slice sj.a sj.val.length sj.cap, .slice sl.a sl.val.length sl.cap] 25)).alloc (.cells (zAa s) 59))) := zz ((((Lays.refl w).alloc _).alloc _).below (Nat.le_refl _))
 have HWB : Hid (zAc ((w.alloc (.cells #[.slice sj.a sj.val.length sj.cap, .slice sl.a sl.val.length sl.cap] 25)).alloc (.cells (zAa s) 59)) (w.heap.size) 25 #[.slice sj.a sj.val.length sj.cap, .slice sl.a sl.val.length sl.cap]) := zz ((zAc.new w 25 #[.slice sj.a sj.val.length sj.cap, .slice sl.a sl.val.length sl.cap]).alloc _)
 have HSB : Hid (zAc ((w.alloc (.cells #[.slice sj.a sj.val.length sj.cap, .slice sl.a sl.val.length sl.cap] 25)).alloc (.cells (zAa s) 59)) (w.heap.size + 1) 59 (zAa s)) := zz (by have := zAc.new (w.alloc (.cells #[.slice sj.a sj.val.length sj.cap, .slice sl.a sl.val.length sl.cap] 25)) 59 (zAa s);simpa only [World.size_alloc] using this : zAc _ _ _ _)
 obtain ⟨R,hR⟩ : ∃ r,zEp sj.val sl.val s = r := ⟨_,rfl⟩
 have HR : Hid (R = if s.back = true then (zCQ sj.val sl.val s.lead).right else (zCQ sj.val sl.val s.lead).left) := zz hR.symm
 obtain ⟨x,hx⟩ : ∃ x,zCQ sj.val sl.val s.lead = x := ⟨_,rfl⟩
 obtain ⟨E,hE⟩ : ∃ x,zDL sj.val sl.val s.lead = x := ⟨_,rfl⟩
 obtain ⟨sb,hsb⟩ : ∃ b,s.back = b := ⟨_,rfl⟩
 have HS := zz hsb
 simp only [hR,hx,hE,hsb] at HC HR ⊢
 clear hj hl hR hx hE hsb
 go_enter Tryz.func58,Tryz.ntmps58
 go_upto_region 1 with (fail)
 refine rgQ [0,1,2,3,4,5,6] [7,8,9] ?_
 refine zAm (v := _) rfl rfl (fun W hW => zAd _ (HWB.out.belowAll hW) rfl (zAe _) Tryz.underlying25) ?_;simp only [pT]
 (refine wD rfl rfl ?_;simp only [pT])
 refine zAm (v := _) rfl rfl (fun W hW => by have e := (HSB.out.belowAll hW).cell;go_simp;with_reducible rfl) ?_;simp only [pT]
 refine zAL _ _ _ rfl rfl (fun W => by go_simp;try with_reducible rfl) (HC.out.moved HB0.out) ?_;simp only [pT]
 iterate 3 (refine wD rfl rfl ?_;simp only [pT])
 intro W1 HW1
 refine zBk [9,10,11,12,8] fun u => ?_;simp only [zAD,pT]
 refine zCD (T := 31) (cs := #[.int .i64 0, .int .i64 0, .int .i64 0, .int .i64 0, .int .i64 0, .int .i64 0, .int .i64 0, .int .i64 0]) rfl (by kernel_rfl) ?_;simp only [zBm,pT]
 have hfb := zAc.new W1 31 #[.int .i64 0, .int .i64 0, .int .i64 0, .int .i64 0, .int .i64 0, .int .i64 0, .int .i64 0, .int .i64 0]
 have HW3 := HW1.trans (((Below.refl W1.heap.size W1).alloc (Nat.le_refl _) (.cells #[.int .i64 0, .int .i64 0, .int .i64 0, .int .i64 0, .int .i64 0, .int .i64 0, .int .i64 0, .int .i64 0] 31)).mono HW1.size)
 have hfl := HW1.size
 obtain ⟨jx,hj⟩ : ∃ j,W1.heap.size = j := ⟨_,rfl⟩
 rw [hj] at hfb hfl
 simp only [hj]
 refine zA3 hfb rfl rfl (.agg (zAf x)) rfl (by kernel_rfl) (by rfl) (zAU _) fun W2 hb2 ht2 => ?_
 have HX := zz (hb2.eqv (cs' := zAf x) (by simp [zAv,zAf,Value.cells]))
 have HW2 := HW3.trans (ht2.below hfl)
 refine zBx rfl rfl (by go_simp;with_reducible rfl) ?_;simp only [pT]
 refine zBc ?_
 clear hb2 ht2 hfl hfb HW1 HW3 hj W1
 replace HB0 := zz (HB0.out.trans (HW2.mono HB0.out.size))
 replace HSB := zz (HSB.out.belowAll HW2)
 clear HW2
 go_upto_region 2 with (fail)
 refine rgR [0,1] [] (fun _ => (0,#[])) [] ?_
 (refine wD rfl rfl ?_;simp only [pT])
 refine zAm (v := _) rfl rfl (fun W hW => by have e := (HSB.out.belowAll hW).cell;go_simp;with_reducible rfl) ?_;simp only [pT]
 intro f W1 HW1 h1 h2;simp only [zAQ];clear h1 h2 f
 refine zAw [15] fun u => ?_;simp only [zAD,pT]
 simp only [wpS]
 replace HB0 := zz (HB0.out.trans (HW1.mono HB0.out.size))
 replace HX := zz (HX.out.belowAll HW1)
 clear HW1
 simp only [HS.out]
 clear HS
 cases sb
 ·rw [if_neg (by decide)] at HR
  go_upto_region 4 with (fail)
  refine rgQ [0,1,2,3,4] [] ?_
  (refine wD rfl rfl ?_;simp only [pT])
  refine zAm (v := _) rfl rfl (fun W hW => by have e := (HX.out.belowAll hW).cell;go_simp;with_reducible rfl) ?_;simp only [pT]
  iterate 3 (refine wD rfl rfl ?_;simp only [pT])
  intro W1 HW1
  refine zBk [20,21,22] fun u => ?_;simp only [zAD,pT]
  refine zBc ?_
  replace HB0 := zz (HB0.out.trans (HW1.mono HB0.out.size))
  clear HW1
  go_wp2
  go_ret2
  rw [HR.out]
  exact ⟨rfl,HB0.out⟩
 ·rw [if_pos rfl] at HR
  go_upto_region 3 with (fail)
  refine rgQ [0,1,2,3,4] [] ?_
  (refine wD rfl rfl ?_;simp only [pT])
  refine zAm (v := _) rfl rfl (fun W hW => by have e := (HX.out.belowAll hW).cell;go_simp;with_reducible rfl) ?_;simp only [pT]
  iterate 3 (refine wD rfl rfl ?_;simp only [pT])
  intro W1 HW1
  refine zBk [17,18,19] fun u => ?_;simp only [zAD,pT]
  refine zBc ?_
  replace HB0 := zz (HB0.out.trans (HW1.mono HB0.out.size))
  clear HW1
  go_wp2
  go_ret2
  rw [HR.out]
  exact ⟨rfl,HB0.out⟩
def zCJ (sj : Sl Joint) (sl : Sl Lead) (j : Int) (w : World) (e : Ending) (w' : World) : Prop := ∃ v,e = .returned (.tuple #[v, .int .i64 (zCP sj.val sl.val j)]) ∧ OwnL zAa 2 w' w.heap.size 59 v (if zCP sj.val sl.val j = 0 then outA sj.val sl.val j else []) ∧ Below w.heap.size w w'
theorem rAround_any (sj : Sl Joint) (sl : Sl Lead) (j : Int) (w : World) (hj : sj.OK 3 zAh zAu (fun _ => False) w) (hl : sl.OK 8 zAf zAB (fun _ => False) w) :
  Calls Tryz.prog 60 #[.agg #[.slice sj.a sj.val.length sj.cap, .slice sl.a sl.val.length sl.cap], .int .i64 j] w (zCJ sj sl j w) := by
 have HC := zz (zD0 sj sl w hj hl)
 have HI := zz (zEn sj sl j w hj)
 have HA : Hid ((zAE sj.val sl.val).1 = 0 → ∀ W,Below w.heap.size w W → Calls Tryz.prog 98 #[.agg #[.slice sj.a sj.val.length sj.cap, .slice sl.a sl.val.length sl.cap], .int .i64 j] W fun e w' => ∃ v,e = .returned v ∧ OwnL zAa 2 w' W.heap.size 59 v (outA sj.val sl.val j) ∧ Below W.heap.size W w') := zz fun h W hW => by
  have V := zB9 h
  have := around_any sj sl j W (hj.jmoved hW) (hl.lmoved hW) V
  rwa [V.around_eq] at this
 have HB0 : Hid (Below w.heap.size w (w.alloc (.cells #[.slice sj.a sj.val.length sj.cap, .slice sl.a sl.val.length sl.cap] 25))) := zz (((Lays.refl w).alloc _).below (Nat.le_refl _))
 have HWB : Hid (zAc (w.alloc (.cells #[.slice sj.a sj.val.length sj.cap, .slice sl.a sl.val.length sl.cap] 25)) (w.heap.size) 25 #[.slice sj.a sj.val.length sj.cap, .slice sl.a sl.val.length sl.cap]) := zz (zAc.new w 25 #[.slice sj.a sj.val.length sj.cap, .slice sl.a sl.val.length sl.cap])
 obtain ⟨E,hE⟩ : ∃ E,(zAE sj.val sl.val).1 = E := ⟨_,rfl⟩
 obtain ⟨RE,hRE⟩ : ∃ r,zCP sj.val sl.val j = r := ⟨_,rfl⟩
 have HRE : Hid (RE = if E ≠ 0 then E else if (atA sj.val j).isSome = true then 0 else 3) := zz (by rw [← hRE,← hE];rfl)
 obtain ⟨z,hz⟩ : ∃ z,idxI (fun x => decide (x.id = j)) sj.val = z := ⟨_,rfl⟩
 have HZ := zz hz
 have HO : Hid (∀ e w',zCJ sj sl j w e w' ↔ ∃ v,e = .returned (.tuple #[v, .int .i64 RE]) ∧ OwnL zAa 2 w' w.heap.size 59 v (if RE = 0 then outA sj.val sl.val j else []) ∧ Below w.heap.size w w') := zz fun e w' => by unfold zCJ;rw [hRE]
 simp only [hE,hz] at HC HI HA
 clear hj hl hE hRE hz
 go_enter Tryz.func60,Tryz.ntmps60
 go_upto_region 1 with (fail)
 refine rgR [0,1,2] [] (fun _ => (0,#[])) [] ?_
 refine zAm (v := _) rfl rfl (fun W hW => zAd _ (HWB.out.belowAll hW) rfl (zAe _) Tryz.underlying25) ?_;simp only [pT]
 refine zAL _ _ _ rfl rfl (fun W => by go_simp;try with_reducible rfl) (HC.out.moved HB0.out) ?_;simp only [pT]
 (refine wD rfl rfl ?_;simp only [pT])
 intro f W1 HW1 h1 h2;simp only [zAQ];clear h1 h2 f
 refine zAw [7,8] fun u => ?_;simp only [zAD,pT]
 simp only [wpS]
 replace HB0 := zz (HB0.out.trans (HW1.mono HB0.out.size))
 replace HWB := zz (HWB.out.belowAll HW1)
 clear HW1
 by_cases h0 : E = 0
 case neg =>
  go_wp2
  go_ret2
  have e1 : RE = E := by rw [HRE.out,if_pos h0]
  refine (HO.out _ _).2 ⟨_,by rw [e1];rfl, ?_,HB0.out⟩
  rw [e1,if_neg h0]
  exact OwnL.nil _ _ _ _ _
 go_upto_region 4 with (fail)
 refine rgR [0,1,2,3] [] (fun _ => (0,#[])) [] ?_
 refine zAm (v := _) rfl rfl (fun W hW => zAd _ (HWB.out.belowAll hW) rfl (zAe _) Tryz.underlying25) ?_;simp only [pT]
 (refine wD rfl rfl ?_;simp only [pT])
 refine zAL _ _ _ rfl rfl (fun W => by go_simp;try with_reducible rfl) (HI.out.moved HB0.out) ?_;simp only [pT]
 (refine wD rfl rfl ?_;simp only [pT])
 intro f W1 HW1 h1 h2;simp only [zAQ];clear h1 h2 f
 refine zAw [12,13,14] fun u => ?_;simp only [zAD,pT]
 simp only [wpS]
 replace HB0 := zz (HB0.out.trans (HW1.mono HB0.out.size))
 replace HWB := zz (HWB.out.belowAll HW1)
 clear HW1
 by_cases hz : z < 0
 case pos =>
  go_wp2
  go_ret2
  have e1 : RE = 3 := by
   rw [HRE.out,if_neg (by simpa using h0),if_neg]
   have := HZ.out;rw [← this,zDc] at hz
   unfold atA;rw [hz];simp
  refine (HO.out _ _).2 ⟨_,by rw [e1];rfl, ?_,HB0.out⟩
  rw [e1,if_neg (by decide)]
  exact OwnL.nil _ _ _ _ _
 have e1 : Hid (RE = 0) := zz (by
  rw [HRE.out,if_neg (by simpa using h0),if_pos]
  unfold atA
  cases hf : sj.val.find? (fun x => decide (x.id = j)) with
  | none => exact absurd ((zDc _ _).2 hf) (by rw [HZ.out];exact hz)
  | some x => rfl)
 have HA := zz (HA.out h0)
 go_wp2_with (first
  | ((with_reducible refine zAk 16 ?_);refine zAj HWB.out rfl 25 _ rfl rfl #[.slice sj.a sj.val.length sj.cap, .slice sl.a sl.val.length sl.cap] (zAe _) Tryz.underlying25 ?_)
  | (go_at_call 98;refine (HA.out _ HB0.out).mono ?_;rintro e w2 ⟨v,rfl,ho2,hb2⟩;have HO2 := zz ho2;have HB2 := zz hb2;clear ho2 hb2))
 go_ret2
 refine (HO.out _ _).2 ⟨v,by rw [e1.out];rfl, ?_,HB0.out.trans (HB2.out.mono HB0.out.size)⟩
 rw [e1.out,if_pos rfl]
 exact HO2.out.base_le HB0.out.size
end Go.Proofs.YtbbblemfodpmaaaGreat
end
