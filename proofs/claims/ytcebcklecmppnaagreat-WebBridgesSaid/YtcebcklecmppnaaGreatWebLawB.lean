/-
  WebBridges answers true: the law.
-/
import Derived.Test.YtcebcklecmppnaaGreatWebLawE
import Derived.Test.YtcebcklecmppnaaGreatWebGs
set_option linter.unusedVariables false
set_option linter.unusedSimpArgs false
set_option maxHeartbeats 16000000
set_option maxRecDepth 100000
namespace Go.Proofs.YtcebcklecmppnaaGreat
open Go.RowKit
theorem Sl.OK.intsAt {w : World} {a : Option Addr} {c : Nat} {L : List Int} (h : Sl.OK 1 zAS (fun _ _ _ => True) (fun _ => False) w ⟨a,c,L⟩) : ∃ b o,∀ k x,L[k]? = some x → a = some ⟨b,o,none⟩ ∧ ∀ W,Below w.heap.size w W → W.cell? ⟨b,o + k,none⟩ = some (.int .i64 x) := by
 have one : ∀ k x,L[k]? = some x → ∃ b o,a = some ⟨b,o,none⟩ ∧ ∀ W,Below w.heap.size w W → W.cell? ⟨b,o + k,none⟩ = some (.int .i64 x) := fun k x hx => by
  obtain ⟨b,o,e,hb,_,_,hc⟩ := h.at hx
  refine ⟨b,o,e,fun W hW => ?_⟩
  have := hc 0 (by show 0 < 1;decide)
  rw [Nat.mul_one,Nat.add_zero] at this
  rw [hW.cell (p := ⟨b,o + k,none⟩) hb]
  exact this
 cases L with
 | nil => exact ⟨0,0,fun k x h => by simp at h⟩
 | cons y r =>
  obtain ⟨b,o,e,_⟩ := one 0 y rfl
  refine ⟨b,o,fun k x hx => ?_⟩
  obtain ⟨b',o',e',hc⟩ := one k x hx
  rw [e] at e'
  simp only [Option.some.injEq,Addr.mk.injEq,and_true] at e'
  obtain ⟨rfl,rfl⟩ := e'
  exact ⟨e,hc⟩
theorem among_det (a : Option Addr) (c : Nat) (L : List Int) (x : Int) (w : World) (h1 : Sl.OK 1 zAS (fun _ _ _ => True) (fun _ => False) w ⟨a,c,L⟩) (hlen : L.length ≤ 800) :
  Det 19 #[.slice a L.length c, .int .i64 x] (.bool (L.contains x)) w := fun w0 hw0 => by
 obtain ⟨b1,o1,k1⟩ := (h1.up hw0).intsAt
 have HK1 := zz k1
 have HB0 : Hid (Below w0.heap.size w0 w0) := zz (Below.refl _ _)
 clear h1 hw0 w k1
 obtain ⟨w,rfl⟩ : ∃ w,w = w0 := ⟨_,rfl⟩
 obtain ⟨n,hn⟩ : ∃ n,L.length = n := ⟨_,rfl⟩
 have HN := zz hn
 obtain ⟨r,hr⟩ : ∃ r,L.contains x = r := ⟨_,rfl⟩
 have HR := zz hr
 simp only [hn,hr] at hlen ⊢
 clear hn hr
 go_enter Tryz.func19,Tryz.ntmps19
 go_wp2
 go_loopw [5] (fun i wr => ∃ k : Nat,k ≤ n ∧ i = .int .i64 k ∧ Hid ((L.take k).contains x = false) ∧ Hid (Below w.heap.size w wr)) (fun i _ => n - (intOf i).toNat)
 case atStart => exact ⟨0,Nat.zero_le _,rfl,zz (by simp),HB0⟩
 case round =>
  obtain ⟨k,hk,rfl,HNO,HW⟩ := hrel
  by_cases hlt : k < n
  ·obtain ⟨y,hy⟩ : ∃ y,L[k]? = some y := ⟨_,List.getElem?_eq_getElem (by rw [HN.out];exact hlt)⟩
   obtain ⟨e1,d1⟩ := HK1.out k y hy
   subst e1
   have q1 := d1 wr HW.out
   have HST : Hid ((L.take (k + 1)).contains x = ((L.take k).contains x || (x == y))) := zz (by rw [List.take_add_one,hy];simp [List.contains_eq_any_beq];rfl)
   have HIN := zz (List.mem_of_getElem? hy)
   clear hy d1
   by_cases hyx : y = x
   ·have HRT : Hid (r = true) := zz (by rw [← HR.out,← hyx];simpa using HIN.out)
    subst hyx
    go_wp2
    go_ret
    rw [HRT.out]
    exact ⟨rfl,HW.out⟩
   ·have HNX : Hid ((L.take (k + 1)).contains x = false) := zz (by rw [HST.out,HNO.out];simpa using fun e : x = y => hyx e.symm)
    go_wp2
    go_roundw
    case rel => exact ⟨k + 1,by omega,by go_num,HNX,HW⟩
    case measure => simp [intOf];omega
  ·have hkn : k = n := by omega
   subst hkn
   go_wp2
   go_ret
   refine ⟨?_,HW.out⟩
   have h := HNO.out
   rw [List.take_of_length_le (by rw [HN.out];exact Nat.le_refl _)] at h
   rw [← HR.out,h]
   rfl
theorem zAW.one {w : World} {a : Option Addr} {c : Nat} {L : List Side} {N : Nat} (h : OwnL zAa 2 w N 61 (.slice a L.length c) L) (hN : N ≤ w.heap.size) :
  zAW (w.alloc (.cells #[.slice a L.length c] 57)) N (.slice (some ⟨w.heap.size,0,none⟩) 1 1) [L] := by
 refine ⟨[⟨a,c,L⟩],⟨rfl, .inr ⟨w.heap.size,1,#[.slice a L.length c],rfl,hN, ?_,Nat.le_refl _,by decide,rfl,rfl⟩⟩,fun s hs => ?_,rfl⟩
 ·exact (MapKept.heap_alloc w _).1
 ·obtain rfl : s = ⟨a,c,L⟩ := by simpa using hs
  exact h.belowAll ((Below.refl _ _).alloc (Nat.le_refl _) _)
theorem wbridges_any (sj : Sl Joint) (sl : Sl Lead) (w : World) (hj : sj.OK 3 zAh zAy (fun _ => False) w) (hl : sl.OK 8 zAd zAA (fun _ => False) w) (hf1 : sj.val.length ≤ 40) (hf2 : sl.val.length ≤ 60) :
  Calls Tryz.prog 5 #[.agg #[.slice sj.a sj.val.length sj.cap, .slice sl.a sl.val.length sl.cap]] w fun e w' => e = .returned (.bool true) ∧ Below w.heap.size w w' := by
 have HBA : Hid (∀ W,Below w.heap.size w W → Calls Tryz.prog 16 #[.agg #[.slice sj.a sj.val.length sj.cap, .slice sl.a sl.val.length sl.cap]] W fun e w' => ∃ v,e = .returned (.tuple #[v, .int .i64 (zAB sj.val sl.val).1]) ∧ OwnL zAS 1 w' W.heap.size 3 v (zCg sj.val sl.val) ∧ Below W.heap.size W w') := zz fun W hW => Bridges_all sj sl W (hj.jmoved hW) (hl.lmoved hW)
 have HNB : Hid ((zAB sj.val sl.val).1 ≠ 0 → zCg sj.val sl.val = []) := zz fun h => by unfold zCg;rw [if_neg h]
 have HGD : Hid ((zAB sj.val sl.val).1 = 0 → (∀ W x,x ∈ sl.val → Below w.heap.size w W → Calls Tryz.prog 17 #[.agg #[.slice sj.a sj.val.length sj.cap, .slice sl.a sl.val.length sl.cap], .agg (zAa ⟨x.id,false⟩)] W fun e w' => ∃ v,e = .returned (.tuple #[v, .int .i64 0]) ∧ OwnL zAa 2 w' W.heap.size 61 v (zAK sj.val sl.val ⟨x.id,false⟩) ∧ Below W.heap.size W w') ∧
   (∀ x ∈ sl.val,(zAK sj.val sl.val ⟨x.id,false⟩).length ≤ 800) ∧ zCg sj.val sl.val = (sl.val.filter (zBn sj.val sl.val)).map (·.id) ∧
   (∀ x ∈ sl.val,decide (0 < (zAK sj.val sl.val ⟨x.id,false⟩).count ⟨x.id,true⟩) = zBn sj.val sl.val x) ∧ (∀ x ∈ sl.val,(zCg sj.val sl.val).contains x.id = zBn sj.val sl.val x)) := zz fun h => by
  have V := zCL h
  have hside : ∀ x ∈ sl.val,zAF sl.val ⟨x.id,false⟩ := fun x hx => ⟨x,hx,rfl⟩
  have hb : zCg sj.val sl.val = (sl.val.filter (zBn sj.val sl.val)).map (·.id) := by unfold zCg;rw [if_pos h];rfl
  refine ⟨fun W x hx hW => ?_,fun x hx => zDQ V (hside x hx),hb,fun x hx => ?_,fun x hx => ?_⟩
  ·refine Walk_ok sj sl _ W (hj.jmoved hW) (hl.lmoved hW) ?_ ?_
   ·have := V.lok x hx
    unfold zCs zBw at this
    simp only [Bool.and_eq_true,decide_eq_true_eq] at this
    show I64 x.id
    unfold I64;omega
   ·unfold zDs
    rw [if_neg (by simp [h]),if_pos (by show (zBB sl.val x.id).isSome = true;rw [V.lead hx];rfl)]
  ·have hw := V.bridge_walk (s := ⟨x.id,false⟩) hx rfl
   rw [show revA (⟨x.id,false⟩ : Side) = ⟨x.id,true⟩ from rfl] at hw
   rw [Bool.eq_iff_iff,decide_eq_true_eq,List.count_pos_iff]
   exact hw
  ·rw [hb,Bool.eq_iff_iff,List.contains_iff_mem,List.mem_map]
   constructor
   ·rintro ⟨y,hy,e⟩
    obtain ⟨hy1,hy2⟩ := List.mem_filter.1 hy
    rw [← V.lead_id hy1 hx e];exact hy2
   ·intro hb
    exact ⟨x,List.mem_filter.2 ⟨hx,hb⟩,rfl⟩
 have HL := zz hl
 have HB0 : Hid (Below w.heap.size w (w.alloc (.cells #[.slice sj.a sj.val.length sj.cap, .slice sl.a sl.val.length sl.cap] 25))) := zz (((Lays.refl w).alloc _).below (Nat.le_refl _))
 have HWB : Hid (zAe (w.alloc (.cells #[.slice sj.a sj.val.length sj.cap, .slice sl.a sl.val.length sl.cap] 25)) (w.heap.size) 25 #[.slice sj.a sj.val.length sj.cap, .slice sl.a sl.val.length sl.cap]) := zz (zAe.new w 25 #[.slice sj.a sj.val.length sj.cap, .slice sl.a sl.val.length sl.cap])
 obtain ⟨aj,cj,js⟩ := sj
 obtain ⟨al,cl,ls⟩ := sl
 obtain ⟨nj,hn1⟩ : ∃ n,js.length = n := ⟨_,rfl⟩
 obtain ⟨nl,hn2⟩ : ∃ n,ls.length = n := ⟨_,rfl⟩
 have HNL := zz hn2
 obtain ⟨BR,hn4⟩ : ∃ n,zCg js ls = n := ⟨_,rfl⟩
 obtain ⟨WK,hn3⟩ : ∃ f : Int → List Side,∀ i,zAK js ls ⟨i,false⟩ = f i := ⟨_,fun _ => rfl⟩
 obtain ⟨isB,hn6⟩ : ∃ f,zBn js ls = f := ⟨_,rfl⟩
 obtain ⟨E,hn5⟩ : ∃ n,(zAB js ls).1 = n := ⟨_,rfl⟩
 simp only [hn1,hn2,hn3,hn4,hn5,hn6] at HBA HNB HGD HB0 HWB hf1 hf2 ⊢
 clear hn1 hn2 hn3 hn4 hn5 hn6 hj hl
 go_enter Tryz.func5,Tryz.ntmps5
 have m1 : ¬ 40 < nj := by omega
 have m2 : ¬ 60 < nl := by omega
 go_upto_region 5 with (first
  | (go_at_call 9;refine (zCW _).mono ?_;rintro e w1 ⟨rfl,hb1⟩;replace HWB := zz (HWB.out.belowAll hb1);replace HB0 := hTr HB0 hb1;clear hb1;have q0 := (HWB.out.cell 0).trans (show _ = some (.slice aj nj cj) from rfl);have q1 := (HWB.out.cell 1).trans (show _ = some (.slice al nl cl) from rfl))
  | ((with_reducible refine zAk 24 ?_);refine zAl HWB.out rfl 25 _ rfl rfl #[.slice aj nj cj, .slice al nl cl] (zAi _) zuD ?_)
  | (go_at_call 16;refine (HBA.out _ HB0.out).mono ?_;rintro e w2 ⟨v,rfl,ho1,hb2⟩;replace HWB := zz (HWB.out.belowAll hb2);have HB2 := zz (HB0.out.trans (hb2.mono HB0.out.size));have HO := zz ho1;clear hb2 ho1 HB0))
 obtain ⟨ba,bc,e⟩ := HO.out.shape
 subst e
 by_cases h0 : E = 0
 case neg =>
  have hz := HNB.out h0
  subst hz
  go_wp2
  go_ret
  exact ⟨by simp,HB2.out⟩
 subst h0
 obtain ⟨g1,g2,g3,g4,g5⟩ := HGD.out rfl
 have HWK := zz g1
 have HWL := zz g2
 have HCT := zz g4
 have HCN := zz g5
 obtain ⟨T,hT⟩ : ∃ T : Nat → Nat,∀ k,((ls.take k).filter isB).length = T k := ⟨_,fun _ => rfl⟩
 have HT := zz hT
 have HTE : Hid (T nl = BR.length) := zz (by rw [← hT,List.take_of_length_le (by rw [HNL.out];exact Nat.le_refl _),g3,List.length_map])
 have HTL : Hid (∀ k,T k ≤ nl) := zz fun k => by rw [← hT,← HNL.out];exact Nat.le_trans (List.length_filter_le _ _) (List.length_take_le' _ _)
 have hBL : BR.length ≤ 60 := by rw [← HTE.out];have := HTL.out nl;omega
 have HAL := zz fun x => among_det ba bc BR x w2 (HO.out.okSl (fun _ => rfl) (fun _ _ _ => True) (fun _ _ => trivial) (by omega)) (by omega)
 have HWA : Hid (∀ W,Below w2.heap.size w2 W → zAe W w.heap.size 25 #[.slice aj nj cj, .slice al nl cl]) := zz fun W hW => HWB.out.belowAll hW
 obtain ⟨lb,hlb⟩ : ∃ n,BR.length = n := ⟨_,rfl⟩
 rw [hlb] at HTE
 simp only [hlb] at HAL ⊢
 clear g1 g2 g3 g4 g5 HGD HNB HBA hT HO hBL hlb
 go_wp2
 go_loopw [6,7] (fun fv i wr => ∃ k : Nat,k ≤ nl ∧ i = .int .i64 k ∧ fv = .int .i64 ((T k : Nat) : Int) ∧ Hid (Below w2.heap.size w2 wr)) (fun _ i _ => nl - (intOf i).toNat)
 case atStart => exact ⟨0,Nat.zero_le _,rfl,by rw [← HT.out];rfl,zz (Below.refl _ _)⟩
 case round =>
  obtain ⟨k,hk,rfl,rfl,HW⟩ := hrel
  have q0 := ((HWA.out wr HW.out).cell 1).trans (show _ = some (.slice al nl cl) from rfl)
  by_cases hlt : k < nl
  ·obtain ⟨x,hx⟩ : ∃ x,ls[k]? = some x := ⟨_,List.getElem?_eq_getElem (by rw [HNL.out];exact hlt)⟩
   obtain ⟨bb,o,e,hab,_,_,hca⟩ := HL.out.at hx
   simp only at e
   subst e
   have HX0 : Hid (∀ W,Below w.heap.size w W → W.cell? ⟨bb,o + k * 8,none⟩ = some (.int .i64 x.id)) := zz fun W hW => by
    have := hca 0 (by show 0 < 8;decide)
    rw [Nat.add_zero] at this
    rw [hW.cell (p := ⟨bb,o + k * 8,none⟩) hab]
    exact this
   have hmx := List.mem_of_getElem? hx
   have HMX := zz hmx
   have hb1 := HCT.out x hmx
   have HAM := HAL.out x.id
   rw [HCN.out x hmx] at HAM
   replace HAM := zz HAM
   have hwl := HWL.out x hmx
   obtain ⟨b,hb⟩ : ∃ b,isB x = b := ⟨_,rfl⟩
   rw [hb] at hb1 HAM
   have HTN : Hid (T (k + 1) = T k + b.toNat) := zz (by rw [← HT.out,← HT.out,zCy hx,hb,List.length_append];cases b <;> rfl)
   have htl := HTL.out k
   clear hx hab hca hmx hb
   go_upto_region 11 with (fail)
   clear q0
   have S1 : (fun W => Below w2.heap.size w2 W) wr.drew := HW.out.drew
   refine zFk (fun W => Below w2.heap.size w2 W) [(0,true),(1,true),(2,true),(3,true),(4,true),(5,true),(6,true),(7,true),(8,false),(9,true),(10,true),(11,true),(12,true),(13,true)] rfl (by kernel_rfl) (by kernel_rfl) (fun d _ _ _ _ h => by cases d <;> exact h) S1 ?_
   refine zB6 (v := .agg #[.slice aj nj cj, .slice (some ⟨bb,o,none⟩) nl cl]) rfl rfl (fun W hW => zAg _ (HWA.out W hW) rfl (zAi _) zuD) ?_;simp only [pT]
   refine wS rfl rfl ?_;simp only [pT]
   refine zB6 (v := .slice (some ⟨bb,o,none⟩) nl cl) rfl rfl (fun W hW => by have e := (HWA.out W hW).cell;go_simp) ?_;simp only [pT]
   iterate 3 (refine wS rfl rfl ?_;simp only [pT])
   refine zB6 (v := .int .i64 x.id) rfl rfl (fun W hW => by have e := HX0.out W (HB2.out.trans (hW.mono HB2.out.size));go_simp) ?_;simp only [pT]
   refine zB6 (v := .agg (zAa ⟨x.id,false⟩)) rfl rfl (fun W hW => by go_simp;rfl) ?_;simp only [pT]
   refine zC6 rfl rfl (fun K hK => ?_)
   go_simp
   refine (HWK.out _ x HMX.out (HB2.out.trans (S1.mono HB2.out.size))).mono ?_
   rintro e w3 ⟨v,rfl,ho1,hb3⟩
   have S2 : (fun W => Below w2.heap.size w2 W) w3 := S1.trans (hb3.mono S1.size)
   refine hK _ _ S2 ?_
   clear hK K
   try simp only [pT]
   iterate 5 (refine wS rfl rfl ?_;simp only [pT])
   simp only [wpS]
   obtain ⟨wa,wc,e⟩ := ho1.shape
   subst e
   have hal : Below w3.heap.size w3 (w3.alloc (.cells #[.slice wa (WK x.id).length wc] 57)) := (Below.refl _ _).alloc (Nat.le_refl _) _
   have htm := times_any _ [WK x.id] ⟨x.id,true⟩ _ (zAW.one ho1 hb3.size) (by simp) (by simp;omega)
   simp only [List.flatten_cons,List.flatten_nil,List.append_nil] at htm
   obtain ⟨cnt,hcnt⟩ : ∃ c,(WK x.id).count ⟨x.id,true⟩ = c := ⟨_,rfl⟩
   rw [hcnt] at hb1 htm
   have HTM := zz htm
   obtain ⟨t,ht⟩ : ∃ t,T k = t := ⟨_,rfl⟩
   rw [ht] at htl HTN
   simp only [ht]
   have q1a := ((HWA.out w3 S2).alloc (.cells #[.slice wa (WK x.id).length wc] 57)).cell 1 |>.trans (show _ = some (.slice (some ⟨bb,o,none⟩) nl cl) from rfl)
   have q2a := HX0.out _ (HB2.out.trans ((S2.trans (hal.mono S2.size)).mono HB2.out.size))
   have K1 : IntKind.i64.wrap ((t : Int) + 1) = ((t + 1 : Nat) : Int) := by rw [IntWalk.i64_in _ (by omega)];omega
   clear hcnt ht htm ho1 HW
   cases b
   case true =>
    have hc0 : 0 < cnt := by simpa using hb1
    clear hb1
    go_wp2_with (first
     | (go_at_call 18;refine (HTM.out).mono ?_;rintro e w4 ⟨rfl,hb4⟩;have HB4 := zz (S2.trans ((hal.trans (hb4.mono hal.size)).mono S2.size));have q1b := ((HWA.out w4 HB4.out).cell 1).trans (show _ = some (.slice (some ⟨bb,o,none⟩) nl cl) from rfl);have q2b := HX0.out w4 (HB2.out.trans (HB4.out.mono HB2.out.size)))
     | (go_at_call 19;refine (HAM.out w4 HB4.out).mono ?_;rintro e w6 ⟨rfl,hb6⟩))
    go_roundw
    case rel => exact ⟨k + 1,by omega,by go_num,by rw [HTN.out];try go_num,zz (HB4.out.trans (hb6.mono HB4.out.size))⟩
    case measure => simp [intOf];omega
   case false =>
    have hc0 : ¬ 0 < cnt := by simpa using hb1
    clear hb1
    go_wp2_with (first
     | (go_at_call 18;refine (HTM.out).mono ?_;rintro e w4 ⟨rfl,hb4⟩;have HB4 := zz (S2.trans ((hal.trans (hb4.mono hal.size)).mono S2.size));have q1b := ((HWA.out w4 HB4.out).cell 1).trans (show _ = some (.slice (some ⟨bb,o,none⟩) nl cl) from rfl);have q2b := HX0.out w4 (HB2.out.trans (HB4.out.mono HB2.out.size)))
     | (go_at_call 19;refine (HAM.out w4 HB4.out).mono ?_;rintro e w6 ⟨rfl,hb6⟩))
    go_roundw
    case rel => exact ⟨k + 1,by omega,by go_num,by rw [HTN.out];try go_num,zz (HB4.out.trans (hb6.mono HB4.out.size))⟩
    case measure => simp [intOf];omega
  ·have hkn : k = nl := by omega
   subst hkn
   rw [HTE.out]
   go_wp2
   go_ret
   exact ⟨by simp,HB2.out.trans (HW.out.mono HB2.out.size)⟩
theorem wbridges_big (aj al : Option Addr) (nj cj nl cl : Nat) (w : World) (hbig : 40 < nj ∨ 60 < nl) :
  Calls Tryz.prog 5 #[.agg #[.slice aj nj cj, .slice al nl cl]] w fun e w' => e = .returned (.bool true) ∧ Below w.heap.size w w' := by
 have HB0 : Hid (Below w.heap.size w (w.alloc (.cells #[.slice aj nj cj, .slice al nl cl] 25))) := zz (((Lays.refl w).alloc _).below (Nat.le_refl _))
 have HWB : Hid (zAe (w.alloc (.cells #[.slice aj nj cj, .slice al nl cl] 25)) (w.heap.size) 25 #[.slice aj nj cj, .slice al nl cl]) := zz (zAe.new w 25 #[.slice aj nj cj, .slice al nl cl])
 go_enter Tryz.func5,Tryz.ntmps5
 by_cases h1 : 40 < nj
 ·go_wp2_with (first
   | (go_at_call 9;refine (zCW _).mono ?_;rintro e w1 ⟨rfl,hb1⟩;replace HWB := zz (HWB.out.belowAll hb1);replace HB0 := hTr HB0 hb1;clear hb1;have q0 := (HWB.out.cell 0).trans (show _ = some (.slice aj nj cj) from rfl);have q1 := (HWB.out.cell 1).trans (show _ = some (.slice al nl cl) from rfl)))
  go_ret
  exact ⟨rfl,HB0.out⟩
 ·have h2 : 60 < nl := by omega
  clear hbig
  go_wp2_with (first
   | (go_at_call 9;refine (zCW _).mono ?_;rintro e w1 ⟨rfl,hb1⟩;replace HWB := zz (HWB.out.belowAll hb1);replace HB0 := hTr HB0 hb1;clear hb1;have q0 := (HWB.out.cell 0).trans (show _ = some (.slice aj nj cj) from rfl);have q1 := (HWB.out.cell 1).trans (show _ = some (.slice al nl cl) from rfl)))
  go_ret
  exact ⟨rfl,HB0.out⟩
end Go.Proofs.YtcebcklecmppnaaGreat
