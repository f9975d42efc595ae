/-
  WebEuler answers true: the law.
-/
import Derived.Test.YtcebcklecmppnaaGreatWebPa
import Derived.Test.YtcebcklecmppnaaGreatWebPx
import Derived.Test.YtcebcklecmppnaaGreatWebGr
import Derived.Test.YtcebcklecmppnaaGreatWebGv
set_option linter.unusedVariables false
set_option linter.unusedSimpArgs false
set_option maxHeartbeats 16000000
set_option maxRecDepth 100000
namespace Go.Proofs.YtcebcklecmppnaaGreat
open Go.RowKit
def zDY (js : List Joint) (ls : List Lead) : Count := if (zAB js ls).1 = 0 then zDT js ls else zEs
theorem weuler_any (sj : Sl Joint) (sl : Sl Lead) (w : World) (hj : sj.OK 3 zAh zAy (fun _ => False) w) (hl : sl.OK 8 zAd zAA (fun _ => False) w) (hf1 : sj.val.length ≤ 60) (hf2 : sl.val.length ≤ 90) :
  Calls Tryz.prog 3 #[.agg #[.slice sj.a sj.val.length sj.cap, .slice sl.a sl.val.length sl.cap]] w fun e w' => e = .returned (.bool true) ∧ Below w.heap.size w w' := by
 have DE : Hid (Det 10 #[.agg #[.slice sj.a sj.val.length sj.cap, .slice sl.a sl.val.length sl.cap]] (.tuple #[.agg (zAL (zDY sj.val sl.val)), .int .i64 (zAB sj.val sl.val).1]) w) := zz fun W hW => by
  unfold zDY
  by_cases h0 : (zAB sj.val sl.val).1 = 0
  ·rw [if_pos h0,h0];exact Euler_ok sj sl W (hj.jmoved hW) (hl.lmoved hW) h0
  ·rw [if_neg h0];exact Euler_bad sj sl W (hj.jmoved hW) (hl.lmoved hW) h0
 have DC : Hid (Det 11 #[.agg #[.slice sj.a sj.val.length sj.cap, .slice sl.a sl.val.length sl.cap]] (.tuple #[.int .i64 (zAB sj.val sl.val).1, .int .i64 (zAB sj.val sl.val).2]) w) := zz fun W hW => zD3 sj sl W (hj.jmoved hW) (hl.lmoved hW)
 have HCO : Hid (∀ W,Below w.heap.size w W → Calls Tryz.prog 12 #[.agg #[.slice sj.a sj.val.length sj.cap, .slice sl.a sl.val.length sl.cap]] W fun e w' => ∃ a c,e = .returned (.tuple #[.slice a (zDu sj.val sl.val).length c, .int .i64 (zAB sj.val sl.val).1]) ∧ Below W.heap.size W w') := zz fun W hW => (zF9 sj sl W (hj.jmoved hW) (hl.lmoved hW)).mono fun e w' => by
  rintro ⟨v,ss,rfl,ho,hss,hb⟩
  obtain ⟨a,c,rfl⟩ := ho.outer.shape
  refine ⟨a,c, ?_,hb⟩
  rw [← hss,List.length_map]
 have HEU : Hid ((zAB sj.val sl.val).1 = 0 → ∃ F : Int,zDY sj.val sl.val = ⟨sj.val.length,sl.val.length,F,(zDu sj.val sl.val).length⟩ ∧ (sj.val.length : Int) - sl.val.length + F = 1 + ((zDu sj.val sl.val).length : Int) ∧ (zDu sj.val sl.val).length ≤ 200) := zz fun h0 => by
  have V := zCL h0
  have h := V.euler
  unfold zDY zDu zDT
  simp only [if_pos h0]
  exact ⟨_,rfl,by omega,zFp V⟩
 have HZ : Hid ((zAB sj.val sl.val).1 ≠ 0 → zDY sj.val sl.val = zEs) := zz fun h => by unfold zDY;rw [if_neg h]
 have HB0 : Hid (Below w.heap.size w (w.alloc (.cells #[.slice sj.a sj.val.length sj.cap, .slice sl.a sl.val.length sl.cap] 25))) := zz (((Lays.refl w).alloc _).below (Nat.le_refl _))
 have HWB : Hid (zAe (w.alloc (.cells #[.slice sj.a sj.val.length sj.cap, .slice sl.a sl.val.length sl.cap] 25)) (w.heap.size) 25 #[.slice sj.a sj.val.length sj.cap, .slice sl.a sl.val.length sl.cap]) := zz (zAe.new w 25 #[.slice sj.a sj.val.length sj.cap, .slice sl.a sl.val.length sl.cap])
 obtain ⟨aj,cj,js⟩ := sj
 obtain ⟨al,cl,ls⟩ := sl
 obtain ⟨nj,hn1⟩ : ∃ n,js.length = n := ⟨_,rfl⟩
 obtain ⟨nl,hn2⟩ : ∃ n,ls.length = n := ⟨_,rfl⟩
 obtain ⟨nc,hn3⟩ : ∃ n,(zDu js ls).length = n := ⟨_,rfl⟩
 obtain ⟨cn,hn4⟩ : ∃ n,zDY js ls = n := ⟨_,rfl⟩
 obtain ⟨E,hn5⟩ : ∃ n,(zAB js ls).1 = n := ⟨_,rfl⟩
 obtain ⟨E2,hn6⟩ : ∃ n,(zAB js ls).2 = n := ⟨_,rfl⟩
 simp only [hn1,hn2,hn3,hn4,hn5,hn6] at DE DC HCO HEU HZ HB0 HWB hf1 hf2 ⊢
 clear hn1 hn2 hn3 hn4 hn5 hn6 hj hl
 go_enter Tryz.func3,Tryz.ntmps3
 have m1 : ¬ 60 < nj := by omega
 have m2 : ¬ 90 < nl := by omega
 go_upto_region 4 with (first
  | (go_at_call 9;refine (zCW _).mono ?_;rintro e w1 ⟨rfl,hb1⟩;replace HWB := zz (HWB.out.belowAll hb1);replace HB0 := hTr HB0 hb1;clear hb1;have q0 := (HWB.out.cell 0).trans (show _ = some (.slice aj nj cj) from rfl);have q1 := (HWB.out.cell 1).trans (show _ = some (.slice al nl cl) from rfl)))
 clear q0 q1
 refine rgQ [0,1,2,3,4] [5,6,7] ?_
 refine wpD_fix (v := _) rfl rfl (fun W hW => zAg _ (HWB.out.belowAll hW) rfl (zAi _) zuD) ?_;simp only [pT]
 refine wpD_call _ _ _ rfl rfl (fun W => by go_simp;try with_reducible rfl) (DE.out.moved HB0.out) ?_;simp only [pT]
 iterate 3 (refine wD rfl rfl ?_;simp only [pT])
 intro W1 HW1
 refine zDG [23,24,22] fun u => ?_;simp only [zDx,pT]
 refine wpO_box (T := 28) (cs := #[.int .i64 0, .int .i64 0, .int .i64 0, .int .i64 0]) rfl (by kernel_rfl) ?_;simp only [zDg,World.size_alloc,pT]
 have hfb0 := zAe.new W1 28 #[.int .i64 0, .int .i64 0, .int .i64 0, .int .i64 0]
 have HW3 := HW1.trans (((Below.refl W1.heap.size W1).alloc (Nat.le_refl _) (.cells #[.int .i64 0, .int .i64 0, .int .i64 0, .int .i64 0] 28)).mono HW1.size)
 have hfl := HW1.size
 refine wpO_store hfb0 rfl rfl (.agg (zAL cn)) rfl (by kernel_rfl) (by rfl) (encCount_one _) fun W2 hbs0 hts0 => ?_
 have HV0 := HW3.trans (hts0.below (by omega))
 have HCB := zz (hbs0.eqv (cs' := zAL cn) (by simp [zAJ,zAL,Value.cells]))
 refine wpO_val rfl rfl (by go_simp;with_reducible rfl) ?_;simp only [pT]
 refine wpO_nil ?_
 have HW2 := HV0
 obtain ⟨jc,hj0⟩ : ∃ j,W1.heap.size = j := ⟨_,rfl⟩
 simp only [hj0] at HCB ⊢
 clear hfb0 hbs0 hts0 HV0 hfl HW1 HW3 hj0
 replace HB0 := hTr HB0 HW2
 replace HWB := zz (HWB.out.belowAll HW2)
 clear HW2
 go_upto_region 5 with (fail)
 refine rgQ [0,1,2,3,4,5,6] [] ?_
 refine wpD_fix (v := _) rfl rfl (fun W hW => zAg _ (HWB.out.belowAll hW) rfl (zAi _) zuD) ?_;simp only [pT]
 refine wpD_call _ _ _ rfl rfl (fun W => by go_simp;try with_reducible rfl) (DC.out.moved HB0.out) ?_;simp only [pT]
 iterate 5 (refine wD rfl rfl ?_;simp only [pT])
 intro W1 HW1
 refine zDG [28,29,27,30,31,7] fun u => ?_;simp only [zDx,pT]
 refine wpO_nil ?_
 replace HB0 := hTr HB0 HW1
 replace HWB := zz (HWB.out.belowAll HW1)
 replace HCB := zz (HCB.out.belowAll HW1)
 clear HW1
 by_cases h0 : E = 0
 case neg =>
  have hz := HZ.out h0
  subst hz
  go_upto_region 7 with (fail)
  refine rgQ [0,1,2,3,4,5,6,7,8,9,10,11] [] ?_
  iterate 2 (refine wD rfl rfl ?_;simp only [pT])
  iterate 3 (refine wI rfl rfl ?_;simp only [pT])
  refine zDe rfl rfl rfl ?_;simp only [pT]
  (refine wD rfl rfl ?_;simp only [pT])
  refine zBA (v := _) rfl rfl (fun hg W hW => zAg _ (HCB.out.belowAll hW) rfl (zAi _) Tryz.underlying28) ?_;simp only [pT]
  (refine wI rfl rfl ?_;simp only [pT])
  refine zBA (v := .bool true) rfl rfl (fun hg W hW => by (try simp only [Bool.and_eq_true] at hg);(try simp only [hg,Bool.and_self,zBo]);go_simp;try simp [zEs]) ?_;simp only [pT]
  refine zDe rfl rfl rfl ?_;simp only [pT]
  (refine wD rfl rfl ?_;simp only [pT])
  intro W1 HW1
  refine zDG [34,35,36,37,38,39,40,41,42,43,44] fun u => ?_;simp only [zDx,pT]
  refine wpO_nil ?_
  replace HB0 := hTr HB0 HW1
  clear HW1
  go_wp2
  go_ret
  exact ⟨rfl,HB0.out⟩
 subst h0
 obtain ⟨Fc,rfl,he,hc⟩ := HEU.out rfl
 have K1 : Hid (IntKind.i64.wrap ((nj : Int) - nl) = (nj : Int) - nl) := zz (IntWalk.i64_in _ (by omega))
 have K2 : Hid (IntKind.i64.wrap ((nj : Int) - nl + Fc) = 1 + (nc : Int)) := zz (by rw [he];exact IntWalk.i64_in _ (by omega))
 have K3 : Hid (IntKind.i64.wrap (1 + (nc : Int)) = 1 + (nc : Int)) := zz (IntWalk.i64_in _ (by omega))
 clear he HEU HZ DE DC
 go_upto_region 9 with (first
  | ((with_reducible refine zAk 46 ?_);refine zAl HWB.out rfl 25 _ rfl rfl #[.slice aj nj cj, .slice al nl cl] (zAi _) zuD ?_)
  | (go_at_call 12;refine (HCO.out _ HB0.out).mono ?_;rintro e w2 ⟨ca,cc,rfl,hb2⟩;replace HWB := zz (HWB.out.belowAll hb2);replace HCB := zz (HCB.out.belowAll hb2);replace HB0 := hTr HB0 hb2;clear hb2))
 refine rgQ [0,1,2,3,4,5,6,7,8,9,10,11,12,13,14,15,16,17,18,19,20,21,22,23,24,25,26,27,28,29,30,31,32,33,34,35,36,37,38,39,40,41,42] [] ?_
 iterate 2 (refine wD rfl rfl ?_;simp only [pT])
 (refine wI rfl rfl ?_;simp only [pT])
 refine zBA (v := .bool true) rfl rfl (fun hg W hW => by (try simp only [Bool.and_eq_true] at hg);(try simp only [hg,Bool.and_self,zBo]);go_simp;try simp) ?_;simp only [pT]
 refine zDe rfl rfl rfl ?_;simp only [pT]
 (refine wD rfl rfl ?_;simp only [pT])
 (refine wI rfl rfl ?_;simp only [pT])
 refine zBA (v := .int .i64 (nj : Int)) rfl rfl (fun hg W hW => by (try simp only [Bool.and_eq_true] at hg);(try simp only [hg,Bool.and_self,zBo]);have e := (HCB.out.belowAll hW).cell;go_simp;try simp [zAL]) ?_;simp only [pT]
 (refine wI rfl rfl ?_;simp only [pT])
 refine zBA (v := _) rfl rfl (fun hg W hW => by (try simp only [Bool.and_eq_true] at hg);(try simp only [hg,Bool.and_self,zBo]);have e := (HWB.out.belowAll hW).cell;go_simp;with_reducible rfl) ?_;simp only [pT]
 (refine wI rfl rfl ?_;simp only [pT])
 refine zBA (v := .bool true) rfl rfl (fun hg W hW => by (try simp only [Bool.and_eq_true] at hg);(try simp only [hg,Bool.and_self,zBo]);go_simp;try simp) ?_;simp only [pT]
 refine zDe rfl rfl rfl ?_;simp only [pT]
 (refine wD rfl rfl ?_;simp only [pT])
 (refine wI rfl rfl ?_;simp only [pT])
 refine zBA (v := .int .i64 (nl : Int)) rfl rfl (fun hg W hW => by (try simp only [Bool.and_eq_true] at hg);(try simp only [hg,Bool.and_self,zBo]);have e := (HCB.out.belowAll hW).cell;go_simp;try simp [zAL]) ?_;simp only [pT]
 (refine wI rfl rfl ?_;simp only [pT])
 refine zBA (v := _) rfl rfl (fun hg W hW => by (try simp only [Bool.and_eq_true] at hg);(try simp only [hg,Bool.and_self,zBo]);have e := (HWB.out.belowAll hW).cell;go_simp;with_reducible rfl) ?_;simp only [pT]
 (refine wI rfl rfl ?_;simp only [pT])
 refine zBA (v := .bool true) rfl rfl (fun hg W hW => by (try simp only [Bool.and_eq_true] at hg);(try simp only [hg,Bool.and_self,zBo]);go_simp;try simp) ?_;simp only [pT]
 refine zDe rfl rfl rfl ?_;simp only [pT]
 (refine wD rfl rfl ?_;simp only [pT])
 (refine wI rfl rfl ?_;simp only [pT])
 refine zBA (v := .int .i64 (nc : Int)) rfl rfl (fun hg W hW => by (try simp only [Bool.and_eq_true] at hg);(try simp only [hg,Bool.and_self,zBo]);have e := (HCB.out.belowAll hW).cell;go_simp;try simp [zAL]) ?_;simp only [pT]
 iterate 2 (refine wI rfl rfl ?_;simp only [pT])
 refine zBA (v := .bool true) rfl rfl (fun hg W hW => by (try simp only [Bool.and_eq_true] at hg);(try simp only [hg,Bool.and_self,zBo]);go_simp;try simp) ?_;simp only [pT]
 refine zDe rfl rfl rfl ?_;simp only [pT]
 (refine wD rfl rfl ?_;simp only [pT])
 (refine wI rfl rfl ?_;simp only [pT])
 refine zBA (v := .int .i64 (nj : Int)) rfl rfl (fun hg W hW => by (try simp only [Bool.and_eq_true] at hg);(try simp only [hg,Bool.and_self,zBo]);have e := (HCB.out.belowAll hW).cell;go_simp;try simp [zAL]) ?_;simp only [pT]
 (refine wI rfl rfl ?_;simp only [pT])
 refine zBA (v := .int .i64 (nl : Int)) rfl rfl (fun hg W hW => by (try simp only [Bool.and_eq_true] at hg);(try simp only [hg,Bool.and_self,zBo]);have e := (HCB.out.belowAll hW).cell;go_simp;try simp [zAL]) ?_;simp only [pT]
 refine zBA (v := .int .i64 ((nj : Int) - nl)) rfl rfl (fun hg W hW => by (try simp only [Bool.and_eq_true] at hg);(try simp only [hg,Bool.and_self,zBo]);go_simp;exact K1.out) ?_;simp only [pT]
 (refine wI rfl rfl ?_;simp only [pT])
 refine zBA (v := .int .i64 Fc) rfl rfl (fun hg W hW => by (try simp only [Bool.and_eq_true] at hg);(try simp only [hg,Bool.and_self,zBo]);have e := (HCB.out.belowAll hW).cell;go_simp;try simp [zAL]) ?_;simp only [pT]
 refine zBA (v := .int .i64 (1 + (nc : Int))) rfl rfl (fun hg W hW => by (try simp only [Bool.and_eq_true] at hg);(try simp only [hg,Bool.and_self,zBo]);go_simp;exact K2.out) ?_;simp only [pT]
 (refine wI rfl rfl ?_;simp only [pT])
 refine zBA (v := .int .i64 (nc : Int)) rfl rfl (fun hg W hW => by (try simp only [Bool.and_eq_true] at hg);(try simp only [hg,Bool.and_self,zBo]);have e := (HCB.out.belowAll hW).cell;go_simp;try simp [zAL]) ?_;simp only [pT]
 refine zBA (v := .int .i64 (1 + (nc : Int))) rfl rfl (fun hg W hW => by (try simp only [Bool.and_eq_true] at hg);(try simp only [hg,Bool.and_self,zBo]);go_simp;exact K3.out) ?_;simp only [pT]
 refine zBA (v := .bool true) rfl rfl (fun hg W hW => by (try simp only [Bool.and_eq_true] at hg);(try simp only [hg,Bool.and_self,zBo]);go_simp;try simp) ?_;simp only [pT]
 refine zDe rfl rfl rfl ?_;simp only [pT]
 (refine wD rfl rfl ?_;simp only [pT])
 intro W1 HW1
 refine zDG [50,51,52,53,54,55,56,57,58,59,60,61,62,63,64,65,66,67,68,69,70,71,72,73,74,75,76,77,78,79,80,81,82,83,84,85,86,87,88,89,90,91] fun u => ?_;simp only [zDx,pT]
 refine wpO_nil ?_
 replace HB0 := hTr HB0 HW1
 clear HW1
 go_wp2
 go_ret
 exact ⟨by simp,HB0.out⟩
theorem weuler_big (aj al : Option Addr) (nj cj nl cl : Nat) (w : World) (hbig : 60 < nj ∨ 90 < nl) :
  Calls Tryz.prog 3 #[.agg #[.slice aj nj cj, .slice al nl cl]] w fun e w' => e = .returned (.bool true) ∧ Below w.heap.size w w' := by
 have HB0 : Hid (Below w.heap.size w (w.alloc (.cells #[.slice aj nj cj, .slice al nl cl] 25))) := zz (((Lays.refl w).alloc _).below (Nat.le_refl _))
 have HWB : Hid (zAe (w.alloc (.cells #[.slice aj nj cj, .slice al nl cl] 25)) (w.heap.size) 25 #[.slice aj nj cj, .slice al nl cl]) := zz (zAe.new w 25 #[.slice aj nj cj, .slice al nl cl])
 go_enter Tryz.func3,Tryz.ntmps3
 by_cases h1 : 60 < nj
 ·go_wp2_with (first
   | (go_at_call 9;refine (zCW _).mono ?_;rintro e w1 ⟨rfl,hb1⟩;replace HWB := zz (HWB.out.belowAll hb1);replace HB0 := hTr HB0 hb1;clear hb1;have q0 := (HWB.out.cell 0).trans (show _ = some (.slice aj nj cj) from rfl);have q1 := (HWB.out.cell 1).trans (show _ = some (.slice al nl cl) from rfl)))
  go_ret
  exact ⟨rfl,HB0.out⟩
 ·have h2 : 90 < nl := by omega
  clear hbig
  go_wp2_with (first
   | (go_at_call 9;refine (zCW _).mono ?_;rintro e w1 ⟨rfl,hb1⟩;replace HWB := zz (HWB.out.belowAll hb1);replace HB0 := hTr HB0 hb1;clear hb1;have q0 := (HWB.out.cell 0).trans (show _ = some (.slice aj nj cj) from rfl);have q1 := (HWB.out.cell 1).trans (show _ = some (.slice al nl cl) from rfl)))
  go_ret
  exact ⟨rfl,HB0.out⟩
end Go.Proofs.YtcebcklecmppnaaGreat
