/-The program's JointOf and LeadOf.-/
import Derived.Test.YtbbblemfodpmaaaGreatWebGy
import Derived.Test.YtbbblemfodpmaaaGreatWebGv
import Derived.Test.YtbbblemfodpmaaaGreatWebGr
set_option linter.unusedVariables false
set_option linter.unusedSimpArgs false
set_option maxHeartbeats 16000000
set_option maxRecDepth 100000
section
namespace Go.Proofs.YtbbblemfodpmaaaGreat
open Go.RowKit
end Go.Proofs.YtbbblemfodpmaaaGreat
end
section
namespace Go.Proofs.YtbbblemfodpmaaaGreat
open Go.RowKit
@[go_sem] theorem eqGuardS_Side : Tryz.prog.eqGuardType Tryz.prog.depth 62 = false:=by kernel_rfl
@[go_sem high] theorem eqlS_Side (w : World) (a : Option Addr) (l c : Nat) : (binOp .eql 62 (.slice a l c) (.slice none 0 0)).run Tryz.prog w = .ok (.bool a.isNone) w:=run_eql_slice_nil w _ _ a l c Tryz.underlying62
end Go.Proofs.YtbbblemfodpmaaaGreat
end
section
namespace Go.Proofs.YtbbblemfodpmaaaGreat
open Go.RowKit
def fewB (n m : Nat) : Bool:=(decide (200 < (n : Int)) && decide ((n : Int) ≤ 400) && decide ((m : Int) ≤ 800)) || (decide ((n : Int) ≤ 60) && (decide ((m : Int) ≤ 90) || (decide (400 < (m : Int)) && decide ((m : Int) ≤ 800))))
theorem few_lt {n m : Nat} (h : fewB n m = true) : n ≤ 400∧m ≤ 800:=by
 unfold fewB at h;simp only [Bool.or_eq_true,Bool.and_eq_true,decide_eq_true_eq] at h;omega
theorem few_det (a1 a2 : Option Addr) (n c1 m c2 : Nat) (w : World) : Det 17 #[.agg #[.slice a1 n c1, .slice a2 m c2]] (.bool (fewB n m)) w:=fun w0 hw0=>by
 clear hw0 w;obtain ⟨w,rfl⟩ : ∃ w,w = w0:=⟨_,rfl⟩
 obtain ⟨HB0,HWB⟩:=zP1 w #[.slice a1 n c1, .slice a2 m c2] 25;have HR : Hid (fewB n m = if (decide (200 < (n : Int)) && decide ((n : Int) ≤ 400) && decide ((m : Int) ≤ 800)) = true then true else (decide ((n : Int) ≤ 60) && (decide ((m : Int) ≤ 90) || (decide (400 < (m : Int)) && decide ((m : Int) ≤ 800))))):=zz (by unfold fewB;split <;> simp [*]);obtain ⟨R,hR⟩ : ∃ R,fewB n m = R:=⟨_,rfl⟩
 simp only [hR] at HR ⊢;clear hR;go_enter Tryz.func17,Tryz.ntmps17
 go_upto_region 1 with (fail)
 refine rgR [0,1,2,3,4,5,6,7,8,9,10,11,12,13,14,15] [] (fun _=>(0,#[])) [] ?_
 (refine wD rfl ?_;simp only [pT])
 refine zAi (v:=_) rfl rfl (fun W hW=>by have e:=(HWB.out.belowAll hW).cell;go_simp;with_reducible rfl) ?_;simp only [pT];iterate 3 (refine wD rfl ?_;simp only [pT])
 (refine wI rfl ?_;simp only [pT])
 refine zAB (v:=_) rfl rfl (fun hg W hW=>by (try simp only [Bool.and_eq_true] at hg);(try simp only [hg,Bool.and_self,zAz]);have e:=(HWB.out.belowAll hW).cell;go_simp;with_reducible rfl) ?_;simp only [pT];iterate 2 (refine wI rfl ?_;simp only [pT])
 refine zB1 rfl rfl rfl ?_;simp only [pT]
 (refine wD rfl ?_;simp only [pT])
 (refine wI rfl ?_;simp only [pT])
 refine zAB (v:=_) rfl rfl (fun hg W hW=>by (try simp only [Bool.and_eq_true] at hg);(try simp only [hg,Bool.and_self,zAz]);have e:=(HWB.out.belowAll hW).cell;go_simp;with_reducible rfl) ?_;simp only [pT];iterate 2 (refine wI rfl ?_;simp only [pT])
 refine zB1 rfl rfl rfl ?_;simp only [pT];intro f W1 HW1 h1 h2;simp only [zAP];clear h1 h2 f;refine zAt [3,4,5,6,7,8,9,10,11,12,13,14,15,16,17] fun u=>?_;simp only [zAu,pT];simp only [wpS];replace HB0:=hTr HB0 HW1;replace HWB:=zz (HWB.out.belowAll HW1);clear HW1;obtain ⟨q,hq⟩ : ∃ q,(decide (200 < (n : Int)) && decide ((n : Int) ≤ 400) && decide ((m : Int) ≤ 800)) = q:=⟨_,rfl⟩
 simp only [hq] at HR ⊢;clear hq
 cases q
 ·rw [if_neg (by decide)] at HR
  go_upto_region 3 with (fail)
  refine rgQ [0,1,2,3,4,5,6,7,8,9,10,11,12,13,14,15,16,17,18,19,20,21,22] [] ?_
  (refine wD rfl ?_;simp only [pT])
  refine zAi (v:=_) rfl rfl (fun W hW=>by have e:=(HWB.out.belowAll hW).cell;go_simp;with_reducible rfl) ?_;simp only [pT];iterate 3 (refine wD rfl ?_;simp only [pT])
  (refine wI rfl ?_;simp only [pT])
  refine zAB (v:=_) rfl rfl (fun hg W hW=>by (try simp only [Bool.and_eq_true] at hg);(try simp only [hg,Bool.and_self,zAz]);have e:=(HWB.out.belowAll hW).cell;go_simp;with_reducible rfl) ?_;simp only [pT];iterate 3 (refine wI rfl ?_;simp only [pT])
  (refine wJ rfl ?_;simp only [pT])
  refine zCe (v:=_) rfl rfl (fun hg W hW=>by (try simp only [Bool.and_eq_true] at hg);(try simp only [hg,Bool.and_self,zAz]);have e:=(HWB.out.belowAll hW).cell;go_simp;with_reducible rfl) ?_;simp only [pT];iterate 4 (refine wJ rfl ?_;simp only [pT])
  refine zCe (v:=_) rfl rfl (fun hg W hW=>by (try simp only [Bool.and_eq_true] at hg);(try simp only [hg,Bool.and_self,zAz]);have e:=(HWB.out.belowAll hW).cell;go_simp;with_reducible rfl) ?_;simp only [pT];iterate 2 (refine wJ rfl ?_;simp only [pT])
  refine zEk rfl (wanted_2 rfl) rfl rfl ?_;simp only [pT];refine wpD_orG rfl (zC2 rfl) rfl rfl ?_;simp only [pT];refine zB1 rfl rfl rfl ?_;simp only [pT]
  (refine wD rfl ?_;simp only [pT])
  intro W1 HW1;refine zA1 [19,20,21,22,23,24,25,26,27,28,29,30,31,32,33,34,35,36,37,38,39,40] fun u=>?_;simp only [zAu,pT];refine zBe ?_;replace HB0:=hTr HB0 HW1;clear HW1;go_wp2;go_ret;rw [HR.out];exact ⟨rfl,HB0.out⟩
 ·rw [if_pos rfl] at HR;go_wp2;go_ret;rw [HR.out];exact ⟨rfl,HB0.out⟩
end Go.Proofs.YtbbblemfodpmaaaGreat
end
section
namespace Go.Proofs.YtbbblemfodpmaaaGreat
open Go.RowKit
end Go.Proofs.YtbbblemfodpmaaaGreat
end
