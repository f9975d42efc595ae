/-WebChecks answers true.-/
import Derived.Test.YtbbblemfodpmaaaGreatWebSx
import Derived.Test.YtbbblemfodpmaaaGreatWebGz
set_option linter.unusedVariables false
set_option linter.unusedSimpArgs false
set_option maxHeartbeats 16000000
set_option maxRecDepth 100000
namespace Go.Proofs.YtbbblemfodpmaaaGreat
open Go.RowKit
theorem wchecks_any (sj : Sl Joint) (sl : Sl Lead) (w : World) (hj : sj.OK 3 zAh zAs (fun _=>False) w) (hl : sl.OK 8 zAd zAA (fun _=>False) w) (hf : fewB sj.val.length sl.val.length = true) :
  Calls Tryz.prog 4 #[.agg #[.slice sj.a sj.val.length sj.cap, .slice sl.a sl.val.length sl.cap]] w fun e w'=>e = .returned (.bool true)∧Below w.heap.size w w':=by
 have HF:=zz (few_det sj.a sl.a sj.val.length sj.cap sl.val.length sl.cap w);rw [hf] at HF;have DC1 : Hid (Det 18 #[.agg #[.slice sj.a sj.val.length sj.cap, .slice sl.a sl.val.length sl.cap]] (.tuple #[.int .i64 (zAK sj.val sl.val).1, .int .i64 (zAK sj.val sl.val).2]) w):=zz fun W hW=>zEq sj sl W (hj.jmoved hW) (hl.lmoved hW);have DC2 : Hid (Det 19 #[.agg #[.slice sj.a sj.val.length sj.cap, .slice sl.a sl.val.length sl.cap]] (.tuple #[.int .i64 (zAK sj.val sl.val).1, .int .i64 (zAK sj.val sl.val).2]) w):=zz fun W hW=>zGf sj sl W (hj.jmoved hW) (hl.lmoved hW);have DS1:=zz (Sound_det sj sl w hj hl);have DS2:=zz (rSound_det sj sl w hj hl);obtain ⟨e1,h1⟩ : ∃ r,(zAK sj.val sl.val).1 = r:=⟨_,rfl⟩
 obtain ⟨e2,h2⟩ : ∃ r,(zAK sj.val sl.val).2 = r:=⟨_,rfl⟩
 obtain ⟨e3,h3⟩ : ∃ r,sndX sj.val sl.val = r:=⟨_,rfl⟩
 simp only [h1,h2,h3] at DC1 DC2 DS1 DS2;clear h1 h2 h3 hj hl hf;obtain ⟨HB0,HWB⟩:=zP1 w #[.slice sj.a sj.val.length sj.cap, .slice sl.a sl.val.length sl.cap] 25;go_enter Tryz.func4,Tryz.ntmps4
 go_upto_region 4 with (first
  | (go_at_call 13;refine (awake_any _).mono ?_;rintro e w1 ⟨rfl,hb1⟩;replace HWB:=zz (HWB.out.belowAll hb1);replace HB0:=hTr HB0 hb1;clear hb1)
  | (refine zLd 9 HWB.out #[.slice sj.a sj.val.length sj.cap, .slice sl.a sl.val.length sl.cap] zuC ?_)
  | (go_at_call 17;refine (HF.out _ HB0.out).mono ?_;rintro e w1 ⟨rfl,hb1⟩;replace HWB:=zz (HWB.out.belowAll hb1);replace HB0:=hTr HB0 hb1;clear hb1))
 refine rgQ [0,1,2,3,4,5,6] [] ?_;refine zAi (v:=_) rfl rfl (fun W hW=>zAc _ (HWB.out.belowAll hW) rfl (zAg _) zuC) ?_;simp only [pT];refine zAO _ _ _ rfl rfl (fun W=>by go_simp;try with_reducible rfl) (DC1.out.moved HB0.out) ?_;simp only [pT];iterate 5 (refine wD rfl ?_;simp only [pT])
 intro W1 HW1;refine zA1 [14,15,13,16,17] fun u=>?_;simp only [zAu,pT];refine zBe ?_;replace HB0:=hTr HB0 HW1;replace HWB:=zz (HWB.out.belowAll HW1);clear HW1
 go_upto_region 5 with (fail)
 refine rgQ [0,1,2,3,4,5,6] [] ?_;refine zAi (v:=_) rfl rfl (fun W hW=>zAc _ (HWB.out.belowAll hW) rfl (zAg _) zuC) ?_;simp only [pT];refine zAO _ _ _ rfl rfl (fun W=>by go_simp;try with_reducible rfl) (DC2.out.moved HB0.out) ?_;simp only [pT];iterate 5 (refine wD rfl ?_;simp only [pT])
 intro W1 HW1;refine zA1 [19,20,18,21,22] fun u=>?_;simp only [zAu,pT];refine zBe ?_;replace HB0:=hTr HB0 HW1;replace HWB:=zz (HWB.out.belowAll HW1);clear HW1
 go_upto_region 6 with (fail)
 refine rgD [0,1,2,3,4,5,6,7,8,9,10,11,12,13,14,15,16,17,18] [] (fun _=>(0,#[])) [] ?_;iterate 2 (refine wD rfl ?_;simp only [pT])
 iterate 2 (refine wI rfl ?_;simp only [pT])
 refine zAB (v:=.bool true) rfl rfl (fun hg W hW=>by (try simp only [Bool.and_eq_true] at hg);(try simp only [hg,Bool.and_self,zAz]);go_simp;try simp) ?_;simp only [pT];refine zB1 rfl rfl rfl ?_;simp only [pT]
 (refine wD rfl ?_;simp only [pT])
 iterate 2 (refine wI rfl ?_;simp only [pT])
 refine zAB (v:=.bool true) rfl rfl (fun hg W hW=>by (try simp only [Bool.and_eq_true] at hg);(try simp only [hg,Bool.and_self,zAz]);go_simp;try simp) ?_;simp only [pT];refine zB1 rfl rfl rfl ?_;simp only [pT]
 (refine wD rfl ?_;simp only [pT])
 refine zAB (v:=_) rfl rfl (fun hg W hW=>zAc _ (HWB.out.drew.belowAll hW) rfl (zAg _) zuC) ?_;simp only [pT];refine zBl _ _ _ rfl rfl (fun hg W=>by go_simp;try with_reducible rfl) (fun hg=>DS1.out.moved HB0.out.drew) ?_;simp only [pT];refine zAB (v:=_) rfl rfl (fun hg W hW=>zAc _ (HWB.out.drew.belowAll hW) rfl (zAg _) zuC) ?_;simp only [pT];refine zBl _ _ _ rfl rfl (fun hg W=>by go_simp;try with_reducible rfl) (fun hg=>DS2.out.moved HB0.out.drew) ?_;simp only [pT];refine zAB (v:=.bool true) rfl rfl (fun hg W hW=>by (try simp only [Bool.and_eq_true] at hg);(try simp only [hg,Bool.and_self,zAz]);go_simp;try simp) ?_;simp only [pT];refine zB1 rfl rfl rfl ?_;simp only [pT]
 (refine wD rfl ?_;simp only [pT])
 intro f W1 HW1 h1 h2;simp only [zAP];clear h1 h2 f;refine zAt [23,24,25,26,27,28,29,30,31,32,33,34,35,36,37,38,39,40] fun u=>?_;simp only [zAu,pT];simp only [wpS];replace HB0:=zz (HB0.out.drew.trans (HW1.mono HB0.out.drew.size));clear HW1;go_wp2;go_ret;exact ⟨by simp,HB0.out⟩
theorem wchecks_big (a1 a2 : Option Addr) (n c1 m c2 : Nat) (w : World) (hf : fewB n m = false) :
  Calls Tryz.prog 4 #[.agg #[.slice a1 n c1, .slice a2 m c2]] w fun e w'=>e = .returned (.bool true)∧Below w.heap.size w w':=by
 have HF:=zz (few_det a1 a2 n c1 m c2 w);rw [hf] at HF;obtain ⟨HB0,HWB⟩:=zP1 w #[.slice a1 n c1, .slice a2 m c2] 25;clear hf;go_enter Tryz.func4,Tryz.ntmps4
 go_wp2_with (first
  | (go_at_call 13;refine (awake_any _).mono ?_;rintro e w1 ⟨rfl,hb1⟩;replace HWB:=zz (HWB.out.belowAll hb1);replace HB0:=hTr HB0 hb1;clear hb1)
  | (refine zLd 9 HWB.out #[.slice a1 n c1, .slice a2 m c2] zuC ?_)
  | (go_at_call 17;refine (HF.out _ HB0.out).mono ?_;rintro e w1 ⟨rfl,hb1⟩;replace HB0:=hTr HB0 hb1;clear hb1))
 go_ret;exact ⟨rfl,HB0.out⟩
end Go.Proofs.YtbbblemfodpmaaaGreat
