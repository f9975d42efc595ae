/-siftDown and heapSort of sides.-/
import Derived.Test.YtbbblemfodpmaaaGreatWebGe
set_option linter.unusedVariables false
set_option linter.unusedSimpArgs false
set_option maxHeartbeats 16000000
set_option maxRecDepth 100000
namespace Go.Proofs.YtbbblemfodpmaaaGreat
open Go.RowKit
open Go.Sort
section
variable {α : Type} [Inhabited α] {en : α→Side} {w0 : World} {blk : Nat} {tail : List Value} {recv : Value} {cf : α→α→Int}
theorem siftDown_s (HCM : zCX en w0 blk recv cf) (d : Array α) (lo hi f cap : Nat) (w : World) (hS : SW en w0 blk tail d w) (hlo : lo ≤ d.size) (hb : f + hi ≤ d.size) (hsz : d.size ≤ 4294967296) :
  Calls Tryz.prog 233 #[.slice (some ⟨blk,0,none⟩) d.size cap, .int .i64 lo, .int .i64 hi, .int .i64 f,(.func (.func 187) #[recv] #[])] w fun e w'=>e = .returned (.tuple #[])∧SW en w0 blk tail (siftDown (ltC cf) hi f lo d) w':=by
 have HC:=zz HCM;obtain ⟨n,hn⟩ : ∃ n,d.size = n:=⟨_,rfl⟩
 rw [hn] at hlo hb hsz ⊢;have HN:=zz hn;clear HCM hn;go_enter Tryz.func233,Tryz.ntmps233;go_wp2
 go_loopw [10,11] (fun i _ wr=>∃ (r : Nat) (d1 : Array α),r ≤ n∧i = .int .i64 r∧Hid (d1.size = n)∧Hid (siftDown (ltC cf) hi f lo d = siftDown (ltC cf) hi f r d1)∧Hid (SW en w0 blk tail d1 wr)) (fun i _ _=>hi - (intOf i).toNat)
 case atStart=>exact ⟨lo,d,hlo,rfl,HN,zz rfl,zz hS⟩
 case round=>
  obtain ⟨r,d1,hrn,rfl,HN1,HI,HS⟩:=hrel;have hge : n ≤ d1.size:=by have:=HN1.out;omega
  have m2 : IntKind.i64.wrap (2 * (r : Int)) = 2 * (r : Int):=i64w (by omega);have m3 : IntKind.i64.wrap (2 * (r : Int) + 1) = 2 * (r : Int) + 1:=i64w (by omega)
  by_cases h1 : hi ≤ 2 * r + 1
  ·have h1' : (hi : Int) ≤ 2 * (r : Int) + 1:=by omega
   have HR : Hid (siftDown (ltC cf) hi f r d1 = d1):=zz (by rw [siftDown,dif_pos h1]);go_wp2
   first | go_end0 | refine bodyPost_ret (results_none rfl _ _ _) rfl ?_
   exact ⟨rfl,by rw [HI.out,HR.out];exact HS.out⟩
  have h1' : ¬ (hi : Int) ≤ 2 * (r : Int) + 1:=by omega
  have m4 : IntKind.i64.wrap (2 * (r : Int) + 1 + 1) = 2 * (r : Int) + 1 + 1:=i64w (by omega);have m5 : IntKind.i64.wrap ((f : Int) + (r : Int)) = (f : Int) + (r : Int):=i64w (by omega);have m6 : IntKind.i64.wrap ((f : Int) + (2 * (r : Int) + 1)) = (f : Int) + (2 * (r : Int) + 1):=i64w (by omega);have m7 : IntKind.i64.wrap ((f : Int) + (2 * (r : Int) + 1) + 1) = (f : Int) + (2 * (r : Int) + 1) + 1:=i64w (by omega);have m8 : IntKind.i64.wrap ((f : Int) + (2 * (r : Int) + 1 + 1)) = (f : Int) + (2 * (r : Int) + 1 + 1):=i64w (by omega);have hSd:=HS.out.drew
  by_cases h2 : 2 * r + 1 + 1 < hi
  ·have h2' : 2 * (r : Int) + 1 + 1 < (hi : Int):=by omega
   obtain ⟨c,hc⟩ : ∃ c,decide (cf d1[f + (2 * r + 1)]! d1[f + (2 * r + 1) + 1]! < 0) = c:=⟨_,rfl⟩
   have HCc:=zz hc;have ha1 : f + (2 * r + 1) + 1 < n:=by omega
   have ha2 : f + (2 * r + 1) < n:=by omega
   cases c
   case true=>
    have HSEL : Hid (siftDown (ltC cf) hi f r d1 = if !(ltC cf) d1[f + r]! d1[f + (2 * r + 1 + 1)]! then d1 else siftDown (ltC cf) hi f (2 * r + 1 + 1) (swp d1 (f + r) (f + (2 * r + 1 + 1)))):=zz (by
     conv=>lhs;rw [siftDown]
     have hx : (2 * r + 1 + 1 < hi && ltC cf d1[f + (2 * r + 1)]! d1[f + (2 * r + 1) + 1]!) = true:=by simp only [ltC,hc,h2,decide_true,Bool.and_self]
     rw [dif_neg h1,if_pos hx,dif_pos (show 2 * r + 2 < hi from h2)])
    clear hc;go_wp2;refine rgO [(0,true),(1,true),(2,true),(3,true),(4,true),(5,true),(6,true),(7,true),(8,true),(9,true),(10,true),(11,true),(12,true),(13,true),(14,true),(15,true),(16,true),(17,true),(18,true),(19,false),(20,true),(21,true)] ?_;iterate 3 ((first | refine wK rfl ?_ | refine wL rfl ?_ | refine wB rfl ?_);simp only [pT])
    refine zAf (v:=.bool true) rfl rfl (fun W hW=>by first | (go_simp;done) | (go_simp;omega) | (go_simp;simp;omega)) ?_;simp only [pT];iterate 6 ((first | refine wK rfl ?_ | refine wL rfl ?_ | refine wB rfl ?_);simp only [pT])
    refine zAf (v:=.pointer (some ⟨blk,(f + (2 * r + 1)) * 2,none⟩)) rfl rfl (fun W hW=>zAj (n:=n) (i:=f + (2 * r + 1)) rfl rfl (by first | omega | (simp only [*];try omega)) (by omega)) ?_;simp only [pT];refine zAf (v:=.agg (zAa (en (d1[f + (2 * r + 1)]!)))) rfl rfl (fun W hW=>zAc (zAa (en (d1[f + (2 * r + 1)]!))) (hSd.row.belowAll hW) rfl (zAo (bang (by omega))) zuA) ?_;simp only [pT];iterate 5 ((first | refine wK rfl ?_ | refine wL rfl ?_ | refine wB rfl ?_);simp only [pT])
    refine zAf (v:=.pointer (some ⟨blk,(f + (2 * r + 1) + 1) * 2,none⟩)) rfl rfl (fun W hW=>zAj (n:=n) (i:=f + (2 * r + 1) + 1) rfl rfl (by first | omega | (simp only [*];try omega)) (by omega)) ?_;simp only [pT];refine zAf (v:=.agg (zAa (en (d1[f + (2 * r + 1) + 1]!)))) rfl rfl (fun W hW=>zAc (zAa (en (d1[f + (2 * r + 1) + 1]!))) (hSd.row.belowAll hW) rfl (zAo (bang (by omega))) zuA) ?_;simp only [pT];refine zAG rfl rfl (fun K hK=>?_)
    go_simp
    refine (HC.out _ hSd.out _ _).mono ?_;rintro e w2 ⟨rfl,l2⟩;have hb2:=l2.below (Nat.le_refl _);have hS2:=hSd.lays l2;clear l2;refine hK _ _ hb2 ?_;clear hK K
    try simp only [pT]
    refine zAf (v:=.bool true) rfl rfl (fun W hW=>by go_simp;simpa using HCc.out) ?_;simp only [pT];iterate 1 ((first | refine wK rfl ?_ | refine wL rfl ?_ | refine wB rfl ?_);simp only [pT])
    simp only [wpB];go_wp2;obtain ⟨c,hc⟩ : ∃ c,decide (cf d1[f + r]! d1[f + (2 * r + 1 + 1)]! < 0) = c:=⟨_,rfl⟩
    have HCc:=zz hc;have hlr : f + r < n:=by omega
    have hlc : f + (2 * r + 1 + 1) < n:=by omega
    have hSd:=hS2.drew;have HST : Hid (siftDown (ltC cf) hi f r d1 = if c then siftDown (ltC cf) hi f (2 * r + 1 + 1) (swp d1 (f + r) (f + (2 * r + 1 + 1))) else d1):=zz (by rw [HSEL.out,← hc];by_cases hx : cf d1[f + r]! d1[f + (2 * r + 1 + 1)]! < 0 <;> simp [ltC,hx]);clear hc
    cases c
    case true=>
     go_wp2;refine rgO [(0,true),(1,true),(2,true),(3,true),(4,true),(5,true),(6,true),(7,true),(8,true),(9,true),(10,true),(11,true),(12,true),(13,false),(14,true),(15,true)] ?_;iterate 5 ((first | refine wK rfl ?_ | refine wL rfl ?_ | refine wB rfl ?_);simp only [pT])
     refine zAf (v:=.pointer (some ⟨blk,(f + r) * 2,none⟩)) rfl rfl (fun W hW=>zAj (n:=n) (i:=f + r) rfl rfl (by first | omega | (simp only [*];try omega)) (by omega)) ?_;simp only [pT];refine zAf (v:=.agg (zAa (en (d1[f + r]!)))) rfl rfl (fun W hW=>zAc (zAa (en (d1[f + r]!))) (hSd.row.belowAll hW) rfl (zAo (bang (by omega))) zuA) ?_;simp only [pT];iterate 4 ((first | refine wK rfl ?_ | refine wL rfl ?_ | refine wB rfl ?_);simp only [pT])
     refine zAf (v:=.pointer (some ⟨blk,(f + (2 * r + 1 + 1)) * 2,none⟩)) rfl rfl (fun W hW=>zAj (n:=n) (i:=f + (2 * r + 1 + 1)) rfl rfl (by first | omega | (simp only [*];try omega)) (by omega)) ?_;simp only [pT];refine zAf (v:=.agg (zAa (en (d1[f + (2 * r + 1 + 1)]!)))) rfl rfl (fun W hW=>zAc (zAa (en (d1[f + (2 * r + 1 + 1)]!))) (hSd.row.belowAll hW) rfl (zAo (bang (by omega))) zuA) ?_;simp only [pT];refine zAG rfl rfl (fun K hK=>?_)
     go_simp
     refine (HC.out _ hSd.out _ _).mono ?_;rintro e w2 ⟨rfl,l2⟩;have hb2:=l2.below (Nat.le_refl _);have hS2:=hSd.lays l2;clear l2;refine hK _ _ hb2 ?_;clear hK K
     try simp only [pT]
     refine zAf (v:=.bool true) rfl rfl (fun W hW=>by go_simp;simpa using HCc.out) ?_;simp only [pT];iterate 1 ((first | refine wK rfl ?_ | refine wL rfl ?_ | refine wB rfl ?_);simp only [pT])
     simp only [wpB];go_wp2;have hSd2:=hS2.drew;refine rgM 21 [(0,none),(1,none),(2,none),(3,none),(4,none),(5,none),(6,none),(7,none),(8,none),(9,none),(10,none),(11,none),(12,none),(14,none),(15,none),(16,none),(17,none),(18,none),(13,some true),(19,some true),(20,none),(21,some false),(22,none),(23,some false)] ?_;iterate 12 (refine wC rfl ?_;simp only [pT])
     refine zAq (v:=.pointer (some ⟨blk,(f + (2 * r + 1 + 1)) * 2,none⟩)) rfl rfl (fun W=>zAj (n:=n) (i:=f + (2 * r + 1 + 1)) rfl rfl (by first | omega | (simp only [*];try omega)) (by omega)) ?_;simp only [pT];iterate 4 (refine wC rfl ?_;simp only [pT])
     refine zAq (v:=.pointer (some ⟨blk,(f + r) * 2,none⟩)) rfl rfl (fun W=>zAj (n:=n) (i:=f + r) rfl rfl (by first | omega | (simp only [*];try omega)) (by omega)) ?_;simp only [pT];refine zAN (v:=.agg (zAa (en (d1[f + (2 * r + 1 + 1)]!)))) rfl rfl (fun W hW=>zAc (zAa (en (d1[f + (2 * r + 1 + 1)]!))) (hSd2.row.belowAll hW) rfl (zAo (bang (by omega))) zuA) ?_;simp only [pT];refine zAN (v:=.agg (zAa (en (d1[f + r]!)))) rfl rfl (fun W hW=>zAc (zAa (en (d1[f + r]!))) (hSd2.row.belowAll hW) rfl (zAo (bang (by omega))) zuA) ?_;simp only [pT];refine zAq (v:=.pointer (some ⟨blk,(f + r) * 2,none⟩)) rfl rfl (fun W=>zAj (n:=n) (i:=f + r) rfl rfl (by first | omega | (simp only [*];try omega)) (by omega)) ?_;simp only [pT];refine zBk rfl rfl (fun K hK=>?_);refine zAr hSd2.row 59 _ _ rfl rfl (.agg (zAa (en (d1[f + (2 * r + 1 + 1)]!)))) rfl (by kernel_rfl) (zA2 (by omega)) (zAn _) ?_;intro w2 b2 t2;have hSm:=hSd2.set (i:=f + r) (x:=d1[f + (2 * r + 1 + 1)]!) (by omega) b2 t2;clear b2 t2;refine hK _ _ ?_;clear hK K
     try simp only [pT]
     refine zAq (v:=.pointer (some ⟨blk,(f + (2 * r + 1 + 1)) * 2,none⟩)) rfl rfl (fun W=>zAj (n:=n) (i:=f + (2 * r + 1 + 1)) rfl rfl (by first | omega | (simp only [*];try omega)) (by omega)) ?_;simp only [pT];refine zBy rfl rfl (fun K hK=>?_);refine zAr hSm.row 59 _ _ rfl rfl (.agg (zAa (en (d1[f + r]!)))) rfl (by kernel_rfl) (zA2 (by simp only [Array.size_setIfInBounds];omega)) (zAn _) ?_;intro w2 b2 t2;have hS3:=hSm.set (i:=f + (2 * r + 1 + 1)) (x:=d1[f + r]!) (by simp only [Array.size_setIfInBounds];omega) b2 t2;clear b2 t2;refine hK _ _ ?_;clear hK K
     try simp only [pT]
     simp only [wpC];go_wp2;go_roundw
     case rel=>exact ⟨(2 * r + 1 + 1),swp d1 (f + r) (f + (2 * r + 1 + 1)),by omega,by first | rfl | go_num,zz (by rw [zBr];exact HN1.out),zz (by rw [HI.out,HST.out];rfl),zz hS3⟩
     case measure=>(simp [intOf];try omega)
    case false=>
     go_wp2;refine rgO [(0,true),(1,true),(2,true),(3,true),(4,true),(5,true),(6,true),(7,true),(8,true),(9,true),(10,true),(11,true),(12,true),(13,false),(14,true),(15,true)] ?_;iterate 5 ((first | refine wK rfl ?_ | refine wL rfl ?_ | refine wB rfl ?_);simp only [pT])
     refine zAf (v:=.pointer (some ⟨blk,(f + r) * 2,none⟩)) rfl rfl (fun W hW=>zAj (n:=n) (i:=f + r) rfl rfl (by first | omega | (simp only [*];try omega)) (by omega)) ?_;simp only [pT];refine zAf (v:=.agg (zAa (en (d1[f + r]!)))) rfl rfl (fun W hW=>zAc (zAa (en (d1[f + r]!))) (hSd.row.belowAll hW) rfl (zAo (bang (by omega))) zuA) ?_;simp only [pT];iterate 4 ((first | refine wK rfl ?_ | refine wL rfl ?_ | refine wB rfl ?_);simp only [pT])
     refine zAf (v:=.pointer (some ⟨blk,(f + (2 * r + 1 + 1)) * 2,none⟩)) rfl rfl (fun W hW=>zAj (n:=n) (i:=f + (2 * r + 1 + 1)) rfl rfl (by first | omega | (simp only [*];try omega)) (by omega)) ?_;simp only [pT];refine zAf (v:=.agg (zAa (en (d1[f + (2 * r + 1 + 1)]!)))) rfl rfl (fun W hW=>zAc (zAa (en (d1[f + (2 * r + 1 + 1)]!))) (hSd.row.belowAll hW) rfl (zAo (bang (by omega))) zuA) ?_;simp only [pT];refine zAG rfl rfl (fun K hK=>?_)
     go_simp
     refine (HC.out _ hSd.out _ _).mono ?_;rintro e w2 ⟨rfl,l2⟩;have hb2:=l2.below (Nat.le_refl _);have hS2:=hSd.lays l2;clear l2;refine hK _ _ hb2 ?_;clear hK K
     try simp only [pT]
     refine zAf (v:=.bool false) rfl rfl (fun W hW=>by go_simp;simpa using HCc.out) ?_;simp only [pT];iterate 1 ((first | refine wK rfl ?_ | refine wL rfl ?_ | refine wB rfl ?_);simp only [pT])
     simp only [wpB];go_wp2
     first | go_end0 | refine bodyPost_ret (results_none rfl _ _ _) rfl ?_
     exact ⟨rfl,by rw [HI.out,HST.out];exact hS2⟩
   case false=>
    have HSEL : Hid (siftDown (ltC cf) hi f r d1 = if !(ltC cf) d1[f + r]! d1[f + (2 * r + 1)]! then d1 else siftDown (ltC cf) hi f (2 * r + 1) (swp d1 (f + r) (f + (2 * r + 1)))):=zz (by
     conv=>lhs;rw [siftDown]
     have hx : ¬ (2 * r + 1 + 1 < hi && ltC cf d1[f + (2 * r + 1)]! d1[f + (2 * r + 1) + 1]!) = true:=by simp only [ltC,hc,Bool.and_false];decide
     rw [dif_neg h1,if_neg hx])
    clear hc;go_wp2;refine rgO [(0,true),(1,true),(2,true),(3,true),(4,true),(5,true),(6,true),(7,true),(8,true),(9,true),(10,true),(11,true),(12,true),(13,true),(14,true),(15,true),(16,true),(17,true),(18,true),(19,false),(20,true),(21,true)] ?_;iterate 3 ((first | refine wK rfl ?_ | refine wL rfl ?_ | refine wB rfl ?_);simp only [pT])
    refine zAf (v:=.bool true) rfl rfl (fun W hW=>by first | (go_simp;done) | (go_simp;omega) | (go_simp;simp;omega)) ?_;simp only [pT];iterate 6 ((first | refine wK rfl ?_ | refine wL rfl ?_ | refine wB rfl ?_);simp only [pT])
    refine zAf (v:=.pointer (some ⟨blk,(f + (2 * r + 1)) * 2,none⟩)) rfl rfl (fun W hW=>zAj (n:=n) (i:=f + (2 * r + 1)) rfl rfl (by first | omega | (simp only [*];try omega)) (by omega)) ?_;simp only [pT];refine zAf (v:=.agg (zAa (en (d1[f + (2 * r + 1)]!)))) rfl rfl (fun W hW=>zAc (zAa (en (d1[f + (2 * r + 1)]!))) (hSd.row.belowAll hW) rfl (zAo (bang (by omega))) zuA) ?_;simp only [pT];iterate 5 ((first | refine wK rfl ?_ | refine wL rfl ?_ | refine wB rfl ?_);simp only [pT])
    refine zAf (v:=.pointer (some ⟨blk,(f + (2 * r + 1) + 1) * 2,none⟩)) rfl rfl (fun W hW=>zAj (n:=n) (i:=f + (2 * r + 1) + 1) rfl rfl (by first | omega | (simp only [*];try omega)) (by omega)) ?_;simp only [pT];refine zAf (v:=.agg (zAa (en (d1[f + (2 * r + 1) + 1]!)))) rfl rfl (fun W hW=>zAc (zAa (en (d1[f + (2 * r + 1) + 1]!))) (hSd.row.belowAll hW) rfl (zAo (bang (by omega))) zuA) ?_;simp only [pT];refine zAG rfl rfl (fun K hK=>?_)
    go_simp
    refine (HC.out _ hSd.out _ _).mono ?_;rintro e w2 ⟨rfl,l2⟩;have hb2:=l2.below (Nat.le_refl _);have hS2:=hSd.lays l2;clear l2;refine hK _ _ hb2 ?_;clear hK K
    try simp only [pT]
    refine zAf (v:=.bool false) rfl rfl (fun W hW=>by go_simp;simpa using HCc.out) ?_;simp only [pT];iterate 1 ((first | refine wK rfl ?_ | refine wL rfl ?_ | refine wB rfl ?_);simp only [pT])
    simp only [wpB];go_wp2;obtain ⟨c,hc⟩ : ∃ c,decide (cf d1[f + r]! d1[f + (2 * r + 1)]! < 0) = c:=⟨_,rfl⟩
    have HCc:=zz hc;have hlr : f + r < n:=by omega
    have hlc : f + (2 * r + 1) < n:=by omega
    have hSd:=hS2.drew;have HST : Hid (siftDown (ltC cf) hi f r d1 = if c then siftDown (ltC cf) hi f (2 * r + 1) (swp d1 (f + r) (f + (2 * r + 1))) else d1):=zz (by rw [HSEL.out,← hc];by_cases hx : cf d1[f + r]! d1[f + (2 * r + 1)]! < 0 <;> simp [ltC,hx]);clear hc
    cases c
    case true=>
     go_wp2;refine rgO [(0,true),(1,true),(2,true),(3,true),(4,true),(5,true),(6,true),(7,true),(8,true),(9,true),(10,true),(11,true),(12,true),(13,false),(14,true),(15,true)] ?_;iterate 5 ((first | refine wK rfl ?_ | refine wL rfl ?_ | refine wB rfl ?_);simp only [pT])
     refine zAf (v:=.pointer (some ⟨blk,(f + r) * 2,none⟩)) rfl rfl (fun W hW=>zAj (n:=n) (i:=f + r) rfl rfl (by first | omega | (simp only [*];try omega)) (by omega)) ?_;simp only [pT];refine zAf (v:=.agg (zAa (en (d1[f + r]!)))) rfl rfl (fun W hW=>zAc (zAa (en (d1[f + r]!))) (hSd.row.belowAll hW) rfl (zAo (bang (by omega))) zuA) ?_;simp only [pT];iterate 4 ((first | refine wK rfl ?_ | refine wL rfl ?_ | refine wB rfl ?_);simp only [pT])
     refine zAf (v:=.pointer (some ⟨blk,(f + (2 * r + 1)) * 2,none⟩)) rfl rfl (fun W hW=>zAj (n:=n) (i:=f + (2 * r + 1)) rfl rfl (by first | omega | (simp only [*];try omega)) (by omega)) ?_;simp only [pT];refine zAf (v:=.agg (zAa (en (d1[f + (2 * r + 1)]!)))) rfl rfl (fun W hW=>zAc (zAa (en (d1[f + (2 * r + 1)]!))) (hSd.row.belowAll hW) rfl (zAo (bang (by omega))) zuA) ?_;simp only [pT];refine zAG rfl rfl (fun K hK=>?_)
     go_simp
     refine (HC.out _ hSd.out _ _).mono ?_;rintro e w2 ⟨rfl,l2⟩;have hb2:=l2.below (Nat.le_refl _);have hS2:=hSd.lays l2;clear l2;refine hK _ _ hb2 ?_;clear hK K
     try simp only [pT]
     refine zAf (v:=.bool true) rfl rfl (fun W hW=>by go_simp;simpa using HCc.out) ?_;simp only [pT];iterate 1 ((first | refine wK rfl ?_ | refine wL rfl ?_ | refine wB rfl ?_);simp only [pT])
     simp only [wpB];go_wp2;have hSd2:=hS2.drew;refine rgM 21 [(0,none),(1,none),(2,none),(3,none),(4,none),(5,none),(6,none),(7,none),(8,none),(9,none),(10,none),(11,none),(12,none),(14,none),(15,none),(16,none),(17,none),(18,none),(13,some true),(19,some true),(20,none),(21,some false),(22,none),(23,some false)] ?_;iterate 12 (refine wC rfl ?_;simp only [pT])
     refine zAq (v:=.pointer (some ⟨blk,(f + (2 * r + 1)) * 2,none⟩)) rfl rfl (fun W=>zAj (n:=n) (i:=f + (2 * r + 1)) rfl rfl (by first | omega | (simp only [*];try omega)) (by omega)) ?_;simp only [pT];iterate 4 (refine wC rfl ?_;simp only [pT])
     refine zAq (v:=.pointer (some ⟨blk,(f + r) * 2,none⟩)) rfl rfl (fun W=>zAj (n:=n) (i:=f + r) rfl rfl (by first | omega | (simp only [*];try omega)) (by omega)) ?_;simp only [pT];refine zAN (v:=.agg (zAa (en (d1[f + (2 * r + 1)]!)))) rfl rfl (fun W hW=>zAc (zAa (en (d1[f + (2 * r + 1)]!))) (hSd2.row.belowAll hW) rfl (zAo (bang (by omega))) zuA) ?_;simp only [pT];refine zAN (v:=.agg (zAa (en (d1[f + r]!)))) rfl rfl (fun W hW=>zAc (zAa (en (d1[f + r]!))) (hSd2.row.belowAll hW) rfl (zAo (bang (by omega))) zuA) ?_;simp only [pT];refine zAq (v:=.pointer (some ⟨blk,(f + r) * 2,none⟩)) rfl rfl (fun W=>zAj (n:=n) (i:=f + r) rfl rfl (by first | omega | (simp only [*];try omega)) (by omega)) ?_;simp only [pT];refine zBk rfl rfl (fun K hK=>?_);refine zAr hSd2.row 59 _ _ rfl rfl (.agg (zAa (en (d1[f + (2 * r + 1)]!)))) rfl (by kernel_rfl) (zA2 (by omega)) (zAn _) ?_;intro w2 b2 t2;have hSm:=hSd2.set (i:=f + r) (x:=d1[f + (2 * r + 1)]!) (by omega) b2 t2;clear b2 t2;refine hK _ _ ?_;clear hK K
     try simp only [pT]
     refine zAq (v:=.pointer (some ⟨blk,(f + (2 * r + 1)) * 2,none⟩)) rfl rfl (fun W=>zAj (n:=n) (i:=f + (2 * r + 1)) rfl rfl (by first | omega | (simp only [*];try omega)) (by omega)) ?_;simp only [pT];refine zBy rfl rfl (fun K hK=>?_);refine zAr hSm.row 59 _ _ rfl rfl (.agg (zAa (en (d1[f + r]!)))) rfl (by kernel_rfl) (zA2 (by simp only [Array.size_setIfInBounds];omega)) (zAn _) ?_;intro w2 b2 t2;have hS3:=hSm.set (i:=f + (2 * r + 1)) (x:=d1[f + r]!) (by simp only [Array.size_setIfInBounds];omega) b2 t2;clear b2 t2;refine hK _ _ ?_;clear hK K
     try simp only [pT]
     simp only [wpC];go_wp2;go_roundw
     case rel=>exact ⟨(2 * r + 1),swp d1 (f + r) (f + (2 * r + 1)),by omega,by first | rfl | go_num,zz (by rw [zBr];exact HN1.out),zz (by rw [HI.out,HST.out];rfl),zz hS3⟩
     case measure=>(simp [intOf];try omega)
    case false=>
     go_wp2;refine rgO [(0,true),(1,true),(2,true),(3,true),(4,true),(5,true),(6,true),(7,true),(8,true),(9,true),(10,true),(11,true),(12,true),(13,false),(14,true),(15,true)] ?_;iterate 5 ((first | refine wK rfl ?_ | refine wL rfl ?_ | refine wB rfl ?_);simp only [pT])
     refine zAf (v:=.pointer (some ⟨blk,(f + r) * 2,none⟩)) rfl rfl (fun W hW=>zAj (n:=n) (i:=f + r) rfl rfl (by first | omega | (simp only [*];try omega)) (by omega)) ?_;simp only [pT];refine zAf (v:=.agg (zAa (en (d1[f + r]!)))) rfl rfl (fun W hW=>zAc (zAa (en (d1[f + r]!))) (hSd.row.belowAll hW) rfl (zAo (bang (by omega))) zuA) ?_;simp only [pT];iterate 4 ((first | refine wK rfl ?_ | refine wL rfl ?_ | refine wB rfl ?_);simp only [pT])
     refine zAf (v:=.pointer (some ⟨blk,(f + (2 * r + 1)) * 2,none⟩)) rfl rfl (fun W hW=>zAj (n:=n) (i:=f + (2 * r + 1)) rfl rfl (by first | omega | (simp only [*];try omega)) (by omega)) ?_;simp only [pT];refine zAf (v:=.agg (zAa (en (d1[f + (2 * r + 1)]!)))) rfl rfl (fun W hW=>zAc (zAa (en (d1[f + (2 * r + 1)]!))) (hSd.row.belowAll hW) rfl (zAo (bang (by omega))) zuA) ?_;simp only [pT];refine zAG rfl rfl (fun K hK=>?_)
     go_simp
     refine (HC.out _ hSd.out _ _).mono ?_;rintro e w2 ⟨rfl,l2⟩;have hb2:=l2.below (Nat.le_refl _);have hS2:=hSd.lays l2;clear l2;refine hK _ _ hb2 ?_;clear hK K
     try simp only [pT]
     refine zAf (v:=.bool false) rfl rfl (fun W hW=>by go_simp;simpa using HCc.out) ?_;simp only [pT];iterate 1 ((first | refine wK rfl ?_ | refine wL rfl ?_ | refine wB rfl ?_);simp only [pT])
     simp only [wpB];go_wp2
     first | go_end0 | refine bodyPost_ret (results_none rfl _ _ _) rfl ?_
     exact ⟨rfl,by rw [HI.out,HST.out];exact hS2⟩
  ·have h2' : ¬ 2 * (r : Int) + 1 + 1 < (hi : Int):=by omega
   have HSEL : Hid (siftDown (ltC cf) hi f r d1 = if !(ltC cf) d1[f + r]! d1[f + (2 * r + 1)]! then d1 else siftDown (ltC cf) hi f (2 * r + 1) (swp d1 (f + r) (f + (2 * r + 1)))):=zz (by
    conv=>lhs;rw [siftDown]
    have hx : ¬ (2 * r + 1 + 1 < hi && ltC cf d1[f + (2 * r + 1)]! d1[f + (2 * r + 1) + 1]!) = true:=by simp [h2]
    rw [dif_neg h1,if_neg hx])
   go_wp2;refine rgO [(0,true),(1,true),(2,true),(3,true),(4,true),(5,true),(6,true),(7,true),(8,true),(9,true),(10,true),(11,true),(12,true),(13,true),(14,true),(15,true),(16,true),(17,true),(18,true),(19,false),(20,true),(21,true)] ?_;iterate 3 ((first | refine wK rfl ?_ | refine wL rfl ?_ | refine wB rfl ?_);simp only [pT])
   refine zAf (v:=.bool false) rfl rfl (fun W hW=>by first | (go_simp;done) | (go_simp;omega) | (go_simp;simp;omega)) ?_;simp only [pT];iterate 18 ((first | refine wK rfl ?_ | refine wL rfl ?_ | refine wB rfl ?_);simp only [pT])
   simp only [wpB];go_wp2;obtain ⟨c,hc⟩ : ∃ c,decide (cf d1[f + r]! d1[f + (2 * r + 1)]! < 0) = c:=⟨_,rfl⟩
   have HCc:=zz hc;have hlr : f + r < n:=by omega
   have hlc : f + (2 * r + 1) < n:=by omega
   have hSd:=hSd.drew;have HST : Hid (siftDown (ltC cf) hi f r d1 = if c then siftDown (ltC cf) hi f (2 * r + 1) (swp d1 (f + r) (f + (2 * r + 1))) else d1):=zz (by rw [HSEL.out,← hc];by_cases hx : cf d1[f + r]! d1[f + (2 * r + 1)]! < 0 <;> simp [ltC,hx]);clear hc
   cases c
   case true=>
    go_wp2;refine rgO [(0,true),(1,true),(2,true),(3,true),(4,true),(5,true),(6,true),(7,true),(8,true),(9,true),(10,true),(11,true),(12,true),(13,false),(14,true),(15,true)] ?_;iterate 5 ((first | refine wK rfl ?_ | refine wL rfl ?_ | refine wB rfl ?_);simp only [pT])
    refine zAf (v:=.pointer (some ⟨blk,(f + r) * 2,none⟩)) rfl rfl (fun W hW=>zAj (n:=n) (i:=f + r) rfl rfl (by first | omega | (simp only [*];try omega)) (by omega)) ?_;simp only [pT];refine zAf (v:=.agg (zAa (en (d1[f + r]!)))) rfl rfl (fun W hW=>zAc (zAa (en (d1[f + r]!))) (hSd.row.belowAll hW) rfl (zAo (bang (by omega))) zuA) ?_;simp only [pT];iterate 4 ((first | refine wK rfl ?_ | refine wL rfl ?_ | refine wB rfl ?_);simp only [pT])
    refine zAf (v:=.pointer (some ⟨blk,(f + (2 * r + 1)) * 2,none⟩)) rfl rfl (fun W hW=>zAj (n:=n) (i:=f + (2 * r + 1)) rfl rfl (by first | omega | (simp only [*];try omega)) (by omega)) ?_;simp only [pT];refine zAf (v:=.agg (zAa (en (d1[f + (2 * r + 1)]!)))) rfl rfl (fun W hW=>zAc (zAa (en (d1[f + (2 * r + 1)]!))) (hSd.row.belowAll hW) rfl (zAo (bang (by omega))) zuA) ?_;simp only [pT];refine zAG rfl rfl (fun K hK=>?_)
    go_simp
    refine (HC.out _ hSd.out _ _).mono ?_;rintro e w2 ⟨rfl,l2⟩;have hb2:=l2.below (Nat.le_refl _);have hS2:=hSd.lays l2;clear l2;refine hK _ _ hb2 ?_;clear hK K
    try simp only [pT]
    refine zAf (v:=.bool true) rfl rfl (fun W hW=>by go_simp;simpa using HCc.out) ?_;simp only [pT];iterate 1 ((first | refine wK rfl ?_ | refine wL rfl ?_ | refine wB rfl ?_);simp only [pT])
    simp only [wpB];go_wp2;have hSd2:=hS2.drew;refine rgM 21 [(0,none),(1,none),(2,none),(3,none),(4,none),(5,none),(6,none),(7,none),(8,none),(9,none),(10,none),(11,none),(12,none),(14,none),(15,none),(16,none),(17,none),(18,none),(13,some true),(19,some true),(20,none),(21,some false),(22,none),(23,some false)] ?_;iterate 12 (refine wC rfl ?_;simp only [pT])
    refine zAq (v:=.pointer (some ⟨blk,(f + (2 * r + 1)) * 2,none⟩)) rfl rfl (fun W=>zAj (n:=n) (i:=f + (2 * r + 1)) rfl rfl (by first | omega | (simp only [*];try omega)) (by omega)) ?_;simp only [pT];iterate 4 (refine wC rfl ?_;simp only [pT])
    refine zAq (v:=.pointer (some ⟨blk,(f + r) * 2,none⟩)) rfl rfl (fun W=>zAj (n:=n) (i:=f + r) rfl rfl (by first | omega | (simp only [*];try omega)) (by omega)) ?_;simp only [pT];refine zAN (v:=.agg (zAa (en (d1[f + (2 * r + 1)]!)))) rfl rfl (fun W hW=>zAc (zAa (en (d1[f + (2 * r + 1)]!))) (hSd2.row.belowAll hW) rfl (zAo (bang (by omega))) zuA) ?_;simp only [pT];refine zAN (v:=.agg (zAa (en (d1[f + r]!)))) rfl rfl (fun W hW=>zAc (zAa (en (d1[f + r]!))) (hSd2.row.belowAll hW) rfl (zAo (bang (by omega))) zuA) ?_;simp only [pT];refine zAq (v:=.pointer (some ⟨blk,(f + r) * 2,none⟩)) rfl rfl (fun W=>zAj (n:=n) (i:=f + r) rfl rfl (by first | omega | (simp only [*];try omega)) (by omega)) ?_;simp only [pT];refine zBk rfl rfl (fun K hK=>?_);refine zAr hSd2.row 59 _ _ rfl rfl (.agg (zAa (en (d1[f + (2 * r + 1)]!)))) rfl (by kernel_rfl) (zA2 (by omega)) (zAn _) ?_;intro w2 b2 t2;have hSm:=hSd2.set (i:=f + r) (x:=d1[f + (2 * r + 1)]!) (by omega) b2 t2;clear b2 t2;refine hK _ _ ?_;clear hK K
    try simp only [pT]
    refine zAq (v:=.pointer (some ⟨blk,(f + (2 * r + 1)) * 2,none⟩)) rfl rfl (fun W=>zAj (n:=n) (i:=f + (2 * r + 1)) rfl rfl (by first | omega | (simp only [*];try omega)) (by omega)) ?_;simp only [pT];refine zBy rfl rfl (fun K hK=>?_);refine zAr hSm.row 59 _ _ rfl rfl (.agg (zAa (en (d1[f + r]!)))) rfl (by kernel_rfl) (zA2 (by simp only [Array.size_setIfInBounds];omega)) (zAn _) ?_;intro w2 b2 t2;have hS3:=hSm.set (i:=f + (2 * r + 1)) (x:=d1[f + r]!) (by simp only [Array.size_setIfInBounds];omega) b2 t2;clear b2 t2;refine hK _ _ ?_;clear hK K
    try simp only [pT]
    simp only [wpC];go_wp2;go_roundw
    case rel=>exact ⟨(2 * r + 1),swp d1 (f + r) (f + (2 * r + 1)),by omega,by first | rfl | go_num,zz (by rw [zBr];exact HN1.out),zz (by rw [HI.out,HST.out];rfl),zz hS3⟩
    case measure=>(simp [intOf];try omega)
   case false=>
    go_wp2;refine rgO [(0,true),(1,true),(2,true),(3,true),(4,true),(5,true),(6,true),(7,true),(8,true),(9,true),(10,true),(11,true),(12,true),(13,false),(14,true),(15,true)] ?_;iterate 5 ((first | refine wK rfl ?_ | refine wL rfl ?_ | refine wB rfl ?_);simp only [pT])
    refine zAf (v:=.pointer (some ⟨blk,(f + r) * 2,none⟩)) rfl rfl (fun W hW=>zAj (n:=n) (i:=f + r) rfl rfl (by first | omega | (simp only [*];try omega)) (by omega)) ?_;simp only [pT];refine zAf (v:=.agg (zAa (en (d1[f + r]!)))) rfl rfl (fun W hW=>zAc (zAa (en (d1[f + r]!))) (hSd.row.belowAll hW) rfl (zAo (bang (by omega))) zuA) ?_;simp only [pT];iterate 4 ((first | refine wK rfl ?_ | refine wL rfl ?_ | refine wB rfl ?_);simp only [pT])
    refine zAf (v:=.pointer (some ⟨blk,(f + (2 * r + 1)) * 2,none⟩)) rfl rfl (fun W hW=>zAj (n:=n) (i:=f + (2 * r + 1)) rfl rfl (by first | omega | (simp only [*];try omega)) (by omega)) ?_;simp only [pT];refine zAf (v:=.agg (zAa (en (d1[f + (2 * r + 1)]!)))) rfl rfl (fun W hW=>zAc (zAa (en (d1[f + (2 * r + 1)]!))) (hSd.row.belowAll hW) rfl (zAo (bang (by omega))) zuA) ?_;simp only [pT];refine zAG rfl rfl (fun K hK=>?_)
    go_simp
    refine (HC.out _ hSd.out _ _).mono ?_;rintro e w2 ⟨rfl,l2⟩;have hb2:=l2.below (Nat.le_refl _);have hS2:=hSd.lays l2;clear l2;refine hK _ _ hb2 ?_;clear hK K
    try simp only [pT]
    refine zAf (v:=.bool false) rfl rfl (fun W hW=>by go_simp;simpa using HCc.out) ?_;simp only [pT];iterate 1 ((first | refine wK rfl ?_ | refine wL rfl ?_ | refine wB rfl ?_);simp only [pT])
    simp only [wpB];go_wp2
    first | go_end0 | refine bodyPost_ret (results_none rfl _ _ _) rfl ?_
    exact ⟨rfl,by rw [HI.out,HST.out];exact hS2⟩
end
end Go.Proofs.YtbbblemfodpmaaaGreat
