/-partialInsertionSort of sides.-/
import Derived.Test.YtbbblemfodpmaaaGreatWebGe
import Derived.Deep.CutBlock
set_option linter.unusedVariables false
set_option linter.unusedSimpArgs false
set_option maxHeartbeats 16000000
set_option maxRecDepth 100000
namespace Go.Proofs.YtbbblemfodpmaaaGreat
open Go.RowKit
open Go.Sort
theorem zFd {α : Type} [Inhabited α] {lt : α→α→Bool} {d : Array α} {b k : Nat} (h : k + 1 < b) (hp : lt d[k + 1]! d[k]! = false) : scanSorted lt d b (k + 1) = scanSorted lt d b (k + 2):=by
 rw [scanSorted];simp [h,hp]
theorem zF2 {α : Type} [Inhabited α] {lt : α→α→Bool} {d : Array α} {b k : Nat} (hp : lt d[k + 1]! d[k]! = true) : scanSorted lt d b (k + 1) = k + 1:=by
 rw [scanSorted];simp [hp]
theorem zGp {α : Type} [Inhabited α] {lt : α→α→Bool} {d : Array α} {b k : Nat} (h : ¬ k < b) : scanSorted lt d b k = k:=by
 rw [scanSorted];simp [h]
theorem pIns_step {α : Type} [Inhabited α] {lt : α→α→Bool} {d : Array α} {a b s i i2 : Nat} (h : scanSorted lt d b i = i2) : partialIns lt a b (s + 1) i d =
  if i2 = b then (d,true) else if b - a < 50 then (d,false) else partialIns lt a b s i2 (if b - i2 ≥ 2 then shiftUp lt b (i2 + 1) (if i2 - a ≥ 2 then shiftDown lt (i2 - 1) (swp d i2 (i2 - 1)) else swp d i2 (i2 - 1)) else (if i2 - a ≥ 2 then shiftDown lt (i2 - 1) (swp d i2 (i2 - 1)) else swp d i2 (i2 - 1))):=by
 rw [partialIns];simp only [h]
section
variable {α : Type} [Inhabited α] {en : α→Side} {w0 : World} {blk : Nat} {tail : List Value} {recv : Value} {cf : α→α→Int}
theorem partialIns_s (HCM : zCX en w0 blk recv cf) (d : Array α) (a b cap : Nat) (w : World) (hS : SW en w0 blk tail d w) (hab : a < b) (hb : b ≤ d.size) (hsz : d.size ≤ 4294967296) :
  Calls Tryz.prog 227 #[.slice (some ⟨blk,0,none⟩) d.size cap, .int .i64 a, .int .i64 b,(.func (.func 187) #[recv] #[])] w fun e w'=>e = .returned (.bool (partialInsertionSort (ltC cf) d a b).2)∧SW en w0 blk tail (partialInsertionSort (ltC cf) d a b).1 w':=by
 have HC:=zz HCM;obtain ⟨n,hn⟩ : ∃ n,d.size = n:=⟨_,rfl⟩
 obtain ⟨L,hL⟩ : ∃ n,b - a = n:=⟨_,rfl⟩
 have HL:=zz hL;rw [hn] at hb hsz ⊢;have HN:=zz hn;have HD : Hid (partialInsertionSort (ltC cf) d a b = partialIns (ltC cf) a b 5 (a + 1) d):=zz rfl;have kL : IntKind.i64.wrap ((b : Int) - (a : Int)) = (L : Int):=by rw [i64w (by omega)];omega
 have HS0:=zz hS;clear HCM hn hL hS;go_enter Tryz.func227,Tryz.ntmps227;go_wp2
 go_loopw [9,10,11,12] (fun u v _ _ wr=>∃ (i t : Nat) (d1 : Array α),a + 1 ≤ i∧i ≤ b∧t ≤ 5∧u = .int .i64 i∧v = .int .i64 t∧Hid (d1.size = n)∧Hid (partialIns (ltC cf) a b 5 (a + 1) d = partialIns (ltC cf) a b (5 - t) i d1)∧Hid (SW en w0 blk tail d1 wr)) (fun _ v _ _ _=>5 - (intOf v).toNat)
 case atStart=>exact ⟨a + 1,0,d,by omega,by omega,by omega,by first | rfl | go_num,rfl,HN,zz rfl,HS0⟩
 case round=>
  obtain ⟨i,t,D1,hai,hib,ht,rfl,rfl,HN1,HI,HS⟩:=hrel;have hge : n ≤ D1.size:=by have:=HN1.out;omega
  by_cases ht5 : t < 5
  case neg=>
   have ht5' : ¬ (t : Int) < 5:=by omega
   have HR : Hid (partialInsertionSort (ltC cf) d a b = (D1,false)):=zz (by rw [HD.out,HI.out,show 5 - t = 0 by omega];rfl);go_wp2;go_ret;exact ⟨by rw [HR.out];rfl,by rw [HR.out];exact HS.out⟩
  have ht5' : (t : Int) < 5:=by omega
  obtain ⟨s,hs⟩ : ∃ s,5 - t = s + 1:=⟨5 - t - 1,by omega⟩
  have HSX:=zz hs;have HIX:=HI;clear hs
  go_upto_block 2 with fail
  go_cut [9] from 15 to 140 (fun v wc=>∃ k : Nat,v = .int .i64 k∧Hid (scanSorted (ltC cf) D1 b i = k)∧i ≤ k∧k ≤ b∧Hid (SW en w0 blk tail D1 wc))
  case first=>
   go_wp2_with fail
   go_loopw [9] (fun v wr=>∃ k : Nat,i ≤ k∧k ≤ b∧v = .int .i64 k∧Hid (scanSorted (ltC cf) D1 b i = scanSorted (ltC cf) D1 b k)∧Hid (SW en w0 blk tail D1 wr)) (fun v _=>b - (intOf v).toNat)
   case atStart=>exact ⟨i,Nat.le_refl _,by omega,by first | rfl | go_num,zz rfl,HS⟩
   case round=>
    obtain ⟨k,hk0,hkJ,rfl,HI,HS⟩:=hrel;have hSd:=HS.out.drew
    by_cases hkj : k < b
    ·obtain ⟨k,rfl⟩ : ∃ q,k = q + 1:=⟨k - 1,by omega⟩
     have hi1 : (k : Int) + 1 < (b : Int):=by omega
     have k1 : IntKind.i64.wrap (k : Int) = (k : Int):=i64w (by omega);obtain ⟨c,hc⟩ : ∃ c,decide (cf D1[k + 1]! D1[k]! < 0) = c:=⟨_,rfl⟩
     have HCc:=zz hc;clear hc
     cases c
     case false=>
      go_wp2;refine rgO [(0,true),(1,true),(2,true),(3,true),(4,true),(5,true),(6,true),(7,true),(8,true),(9,true),(10,true),(11,true),(12,true),(13,true),(14,false),(15,true),(16,true),(17,true)] ?_;iterate 2 ((first | refine wK rfl ?_ | refine wL rfl ?_ | refine wB rfl ?_);simp only [pT])
      refine zAf (v:=.bool true) rfl rfl (fun W hW=>by first | (go_simp;done) | (go_simp;omega) | (go_simp;simp;omega)) ?_;simp only [pT];iterate 4 ((first | refine wK rfl ?_ | refine wL rfl ?_ | refine wB rfl ?_);simp only [pT])
      refine zAf (v:=.pointer (some ⟨blk,(k + 1) * 2,none⟩)) rfl rfl (fun W hW=>zAj (n:=n) (i:=k + 1) rfl rfl (by first | omega | (simp only [*];try omega)) (by omega)) ?_;simp only [pT];refine zAf (v:=.agg (zAa (en (D1[k + 1]!)))) rfl rfl (fun W hW=>zAc (zAa (en (D1[k + 1]!))) (hSd.row.belowAll hW) rfl (zAo (bang (by omega))) zuA) ?_;simp only [pT];iterate 3 ((first | refine wK rfl ?_ | refine wL rfl ?_ | refine wB rfl ?_);simp only [pT])
      refine zAf (v:=.pointer (some ⟨blk,(k) * 2,none⟩)) rfl rfl (fun W hW=>zAj (n:=n) (i:=k) rfl rfl (by first | omega | (simp only [*];try omega)) (by omega)) ?_;simp only [pT];refine zAf (v:=.agg (zAa (en (D1[k]!)))) rfl rfl (fun W hW=>zAc (zAa (en (D1[k]!))) (hSd.row.belowAll hW) rfl (zAo (bang (by omega))) zuA) ?_;simp only [pT];refine zAG rfl rfl (fun K hK=>?_)
      go_simp
      refine (HC.out _ hSd.out _ _).mono ?_;rintro e w2 ⟨rfl,l2⟩;have hb2:=l2.below (Nat.le_refl _);have hS2:=hSd.lays l2;clear l2;refine hK _ _ hb2 ?_;clear hK K
      try simp only [pT]
      refine zAf (v:=.bool false) rfl rfl (fun W hW=>by go_simp;simpa using HCc.out) ?_;simp only [pT];iterate 2 ((first | refine wK rfl ?_ | refine wL rfl ?_ | refine wB rfl ?_);simp only [pT])
      simp only [wpB];go_wp2;go_roundw
      case rel=>first | exact ⟨k + 2,by omega,by omega,by first | rfl | go_num,zz (by rw [HI.out,zFd hkj HCc.out]),zz hS2⟩ | exact ⟨_,_,_,_,_,_,_,_,_,_,_,_,_,_,_,_,_,_,_,_,_,⟨k + 2,by omega,by omega,by first | rfl | go_num,zz (by rw [HI.out,zFd hkj HCc.out]),zz hS2⟩,rfl⟩
      case measure=>(simp [intOf];try omega)
     case true=>
      go_wp2;refine rgO [(0,true),(1,true),(2,true),(3,true),(4,true),(5,true),(6,true),(7,true),(8,true),(9,true),(10,true),(11,true),(12,true),(13,true),(14,false),(15,true),(16,true),(17,true)] ?_;iterate 2 ((first | refine wK rfl ?_ | refine wL rfl ?_ | refine wB rfl ?_);simp only [pT])
      refine zAf (v:=.bool true) rfl rfl (fun W hW=>by first | (go_simp;done) | (go_simp;omega) | (go_simp;simp;omega)) ?_;simp only [pT];iterate 4 ((first | refine wK rfl ?_ | refine wL rfl ?_ | refine wB rfl ?_);simp only [pT])
      refine zAf (v:=.pointer (some ⟨blk,(k + 1) * 2,none⟩)) rfl rfl (fun W hW=>zAj (n:=n) (i:=k + 1) rfl rfl (by first | omega | (simp only [*];try omega)) (by omega)) ?_;simp only [pT];refine zAf (v:=.agg (zAa (en (D1[k + 1]!)))) rfl rfl (fun W hW=>zAc (zAa (en (D1[k + 1]!))) (hSd.row.belowAll hW) rfl (zAo (bang (by omega))) zuA) ?_;simp only [pT];iterate 3 ((first | refine wK rfl ?_ | refine wL rfl ?_ | refine wB rfl ?_);simp only [pT])
      refine zAf (v:=.pointer (some ⟨blk,(k) * 2,none⟩)) rfl rfl (fun W hW=>zAj (n:=n) (i:=k) rfl rfl (by first | omega | (simp only [*];try omega)) (by omega)) ?_;simp only [pT];refine zAf (v:=.agg (zAa (en (D1[k]!)))) rfl rfl (fun W hW=>zAc (zAa (en (D1[k]!))) (hSd.row.belowAll hW) rfl (zAo (bang (by omega))) zuA) ?_;simp only [pT];refine zAG rfl rfl (fun K hK=>?_)
      go_simp
      refine (HC.out _ hSd.out _ _).mono ?_;rintro e w2 ⟨rfl,l2⟩;have hb2:=l2.below (Nat.le_refl _);have hS2:=hSd.lays l2;clear l2;refine hK _ _ hb2 ?_;clear hK K
      try simp only [pT]
      refine zAf (v:=.bool true) rfl rfl (fun W hW=>by go_simp;simpa using HCc.out) ?_;simp only [pT];iterate 2 ((first | refine wK rfl ?_ | refine wL rfl ?_ | refine wB rfl ?_);simp only [pT])
      simp only [wpB];go_wp2
      go_meet
      case rel=>exact ⟨k + 1,by first | rfl | go_num,zz (by rw [HI.out,zF2 HCc.out]),by omega,by omega,zz hS2⟩
    ·have hi1 : ¬ (k : Int) < (b : Int):=by omega
     go_wp2;refine rgO [(0,true),(1,true),(2,true),(3,true),(4,true),(5,true),(6,true),(7,true),(8,true),(9,true),(10,true),(11,true),(12,true),(13,true),(14,false),(15,true),(16,true),(17,true)] ?_;iterate 2 ((first | refine wK rfl ?_ | refine wL rfl ?_ | refine wB rfl ?_);simp only [pT])
     refine zAf (v:=.bool false) rfl rfl (fun W hW=>by first | (go_simp;done) | (go_simp;omega) | (go_simp;simp;omega)) ?_;simp only [pT];iterate 15 ((first | refine wK rfl ?_ | refine wL rfl ?_ | refine wB rfl ?_);simp only [pT])
     simp only [wpB];go_wp2
     go_meet
     case rel=>exact ⟨k,rfl,zz (by rw [HI.out,zGp hkj]),by omega,by omega,zz hSd⟩
  obtain ⟨k,rfl,HK,hik,hkb,HS1⟩:=hcut;have HST : Hid (partialIns (ltC cf) a b 5 (a + 1) d = if k = b then (D1,true) else if b - a < 50 then (D1,false) else partialIns (ltC cf) a b s k (if b - k ≥ 2 then shiftUp (ltC cf) b (k + 1) (if k - a ≥ 2 then shiftDown (ltC cf) (k - 1) (swp D1 k (k - 1)) else swp D1 k (k - 1)) else (if k - a ≥ 2 then shiftDown (ltC cf) (k - 1) (swp D1 k (k - 1)) else swp D1 k (k - 1)))):=zz (by rw [HIX.out,HSX.out,pIns_step HK.out]);clear HIX HI HS
  by_cases hkb2 : k = b
  ·have hkb3 : ((k : Int) == (b : Int)) = true:=by simp [hkb2]
   have hkb4 : (k : Int) = (b : Int):=by omega
   have HR : Hid (partialInsertionSort (ltC cf) d a b = (D1,true)):=zz (by rw [HD.out,HST.out,if_pos hkb2]);clear hkb2;go_wp2;go_ret;exact ⟨by rw [HR.out];rfl,by rw [HR.out];exact HS1.out⟩
  have hkb3 : ((k : Int) == (b : Int)) = false:=by simp;omega
  have hkb4 : ¬ (k : Int) = (b : Int):=by omega
  by_cases h50 : b - a < 50
  ·have h50' : (L : Int) < 50:=by have:=HL.out;omega
   have HR : Hid (partialInsertionSort (ltC cf) d a b = (D1,false)):=zz (by rw [HD.out,HST.out,if_neg hkb2,if_pos h50]);clear hkb2;go_wp2;go_ret;exact ⟨by rw [HR.out];rfl,by rw [HR.out];exact HS1.out⟩
  have h50' : ¬ (L : Int) < 50:=by have:=HL.out;omega
  obtain ⟨k,rfl⟩ : ∃ q,k = q + 1:=⟨k - 1,by omega⟩
  have HST2 : Hid (partialIns (ltC cf) a b 5 (a + 1) d = partialIns (ltC cf) a b s (k + 1) (if b - (k + 1) ≥ 2 then shiftUp (ltC cf) b (k + 1 + 1) (if k + 1 - a ≥ 2 then shiftDown (ltC cf) k (swp D1 (k + 1) k) else swp D1 (k + 1) k) else (if k + 1 - a ≥ 2 then shiftDown (ltC cf) k (swp D1 (k + 1) k) else swp D1 (k + 1) k))):=zz (by rw [HST.out,if_neg hkb2,if_neg h50];rfl);have hk1n : k + 1 < n:=by omega
  have k1 : IntKind.i64.wrap (k : Int) = (k : Int):=i64w (by omega);have hSd:=HS1.out.drew;clear HST hkb2;go_wp2;refine rgM 15 [(0,none),(1,none),(2,none),(3,none),(4,none),(5,none),(6,none),(7,none),(8,none),(10,none),(11,none),(12,none),(9,some true),(13,some true),(14,none),(15,some false),(16,none),(17,some false)] ?_;iterate 8 (refine wC rfl ?_;simp only [pT])
  refine zAq (v:=.pointer (some ⟨blk,(k) * 2,none⟩)) rfl rfl (fun W=>zAj (n:=n) (i:=k) rfl rfl (by first | omega | (simp only [*];try omega)) (by omega)) ?_;simp only [pT];iterate 2 (refine wC rfl ?_;simp only [pT])
  refine zAq (v:=.pointer (some ⟨blk,(k + 1) * 2,none⟩)) rfl rfl (fun W=>zAj (n:=n) (i:=k + 1) rfl rfl (by first | omega | (simp only [*];try omega)) (by omega)) ?_;simp only [pT];refine zAN (v:=.agg (zAa (en (D1[k]!)))) rfl rfl (fun W hW=>zAc (zAa (en (D1[k]!))) (hSd.row.belowAll hW) rfl (zAo (bang (by omega))) zuA) ?_;simp only [pT];refine zAN (v:=.agg (zAa (en (D1[k + 1]!)))) rfl rfl (fun W hW=>zAc (zAa (en (D1[k + 1]!))) (hSd.row.belowAll hW) rfl (zAo (bang (by omega))) zuA) ?_;simp only [pT];refine zAq (v:=.pointer (some ⟨blk,(k + 1) * 2,none⟩)) rfl rfl (fun W=>zAj (n:=n) (i:=k + 1) rfl rfl (by first | omega | (simp only [*];try omega)) (by omega)) ?_;simp only [pT];refine zBk rfl rfl (fun K hK=>?_);refine zAr hSd.row 59 _ _ rfl rfl (.agg (zAa (en (D1[k]!)))) rfl (by kernel_rfl) (zA2 (by omega)) (zAn _) ?_;intro w2 b2 t2;have hSm:=hSd.set (i:=k + 1) (x:=D1[k]!) (by omega) b2 t2;clear b2 t2;refine hK _ _ ?_;clear hK K
  try simp only [pT]
  refine zAq (v:=.pointer (some ⟨blk,(k) * 2,none⟩)) rfl rfl (fun W=>zAj (n:=n) (i:=k) rfl rfl (by first | omega | (simp only [*];try omega)) (by omega)) ?_;simp only [pT];refine zBy rfl rfl (fun K hK=>?_);refine zAr hSm.row 59 _ _ rfl rfl (.agg (zAa (en (D1[k + 1]!)))) rfl (by kernel_rfl) (zA2 (by simp only [Array.size_setIfInBounds];omega)) (zAn _) ?_;intro w2 b2 t2;have hS3 : SW en w0 blk tail (swp (D1) (k + 1) (k)) w2:=hSm.set (i:=k) (x:=D1[k + 1]!) (by simp only [Array.size_setIfInBounds];omega) b2 t2;clear b2 t2;refine hK _ _ ?_;clear hK K
  try simp only [pT]
  simp only [wpC];obtain ⟨D2,hD2⟩ : ∃ x,swp D1 (k + 1) k = x:=⟨_,rfl⟩
  have HN2 : Hid (D2.size = n):=zz (by rw [← hD2,zBr];exact HN1.out);rw [hD2] at hS3 HST2;have HS2:=zz hS3;have hge : n ≤ D2.size:=by have:=HN2.out;omega
  clear hS3 hSd hD2;have kM : IntKind.i64.wrap ((k : Int) + 1 - (a : Int)) = (k : Int) + 1 - (a : Int):=i64w (by omega);have kR : IntKind.i64.wrap ((b : Int) - ((k : Int) + 1)) = (b : Int) - ((k : Int) + 1):=i64w (by omega)
  go_upto_if 65 with fail
  go_cut [11] from 15 to 140 (fun _ wc=>∃ d3 : Array α,Hid (d3.size = n)∧Hid ((if k + 1 - a ≥ 2 then shiftDown (ltC cf) k D2 else D2) = d3)∧Hid (SW en w0 blk tail d3 wc))
  case first=>
   by_cases h2 : k + 1 - a ≥ 2
   case neg=>
    have h2' : ¬ (2 : Int) ≤ (k : Int) + 1 - (a : Int):=by omega
    go_wp2_with fail
    go_meet
    case rel=>exact ⟨D2,HN2,zz (if_neg h2),HS2⟩
   have h2' : (2 : Int) ≤ (k : Int) + 1 - (a : Int):=by omega
   rw [show decide ((2 : Int) ≤ (k : Int) + 1 - (a : Int)) = true from decide_eq_true h2']
   go_wp2_with fail
   go_loopw [11] (fun u wr=>∃ (j : Nat) (d3 : Array α),j ≤ k∧u = .int .i64 j∧Hid (d3.size = n)∧Hid (shiftDown (ltC cf) k D2 = shiftDown (ltC cf) j d3)∧Hid (SW en w0 blk tail d3 wr)) (fun u _=>(intOf u).toNat)
   case atStart=>exact ⟨k,D2,Nat.le_refl _,by first | rfl | go_num,HN2,zz rfl,HS2⟩
   case round=>
    obtain ⟨j,D3,hjk,rfl,HN3,HJ,HS3⟩:=hrel;have hge : n ≤ D3.size:=by have:=HN3.out;omega
    have hSd:=HS3.out.drew
    rcases j with _ | j
    ·go_wp2
     go_meet
     case rel=>exact ⟨D3,HN3,zz (by rw [if_pos h2,HJ.out];rfl),HS3⟩
    have hj1 : (1 : Int) ≤ (j : Int) + 1:=by omega
    have hjn : j + 1 < n:=by omega
    have kj : IntKind.i64.wrap (j : Int) = (j : Int):=i64w (by omega);obtain ⟨c,hc⟩ : ∃ c,decide (cf D3[j + 1]! D3[j]! < 0) = c:=⟨_,rfl⟩
    have HCc:=zz hc;have HSTJ : Hid (shiftDown (ltC cf) (j + 1) D3 = if c then shiftDown (ltC cf) j (swp D3 (j + 1) j) else D3):=zz (by rw [shiftDown,← hc];by_cases hx : cf D3[j + 1]! D3[j]! < 0 <;> simp [ltC,hx]);clear hc
    cases c
    case true=>
     go_wp2;refine rgO [(0,true),(1,true),(2,true),(3,true),(4,true),(5,true),(6,true),(7,true),(8,true),(9,true),(10,false),(11,true),(12,true)] ?_;iterate 3 ((first | refine wK rfl ?_ | refine wL rfl ?_ | refine wB rfl ?_);simp only [pT])
     refine zAf (v:=.pointer (some ⟨blk,(j + 1) * 2,none⟩)) rfl rfl (fun W hW=>zAj (n:=n) (i:=j + 1) rfl rfl (by first | omega | (simp only [*];try omega)) (by omega)) ?_;simp only [pT];refine zAf (v:=.agg (zAa (en (D3[j + 1]!)))) rfl rfl (fun W hW=>zAc (zAa (en (D3[j + 1]!))) (hSd.row.belowAll hW) rfl (zAo (bang (by omega))) zuA) ?_;simp only [pT];iterate 3 ((first | refine wK rfl ?_ | refine wL rfl ?_ | refine wB rfl ?_);simp only [pT])
     refine zAf (v:=.pointer (some ⟨blk,(j) * 2,none⟩)) rfl rfl (fun W hW=>zAj (n:=n) (i:=j) rfl rfl (by first | omega | (simp only [*];try omega)) (by omega)) ?_;simp only [pT];refine zAf (v:=.agg (zAa (en (D3[j]!)))) rfl rfl (fun W hW=>zAc (zAa (en (D3[j]!))) (hSd.row.belowAll hW) rfl (zAo (bang (by omega))) zuA) ?_;simp only [pT];refine zAG rfl rfl (fun K hK=>?_)
     go_simp
     refine (HC.out _ hSd.out _ _).mono ?_;rintro e w2 ⟨rfl,l2⟩;have hb2:=l2.below (Nat.le_refl _);have hS2:=hSd.lays l2;clear l2;refine hK _ _ hb2 ?_;clear hK K
     try simp only [pT]
     refine zAf (v:=.bool true) rfl rfl (fun W hW=>by go_simp;simpa using HCc.out) ?_;simp only [pT];iterate 1 ((first | refine wK rfl ?_ | refine wL rfl ?_ | refine wB rfl ?_);simp only [pT])
     simp only [wpB];go_wp2;have hSd2:=hS2.drew;refine rgM 15 [(0,none),(1,none),(2,none),(3,none),(4,none),(5,none),(6,none),(7,none),(8,none),(10,none),(11,none),(12,none),(9,some true),(13,some true),(14,none),(15,some false),(16,none),(17,some false)] ?_;iterate 8 (refine wC rfl ?_;simp only [pT])
     refine zAq (v:=.pointer (some ⟨blk,(j) * 2,none⟩)) rfl rfl (fun W=>zAj (n:=n) (i:=j) rfl rfl (by first | omega | (simp only [*];try omega)) (by omega)) ?_;simp only [pT];iterate 2 (refine wC rfl ?_;simp only [pT])
     refine zAq (v:=.pointer (some ⟨blk,(j + 1) * 2,none⟩)) rfl rfl (fun W=>zAj (n:=n) (i:=j + 1) rfl rfl (by first | omega | (simp only [*];try omega)) (by omega)) ?_;simp only [pT];refine zAN (v:=.agg (zAa (en (D3[j]!)))) rfl rfl (fun W hW=>zAc (zAa (en (D3[j]!))) (hSd2.row.belowAll hW) rfl (zAo (bang (by omega))) zuA) ?_;simp only [pT];refine zAN (v:=.agg (zAa (en (D3[j + 1]!)))) rfl rfl (fun W hW=>zAc (zAa (en (D3[j + 1]!))) (hSd2.row.belowAll hW) rfl (zAo (bang (by omega))) zuA) ?_;simp only [pT];refine zAq (v:=.pointer (some ⟨blk,(j + 1) * 2,none⟩)) rfl rfl (fun W=>zAj (n:=n) (i:=j + 1) rfl rfl (by first | omega | (simp only [*];try omega)) (by omega)) ?_;simp only [pT];refine zBk rfl rfl (fun K hK=>?_);refine zAr hSd2.row 59 _ _ rfl rfl (.agg (zAa (en (D3[j]!)))) rfl (by kernel_rfl) (zA2 (by omega)) (zAn _) ?_;intro w2 b2 t2;have hSm:=hSd2.set (i:=j + 1) (x:=D3[j]!) (by omega) b2 t2;clear b2 t2;refine hK _ _ ?_;clear hK K
     try simp only [pT]
     refine zAq (v:=.pointer (some ⟨blk,(j) * 2,none⟩)) rfl rfl (fun W=>zAj (n:=n) (i:=j) rfl rfl (by first | omega | (simp only [*];try omega)) (by omega)) ?_;simp only [pT];refine zBy rfl rfl (fun K hK=>?_);refine zAr hSm.row 59 _ _ rfl rfl (.agg (zAa (en (D3[j + 1]!)))) rfl (by kernel_rfl) (zA2 (by simp only [Array.size_setIfInBounds];omega)) (zAn _) ?_;intro w2 b2 t2;have hS3 : SW en w0 blk tail (swp (D3) (j + 1) (j)) w2:=hSm.set (i:=j) (x:=D3[j + 1]!) (by simp only [Array.size_setIfInBounds];omega) b2 t2;clear b2 t2;refine hK _ _ ?_;clear hK K
     try simp only [pT]
     simp only [wpC];go_wp2;go_roundw
     case rel=>first | exact ⟨j,swp D3 (j + 1) j,by omega,by first | rfl | go_num,zz (by rw [zBr];exact HN3.out),zz (by rw [HJ.out,HSTJ.out];rfl),zz hS3⟩ | exact ⟨_,_,_,_,_,_,_,_,_,_,_,_,_,_,_,_,_,_,_,_,_,_,_,_,_,_,_,_,_,_,_,_,_,_,⟨j,swp D3 (j + 1) j,by omega,by first | rfl | go_num,zz (by rw [zBr];exact HN3.out),zz (by rw [HJ.out,HSTJ.out];rfl),zz hS3⟩,rfl⟩
     case measure=>(simp [intOf];try omega)
    case false=>
     go_wp2;refine rgO [(0,true),(1,true),(2,true),(3,true),(4,true),(5,true),(6,true),(7,true),(8,true),(9,true),(10,false),(11,true),(12,true)] ?_;iterate 3 ((first | refine wK rfl ?_ | refine wL rfl ?_ | refine wB rfl ?_);simp only [pT])
     refine zAf (v:=.pointer (some ⟨blk,(j + 1) * 2,none⟩)) rfl rfl (fun W hW=>zAj (n:=n) (i:=j + 1) rfl rfl (by first | omega | (simp only [*];try omega)) (by omega)) ?_;simp only [pT];refine zAf (v:=.agg (zAa (en (D3[j + 1]!)))) rfl rfl (fun W hW=>zAc (zAa (en (D3[j + 1]!))) (hSd.row.belowAll hW) rfl (zAo (bang (by omega))) zuA) ?_;simp only [pT];iterate 3 ((first | refine wK rfl ?_ | refine wL rfl ?_ | refine wB rfl ?_);simp only [pT])
     refine zAf (v:=.pointer (some ⟨blk,(j) * 2,none⟩)) rfl rfl (fun W hW=>zAj (n:=n) (i:=j) rfl rfl (by first | omega | (simp only [*];try omega)) (by omega)) ?_;simp only [pT];refine zAf (v:=.agg (zAa (en (D3[j]!)))) rfl rfl (fun W hW=>zAc (zAa (en (D3[j]!))) (hSd.row.belowAll hW) rfl (zAo (bang (by omega))) zuA) ?_;simp only [pT];refine zAG rfl rfl (fun K hK=>?_)
     go_simp
     refine (HC.out _ hSd.out _ _).mono ?_;rintro e w2 ⟨rfl,l2⟩;have hb2:=l2.below (Nat.le_refl _);have hS2:=hSd.lays l2;clear l2;refine hK _ _ hb2 ?_;clear hK K
     try simp only [pT]
     refine zAf (v:=.bool false) rfl rfl (fun W hW=>by go_simp;simpa using HCc.out) ?_;simp only [pT];iterate 1 ((first | refine wK rfl ?_ | refine wL rfl ?_ | refine wB rfl ?_);simp only [pT])
     simp only [wpB];go_wp2
     go_meet
     case rel=>exact ⟨D3,HN3,zz (by rw [if_pos h2,HJ.out,HSTJ.out];rfl),zz hS2⟩
  obtain ⟨D4,HN4,HD4,HS4⟩:=hcut;have hge : n ≤ D4.size:=by have:=HN4.out;omega
  clear HN2 HS2
  by_cases h2 : b - (k + 1) ≥ 2
  case neg=>
   have h2' : ¬ (2 : Int) ≤ (b : Int) - ((k : Int) + 1):=by omega
   go_wp2;go_roundw
   case rel=>first | exact ⟨k + 1,t + 1,D4,by omega,by omega,by omega,by first | rfl | go_num,by first | rfl | go_num,HN4,zz (by rw [HST2.out,HD4.out,if_neg h2,show 5 - (t + 1) = s by have:=HSX.out;omega]),HS4⟩ | exact ⟨_,_,_,_,_,_,_,_,_,_,_,_,_,_,_,_,_,_,_,_,_,_,_,_,_,_,_,_,_,_,_,_,_,_,_,_,_,_,_,_,_,_,_,_,_,_,_,_,_,_,_,_,_,_,_,_,_,_,_,_,_,_,_,_,_,_,_,_,_,_,_,_,_,_,_,_,_,_,_,_,_,_,_,_,_,_,_,_,_,_,_,_,_,_,_,_,_,_,_,_,_,_,_,_,_,_,_,_,_,_,_,_,_,_,_,_,_,_,_,_,_,_,_,_,_,_,_,_,_,_,⟨k + 1,t + 1,D4,by omega,by omega,by omega,by first | rfl | go_num,by first | rfl | go_num,HN4,zz (by rw [HST2.out,HD4.out,if_neg h2,show 5 - (t + 1) = s by have:=HSX.out;omega]),HS4⟩,rfl⟩
   case measure=>(simp [intOf];try omega)
  have h2' : (2 : Int) ≤ (b : Int) - ((k : Int) + 1):=by omega
  go_wp2
  go_loopw [12] (fun u wr=>∃ (j : Nat) (d3 : Array α),k + 1 ≤ j∧j + 1 ≤ b∧u = .int .i64 ((j + 1 : Nat) : Int)∧Hid (d3.size = n)∧Hid (shiftUp (ltC cf) b (k + 1 + 1) D4 = shiftUp (ltC cf) b (j + 1) d3)∧Hid (SW en w0 blk tail d3 wr)) (fun u _=>b - (intOf u).toNat)
  case atStart=>exact ⟨k + 1,D4,Nat.le_refl _,by omega,by first | rfl | go_num,HN4,zz rfl,HS4⟩
  case round=>
   obtain ⟨j,D3,hjk,hjb,rfl,HN3,HJ,HS3⟩:=hrel;have hge : n ≤ D3.size:=by have:=HN3.out;omega
   have hSd:=HS3.out.drew
   by_cases hjl : j + 1 < b
   case neg=>
    have hjl' : ¬ (j : Int) + 1 < (b : Int):=by omega
    have HSTJ : Hid (shiftUp (ltC cf) b (j + 1) D3 = D3):=zz (by rw [shiftUp,if_neg hjl]);go_wp2;go_roundw
    case rel=>first | exact ⟨k + 1,t + 1,D3,by omega,by omega,by omega,by first | rfl | go_num,by first | rfl | go_num,HN3,zz (by rw [HST2.out,HD4.out,if_pos h2,HJ.out,HSTJ.out,show 5 - (t + 1) = s by have:=HSX.out;omega]),HS3⟩ | exact ⟨_,_,_,_,_,_,_,_,_,_,_,_,_,_,_,_,_,_,_,_,_,_,_,_,_,_,_,_,_,_,_,_,_,_,_,_,_,_,_,_,_,_,_,_,_,_,_,_,_,_,_,_,_,_,_,_,_,_,_,_,_,_,_,_,_,_,_,_,_,_,_,_,_,_,_,_,_,_,_,_,_,_,_,_,_,_,_,_,_,_,_,_,_,_,_,_,_,_,_,_,_,_,_,_,_,_,_,_,_,_,_,_,_,_,_,_,_,_,_,_,_,_,_,_,_,_,_,_,_,_,⟨k + 1,t + 1,D3,by omega,by omega,by omega,by first | rfl | go_num,by first | rfl | go_num,HN3,zz (by rw [HST2.out,HD4.out,if_pos h2,HJ.out,HSTJ.out,show 5 - (t + 1) = s by have:=HSX.out;omega]),HS3⟩,rfl⟩
    case measure=>(simp [intOf];try omega)
   have hj1 : (j : Int) + 1 < (b : Int):=by omega
   have hjn : j + 1 < n:=by omega
   have kj : IntKind.i64.wrap (j : Int) = (j : Int):=i64w (by omega);obtain ⟨c,hc⟩ : ∃ c,decide (cf D3[j + 1]! D3[j]! < 0) = c:=⟨_,rfl⟩
   have HCc:=zz hc;have HSTJ : Hid (shiftUp (ltC cf) b (j + 1) D3 = if c then shiftUp (ltC cf) b (j + 1 + 1) (swp D3 (j + 1) j) else D3):=zz (by
    conv=>lhs;rw [shiftUp,if_pos hjl,Nat.add_sub_cancel]
    rw [← hc];by_cases hx : cf D3[j + 1]! D3[j]! < 0 <;> simp [ltC,hx])
   clear hc
   cases c
   case true=>
    go_wp2;refine rgO [(0,true),(1,true),(2,true),(3,true),(4,true),(5,true),(6,true),(7,true),(8,true),(9,true),(10,false),(11,true),(12,true)] ?_;iterate 3 ((first | refine wK rfl ?_ | refine wL rfl ?_ | refine wB rfl ?_);simp only [pT])
    refine zAf (v:=.pointer (some ⟨blk,(j + 1) * 2,none⟩)) rfl rfl (fun W hW=>zAj (n:=n) (i:=j + 1) rfl rfl (by first | omega | (simp only [*];try omega)) (by omega)) ?_;simp only [pT];refine zAf (v:=.agg (zAa (en (D3[j + 1]!)))) rfl rfl (fun W hW=>zAc (zAa (en (D3[j + 1]!))) (hSd.row.belowAll hW) rfl (zAo (bang (by omega))) zuA) ?_;simp only [pT];iterate 3 ((first | refine wK rfl ?_ | refine wL rfl ?_ | refine wB rfl ?_);simp only [pT])
    refine zAf (v:=.pointer (some ⟨blk,(j) * 2,none⟩)) rfl rfl (fun W hW=>zAj (n:=n) (i:=j) rfl rfl (by first | omega | (simp only [*];try omega)) (by omega)) ?_;simp only [pT];refine zAf (v:=.agg (zAa (en (D3[j]!)))) rfl rfl (fun W hW=>zAc (zAa (en (D3[j]!))) (hSd.row.belowAll hW) rfl (zAo (bang (by omega))) zuA) ?_;simp only [pT];refine zAG rfl rfl (fun K hK=>?_)
    go_simp
    refine (HC.out _ hSd.out _ _).mono ?_;rintro e w2 ⟨rfl,l2⟩;have hb2:=l2.below (Nat.le_refl _);have hS2:=hSd.lays l2;clear l2;refine hK _ _ hb2 ?_;clear hK K
    try simp only [pT]
    refine zAf (v:=.bool true) rfl rfl (fun W hW=>by go_simp;simpa using HCc.out) ?_;simp only [pT];iterate 1 ((first | refine wK rfl ?_ | refine wL rfl ?_ | refine wB rfl ?_);simp only [pT])
    simp only [wpB];go_wp2;have hSd2:=hS2.drew;refine rgM 15 [(0,none),(1,none),(2,none),(3,none),(4,none),(5,none),(6,none),(7,none),(8,none),(10,none),(11,none),(12,none),(9,some true),(13,some true),(14,none),(15,some false),(16,none),(17,some false)] ?_;iterate 8 (refine wC rfl ?_;simp only [pT])
    refine zAq (v:=.pointer (some ⟨blk,(j) * 2,none⟩)) rfl rfl (fun W=>zAj (n:=n) (i:=j) rfl rfl (by first | omega | (simp only [*];try omega)) (by omega)) ?_;simp only [pT];iterate 2 (refine wC rfl ?_;simp only [pT])
    refine zAq (v:=.pointer (some ⟨blk,(j + 1) * 2,none⟩)) rfl rfl (fun W=>zAj (n:=n) (i:=j + 1) rfl rfl (by first | omega | (simp only [*];try omega)) (by omega)) ?_;simp only [pT];refine zAN (v:=.agg (zAa (en (D3[j]!)))) rfl rfl (fun W hW=>zAc (zAa (en (D3[j]!))) (hSd2.row.belowAll hW) rfl (zAo (bang (by omega))) zuA) ?_;simp only [pT];refine zAN (v:=.agg (zAa (en (D3[j + 1]!)))) rfl rfl (fun W hW=>zAc (zAa (en (D3[j + 1]!))) (hSd2.row.belowAll hW) rfl (zAo (bang (by omega))) zuA) ?_;simp only [pT];refine zAq (v:=.pointer (some ⟨blk,(j + 1) * 2,none⟩)) rfl rfl (fun W=>zAj (n:=n) (i:=j + 1) rfl rfl (by first | omega | (simp only [*];try omega)) (by omega)) ?_;simp only [pT];refine zBk rfl rfl (fun K hK=>?_);refine zAr hSd2.row 59 _ _ rfl rfl (.agg (zAa (en (D3[j]!)))) rfl (by kernel_rfl) (zA2 (by omega)) (zAn _) ?_;intro w2 b2 t2;have hSm:=hSd2.set (i:=j + 1) (x:=D3[j]!) (by omega) b2 t2;clear b2 t2;refine hK _ _ ?_;clear hK K
    try simp only [pT]
    refine zAq (v:=.pointer (some ⟨blk,(j) * 2,none⟩)) rfl rfl (fun W=>zAj (n:=n) (i:=j) rfl rfl (by first | omega | (simp only [*];try omega)) (by omega)) ?_;simp only [pT];refine zBy rfl rfl (fun K hK=>?_);refine zAr hSm.row 59 _ _ rfl rfl (.agg (zAa (en (D3[j + 1]!)))) rfl (by kernel_rfl) (zA2 (by simp only [Array.size_setIfInBounds];omega)) (zAn _) ?_;intro w2 b2 t2;have hS3 : SW en w0 blk tail (swp (D3) (j + 1) (j)) w2:=hSm.set (i:=j) (x:=D3[j + 1]!) (by simp only [Array.size_setIfInBounds];omega) b2 t2;clear b2 t2;refine hK _ _ ?_;clear hK K
    try simp only [pT]
    simp only [wpC];go_wp2;go_roundw
    case rel=>first | exact ⟨j + 1,swp D3 (j + 1) j,by omega,by omega,by first | rfl | go_num,zz (by rw [zBr];exact HN3.out),zz (by rw [HJ.out,HSTJ.out];rfl),zz hS3⟩ | exact ⟨_,_,_,_,_,_,_,_,_,_,_,_,_,_,_,_,_,_,_,_,_,_,_,_,_,_,_,_,_,_,_,_,_,_,_,⟨j + 1,swp D3 (j + 1) j,by omega,by omega,by first | rfl | go_num,zz (by rw [zBr];exact HN3.out),zz (by rw [HJ.out,HSTJ.out];rfl),zz hS3⟩,rfl⟩
    case measure=>(simp [intOf];try omega)
   case false=>
    go_wp2;refine rgO [(0,true),(1,true),(2,true),(3,true),(4,true),(5,true),(6,true),(7,true),(8,true),(9,true),(10,false),(11,true),(12,true)] ?_;iterate 3 ((first | refine wK rfl ?_ | refine wL rfl ?_ | refine wB rfl ?_);simp only [pT])
    refine zAf (v:=.pointer (some ⟨blk,(j + 1) * 2,none⟩)) rfl rfl (fun W hW=>zAj (n:=n) (i:=j + 1) rfl rfl (by first | omega | (simp only [*];try omega)) (by omega)) ?_;simp only [pT];refine zAf (v:=.agg (zAa (en (D3[j + 1]!)))) rfl rfl (fun W hW=>zAc (zAa (en (D3[j + 1]!))) (hSd.row.belowAll hW) rfl (zAo (bang (by omega))) zuA) ?_;simp only [pT];iterate 3 ((first | refine wK rfl ?_ | refine wL rfl ?_ | refine wB rfl ?_);simp only [pT])
    refine zAf (v:=.pointer (some ⟨blk,(j) * 2,none⟩)) rfl rfl (fun W hW=>zAj (n:=n) (i:=j) rfl rfl (by first | omega | (simp only [*];try omega)) (by omega)) ?_;simp only [pT];refine zAf (v:=.agg (zAa (en (D3[j]!)))) rfl rfl (fun W hW=>zAc (zAa (en (D3[j]!))) (hSd.row.belowAll hW) rfl (zAo (bang (by omega))) zuA) ?_;simp only [pT];refine zAG rfl rfl (fun K hK=>?_)
    go_simp
    refine (HC.out _ hSd.out _ _).mono ?_;rintro e w2 ⟨rfl,l2⟩;have hb2:=l2.below (Nat.le_refl _);have hS2:=hSd.lays l2;clear l2;refine hK _ _ hb2 ?_;clear hK K
    try simp only [pT]
    refine zAf (v:=.bool false) rfl rfl (fun W hW=>by go_simp;simpa using HCc.out) ?_;simp only [pT];iterate 1 ((first | refine wK rfl ?_ | refine wL rfl ?_ | refine wB rfl ?_);simp only [pT])
    simp only [wpB];go_wp2;go_roundw
    case rel=>first | exact ⟨k + 1,t + 1,D3,by omega,by omega,by omega,by first | rfl | go_num,by first | rfl | go_num,HN3,zz (by rw [HST2.out,HD4.out,if_pos h2,HJ.out,HSTJ.out,show 5 - (t + 1) = s by have:=HSX.out;omega];rfl),zz hS2⟩ | exact ⟨_,_,_,_,_,_,_,_,_,_,_,_,_,_,_,_,_,_,_,_,_,_,_,_,_,_,_,_,_,_,_,_,_,_,_,_,_,_,_,_,_,_,_,_,_,_,_,_,_,_,_,_,_,_,_,_,_,_,_,_,_,_,_,_,_,_,_,_,_,_,_,_,_,_,_,_,_,_,_,_,_,_,_,_,_,_,_,_,_,_,_,_,_,_,_,_,_,_,_,_,_,_,_,_,_,_,_,_,_,_,_,_,_,_,_,_,_,_,_,_,_,_,_,_,_,_,_,_,_,_,⟨k + 1,t + 1,D3,by omega,by omega,by omega,by first | rfl | go_num,by first | rfl | go_num,HN3,zz (by rw [HST2.out,HD4.out,if_pos h2,HJ.out,HSTJ.out,show 5 - (t + 1) = s by have:=HSX.out;omega];rfl),zz hS2⟩,rfl⟩
    case measure=>(simp [intOf];try omega)
end
end Go.Proofs.YtbbblemfodpmaaaGreat
