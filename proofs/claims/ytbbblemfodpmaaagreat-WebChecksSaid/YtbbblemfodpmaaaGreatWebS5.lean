/-partitionEqual of sides.-/
import Derived.Test.YtbbblemfodpmaaaGreatWebS4
import Derived.Deep.CutBlock
set_option linter.unusedVariables false
set_option linter.unusedSimpArgs false
set_option maxHeartbeats 16000000
set_option maxRecDepth 100000
namespace Go.Proofs.YtbbblemfodpmaaaGreat
open Go.RowKit
open Go.Sort
theorem partEq_end {α : Type} [Inhabited α] {lt : α→α→Bool} {a i j i3 i4 : Nat} {d : Array α} (h3 : scanUp (fun x=>!lt d[a]! x) d j i = i3) (h4 : scanDown (fun x=>lt d[a]! x) d i3 j = i4) (h : i3 > i4) : partEqLoop lt a i j d = (i3,d):=by
 rw [partEqLoop];simp only [h3,h4,h,if_true]
theorem partEq_go {α : Type} [Inhabited α] {lt : α→α→Bool} {a i j i3 i4 : Nat} {d : Array α} (h3 : scanUp (fun x=>!lt d[a]! x) d j i = i3) (h4 : scanDown (fun x=>lt d[a]! x) d i3 j = i4) (h : ¬ i3 > i4) (hi : i ≤ i3) (hj : i4 ≤ j) : partEqLoop lt a i j d = partEqLoop lt a (i3 + 1) (i4 - 1) (swp d i3 i4):=by
 conv=>lhs;rw [partEqLoop]
 simp only [h3,h4,h,if_false]
 by_cases h5 : i4 - 1 + 1 - (i3 + 1) < j + 1 - i
 ·rw [dif_pos h5]
 ·exfalso;omega
section
variable {α : Type} [Inhabited α] {en : α→Side} {w0 : World} {blk : Nat} {tail : List Value} {recv : Value} {cf : α→α→Int}
theorem partitionEq_s (HCM : zCX en w0 blk recv cf) (d : Array α) (a b p cap : Nat) (w : World) (hS : SW en w0 blk tail d w) (hap : a ≤ p) (hpb : p < b) (hb : b ≤ d.size) (hsz : d.size ≤ 4294967296) :
  Calls Tryz.prog 228 #[.slice (some ⟨blk,0,none⟩) d.size cap, .int .i64 a, .int .i64 b, .int .i64 p,(.func (.func 187) #[recv] #[])] w fun e w'=>e = .returned (.int .i64 (partitionEqual (ltC cf) d a b p).1)∧SW en w0 blk tail (partitionEqual (ltC cf) d a b p).2 w':=by
 have HC:=zz HCM;obtain ⟨n,hn⟩ : ∃ n,d.size = n:=⟨_,rfl⟩
 obtain ⟨B,rfl⟩ : ∃ q,b = q + 1:=⟨b - 1,by omega⟩
 have hge0 : n ≤ d.size:=by omega
 rw [hn] at hb hsz ⊢;obtain ⟨D1,hD1⟩ : ∃ x,swp d a p = x:=⟨_,rfl⟩
 have HN1 : Hid (D1.size = n):=zz (by rw [← hD1,zBr];exact hn);have HPB : Hid (partitionEqual (ltC cf) d a (B + 1) p = partEqLoop (ltC cf) a (a + 1) B D1):=zz (by unfold partitionEqual;rw [hD1,Nat.add_sub_cancel]);have kB : IntKind.i64.wrap (B : Int) = (B : Int):=i64w (by omega);have HSW0:=zz hD1;clear HCM hn hD1;have hpn : p < n:=by omega
 have han : a < n:=by omega
 go_enter Tryz.func228,Tryz.ntmps228;go_wp2;have hSd:=hS.drew;refine rgM 13 [(0,none),(1,none),(2,none),(3,none),(4,none),(5,none),(6,none),(8,none),(9,none),(10,none),(7,some true),(11,some true),(12,none),(13,some false),(14,none),(15,some false)] ?_;iterate 6 (refine wC rfl ?_;simp only [pT])
 refine zAq (v:=.pointer (some ⟨blk,(p) * 2,none⟩)) rfl rfl (fun W=>zAj (n:=n) (i:=p) rfl rfl (by first | omega | (simp only [*];try omega)) (by omega)) ?_;simp only [pT];iterate 2 (refine wC rfl ?_;simp only [pT])
 refine zAq (v:=.pointer (some ⟨blk,(a) * 2,none⟩)) rfl rfl (fun W=>zAj (n:=n) (i:=a) rfl rfl (by first | omega | (simp only [*];try omega)) (by omega)) ?_;simp only [pT];refine zAN (v:=.agg (zAa (en (d[p]!)))) rfl rfl (fun W hW=>zAc (zAa (en (d[p]!))) (hSd.row.belowAll hW) rfl (zAo (bang (by omega))) zuA) ?_;simp only [pT];refine zAN (v:=.agg (zAa (en (d[a]!)))) rfl rfl (fun W hW=>zAc (zAa (en (d[a]!))) (hSd.row.belowAll hW) rfl (zAo (bang (by omega))) zuA) ?_;simp only [pT];refine zAq (v:=.pointer (some ⟨blk,(a) * 2,none⟩)) rfl rfl (fun W=>zAj (n:=n) (i:=a) rfl rfl (by first | omega | (simp only [*];try omega)) (by omega)) ?_;simp only [pT];refine zBk rfl rfl (fun K hK=>?_);refine zAr hSd.row 59 _ _ rfl rfl (.agg (zAa (en (d[p]!)))) rfl (by kernel_rfl) (zA2 (by omega)) (zAn _) ?_;intro w2 b2 t2;have hSm:=hSd.set (i:=a) (x:=d[p]!) (by omega) b2 t2;clear b2 t2;refine hK _ _ ?_;clear hK K
 try simp only [pT]
 refine zAq (v:=.pointer (some ⟨blk,(p) * 2,none⟩)) rfl rfl (fun W=>zAj (n:=n) (i:=p) rfl rfl (by first | omega | (simp only [*];try omega)) (by omega)) ?_;simp only [pT];refine zBy rfl rfl (fun K hK=>?_);refine zAr hSm.row 59 _ _ rfl rfl (.agg (zAa (en (d[a]!)))) rfl (by kernel_rfl) (zA2 (by simp only [Array.size_setIfInBounds];omega)) (zAn _) ?_;intro w2 b2 t2;have hS3 : SW en w0 blk tail (swp (d) (a) (p)) w2:=hSm.set (i:=p) (x:=d[a]!) (by simp only [Array.size_setIfInBounds];omega) b2 t2;clear b2 t2;refine hK _ _ ?_;clear hK K
 try simp only [pT]
 simp only [wpC];rw [HSW0.out] at hS3;have HS4:=zz hS3;clear hS3 hSd hS HSW0;go_wp2
 go_loopw [11,12] (fun u v wr=>∃ (i j : Nat) (d2 : Array α),a + 1 ≤ i∧i ≤ B + 1∧j ≤ B∧u = .int .i64 i∧v = .int .i64 j∧Hid (d2.size = n)∧Hid (partEqLoop (ltC cf) a (a + 1) B D1 = partEqLoop (ltC cf) a i j d2)∧Hid (SW en w0 blk tail d2 wr)) (fun u v _=>(intOf v + 1 - intOf u).toNat)
 case atStart=>exact ⟨a + 1,B,D1,by omega,by omega,by omega,by first | rfl | go_num,by first | rfl | go_num,HN1,zz rfl,HS4⟩
 case round=>
  obtain ⟨i,j,D3,hai,hiB,hjB,rfl,rfl,HN3,HI,HS⟩:=hrel;have hge : n ≤ D3.size:=by have:=HN3.out;omega
  have HSx:=HS;have HIx:=HI
  go_upto_block 2 with fail
  go_cut [11] from 31 to 88 (fun v wc=>∃ k : Nat,v = .int .i64 k∧Hid (scanUp (fun x=>!ltC cf D3[a]! x) D3 (j) (i) = k)∧i ≤ k∧k ≤ B + 1∧Hid (SW en w0 blk tail D3 wc))
  case first=>
   go_wp2_with fail
   go_loopw [11] (fun v wr=>∃ k : Nat,i ≤ k∧k ≤ B + 1∧v = .int .i64 k∧Hid (scanUp (fun x=>!ltC cf D3[a]! x) D3 (j) (i) = scanUp (fun x=>!ltC cf D3[a]! x) D3 (j) k)∧Hid (SW en w0 blk tail D3 wr)) (fun v _=>j + 1 - (intOf v).toNat)
   case atStart=>exact ⟨i,Nat.le_refl _,by omega,by first | rfl | go_num,zz rfl,HSx⟩
   case round=>
    obtain ⟨k,hk0,hkJ,rfl,HI,HS⟩:=hrel;have hSd:=HS.out.drew
    by_cases hkj : k ≤ j
    ·have hi1 : ((k : Nat) : Int) ≤ ((j : Nat) : Int):=by omega
     push_cast at hi1
     have hkn : k < n:=by omega
     obtain ⟨c,hc⟩ : ∃ c,decide (cf D3[a]! D3[k]! < 0) = c:=⟨_,rfl⟩
     have HCc:=zz hc;clear hc
     cases c
     case true=>
      go_wp2;refine rgO [(0,true),(1,true),(2,true),(3,true),(4,true),(5,true),(6,true),(7,true),(8,true),(9,true),(10,true),(11,true),(12,true),(13,false),(14,true),(15,true),(16,true)] ?_;iterate 2 ((first | refine wK rfl ?_ | refine wL rfl ?_ | refine wB rfl ?_);simp only [pT])
      refine zAf (v:=.bool true) rfl rfl (fun W hW=>by first | (go_simp;done) | (go_simp;omega) | (go_simp;simp;omega)) ?_;simp only [pT];iterate 4 ((first | refine wK rfl ?_ | refine wL rfl ?_ | refine wB rfl ?_);simp only [pT])
      refine zAf (v:=.pointer (some ⟨blk,(a) * 2,none⟩)) rfl rfl (fun W hW=>zAj (n:=n) (i:=a) rfl rfl (by first | omega | (simp only [*];try omega)) (by omega)) ?_;simp only [pT];refine zAf (v:=.agg (zAa (en (D3[a]!)))) rfl rfl (fun W hW=>zAc (zAa (en (D3[a]!))) (hSd.row.belowAll hW) rfl (zAo (bang (by omega))) zuA) ?_;simp only [pT];iterate 2 ((first | refine wK rfl ?_ | refine wL rfl ?_ | refine wB rfl ?_);simp only [pT])
      refine zAf (v:=.pointer (some ⟨blk,(k) * 2,none⟩)) rfl rfl (fun W hW=>zAj (n:=n) (i:=k) rfl rfl (by first | omega | (simp only [*];try omega)) (by omega)) ?_;simp only [pT];refine zAf (v:=.agg (zAa (en (D3[k]!)))) rfl rfl (fun W hW=>zAc (zAa (en (D3[k]!))) (hSd.row.belowAll hW) rfl (zAo (bang (by omega))) zuA) ?_;simp only [pT];refine zAG rfl rfl (fun K hK=>?_)
      go_simp
      refine (HC.out _ hSd.out _ _).mono ?_;rintro e w2 ⟨rfl,l2⟩;have hb2:=l2.below (Nat.le_refl _);have hS2:=hSd.lays l2;clear l2;refine hK _ _ hb2 ?_;clear hK K
      try simp only [pT]
      refine zAf (v:=.bool true) rfl rfl (fun W hW=>by go_simp;simpa using HCc.out) ?_;simp only [pT];iterate 2 ((first | refine wK rfl ?_ | refine wL rfl ?_ | refine wB rfl ?_);simp only [pT])
      simp only [wpB];go_wp2
      go_meet
      case rel=>exact ⟨k,by first | rfl | go_num,zz (by rw [HI.out,zED (by show (!(decide (cf _ _ < 0))) = _;rw [HCc.out];rfl)]),by omega,by omega,zz hS2⟩
     case false=>
      go_wp2;refine rgO [(0,true),(1,true),(2,true),(3,true),(4,true),(5,true),(6,true),(7,true),(8,true),(9,true),(10,true),(11,true),(12,true),(13,false),(14,true),(15,true),(16,true)] ?_;iterate 2 ((first | refine wK rfl ?_ | refine wL rfl ?_ | refine wB rfl ?_);simp only [pT])
      refine zAf (v:=.bool true) rfl rfl (fun W hW=>by first | (go_simp;done) | (go_simp;omega) | (go_simp;simp;omega)) ?_;simp only [pT];iterate 4 ((first | refine wK rfl ?_ | refine wL rfl ?_ | refine wB rfl ?_);simp only [pT])
      refine zAf (v:=.pointer (some ⟨blk,(a) * 2,none⟩)) rfl rfl (fun W hW=>zAj (n:=n) (i:=a) rfl rfl (by first | omega | (simp only [*];try omega)) (by omega)) ?_;simp only [pT];refine zAf (v:=.agg (zAa (en (D3[a]!)))) rfl rfl (fun W hW=>zAc (zAa (en (D3[a]!))) (hSd.row.belowAll hW) rfl (zAo (bang (by omega))) zuA) ?_;simp only [pT];iterate 2 ((first | refine wK rfl ?_ | refine wL rfl ?_ | refine wB rfl ?_);simp only [pT])
      refine zAf (v:=.pointer (some ⟨blk,(k) * 2,none⟩)) rfl rfl (fun W hW=>zAj (n:=n) (i:=k) rfl rfl (by first | omega | (simp only [*];try omega)) (by omega)) ?_;simp only [pT];refine zAf (v:=.agg (zAa (en (D3[k]!)))) rfl rfl (fun W hW=>zAc (zAa (en (D3[k]!))) (hSd.row.belowAll hW) rfl (zAo (bang (by omega))) zuA) ?_;simp only [pT];refine zAG rfl rfl (fun K hK=>?_)
      go_simp
      refine (HC.out _ hSd.out _ _).mono ?_;rintro e w2 ⟨rfl,l2⟩;have hb2:=l2.below (Nat.le_refl _);have hS2:=hSd.lays l2;clear l2;refine hK _ _ hb2 ?_;clear hK K
      try simp only [pT]
      refine zAf (v:=.bool false) rfl rfl (fun W hW=>by go_simp;simpa using HCc.out) ?_;simp only [pT];iterate 2 ((first | refine wK rfl ?_ | refine wL rfl ?_ | refine wB rfl ?_);simp only [pT])
      simp only [wpB];go_wp2;go_roundw
      case rel=>first | exact ⟨k + 1,by omega,by omega,by first | rfl | go_num,zz (by rw [HI.out,zEr hkj (by show (!(decide (cf _ _ < 0))) = _;rw [HCc.out];rfl)]),zz hS2⟩ | exact ⟨_,_,_,_,_,_,_,_,_,_,_,_,_,_,_,_,_,_,_,_,⟨k + 1,by omega,by omega,by first | rfl | go_num,zz (by rw [HI.out,zEr hkj (by show (!(decide (cf _ _ < 0))) = _;rw [HCc.out];rfl)]),zz hS2⟩,rfl⟩
      case measure=>(simp [intOf];try omega)
    ·have hi1 : ¬ ((k : Nat) : Int) ≤ ((j : Nat) : Int):=by omega
     push_cast at hi1
     go_wp2;refine rgO [(0,true),(1,true),(2,true),(3,true),(4,true),(5,true),(6,true),(7,true),(8,true),(9,true),(10,true),(11,true),(12,true),(13,false),(14,true),(15,true),(16,true)] ?_;iterate 2 ((first | refine wK rfl ?_ | refine wL rfl ?_ | refine wB rfl ?_);simp only [pT])
     refine zAf (v:=.bool false) rfl rfl (fun W hW=>by first | (go_simp;done) | (go_simp;omega) | (go_simp;simp;omega)) ?_;simp only [pT];iterate 14 ((first | refine wK rfl ?_ | refine wL rfl ?_ | refine wB rfl ?_);simp only [pT])
     simp only [wpB];go_wp2
     go_meet
     case rel=>exact ⟨k,rfl,zz (by rw [HI.out,zEY hkj]),by omega,by omega,zz hSd⟩
  obtain ⟨i3,rfl,HI3,h03,h13,HS3⟩:=hcut
  go_upto_block 4 with fail
  go_cut [12] from 31 to 88 (fun v wc=>∃ k : Nat,v = .int .i64 k∧Hid (scanDown (fun x=>ltC cf D3[a]! x) D3 (i3) (j) = k)∧k ≤ j∧Hid (SW en w0 blk tail D3 wc))
  case first=>
   go_wp2_with fail
   go_loopw [12] (fun v wr=>∃ k : Nat,k ≤ j∧v = .int .i64 k∧Hid (scanDown (fun x=>ltC cf D3[a]! x) D3 (i3) (j) = scanDown (fun x=>ltC cf D3[a]! x) D3 (i3) k)∧Hid (SW en w0 blk tail D3 wr)) (fun v _=>(intOf v).toNat)
   case atStart=>exact ⟨j,Nat.le_refl _,by first | rfl | go_num,zz rfl,HS3⟩
   case round=>
    obtain ⟨k,hk0,rfl,HI,HS⟩:=hrel;have hSd:=HS.out.drew
    by_cases hkj : i3 ≤ k
    ·have hi1 : ((i3 : Nat) : Int) ≤ ((k : Nat) : Int):=by omega
     push_cast at hi1
     have hkn : k < n:=by omega
     obtain ⟨c,hc⟩ : ∃ c,decide (cf D3[a]! D3[k]! < 0) = c:=⟨_,rfl⟩
     have HCc:=zz hc;clear hc;obtain ⟨k,rfl⟩ : ∃ q,k = q + 1:=⟨k - 1,by omega⟩
     have k1 : IntKind.i64.wrap (k : Int) = (k : Int):=i64w (by omega)
     cases c
     case true=>
      go_wp2;refine rgO [(0,true),(1,true),(2,true),(3,true),(4,true),(5,true),(6,true),(7,true),(8,true),(9,true),(10,true),(11,true),(12,true),(13,false),(14,true),(15,true)] ?_;iterate 2 ((first | refine wK rfl ?_ | refine wL rfl ?_ | refine wB rfl ?_);simp only [pT])
      refine zAf (v:=.bool true) rfl rfl (fun W hW=>by first | (go_simp;done) | (go_simp;omega) | (go_simp;simp;omega)) ?_;simp only [pT];iterate 4 ((first | refine wK rfl ?_ | refine wL rfl ?_ | refine wB rfl ?_);simp only [pT])
      refine zAf (v:=.pointer (some ⟨blk,(a) * 2,none⟩)) rfl rfl (fun W hW=>zAj (n:=n) (i:=a) rfl rfl (by first | omega | (simp only [*];try omega)) (by omega)) ?_;simp only [pT];refine zAf (v:=.agg (zAa (en (D3[a]!)))) rfl rfl (fun W hW=>zAc (zAa (en (D3[a]!))) (hSd.row.belowAll hW) rfl (zAo (bang (by omega))) zuA) ?_;simp only [pT];iterate 2 ((first | refine wK rfl ?_ | refine wL rfl ?_ | refine wB rfl ?_);simp only [pT])
      refine zAf (v:=.pointer (some ⟨blk,(k + 1) * 2,none⟩)) rfl rfl (fun W hW=>zAj (n:=n) (i:=k + 1) rfl rfl (by first | omega | (simp only [*];try omega)) (by omega)) ?_;simp only [pT];refine zAf (v:=.agg (zAa (en (D3[k + 1]!)))) rfl rfl (fun W hW=>zAc (zAa (en (D3[k + 1]!))) (hSd.row.belowAll hW) rfl (zAo (bang (by omega))) zuA) ?_;simp only [pT];refine zAG rfl rfl (fun K hK=>?_)
      go_simp
      refine (HC.out _ hSd.out _ _).mono ?_;rintro e w2 ⟨rfl,l2⟩;have hb2:=l2.below (Nat.le_refl _);have hS2:=hSd.lays l2;clear l2;refine hK _ _ hb2 ?_;clear hK K
      try simp only [pT]
      refine zAf (v:=.bool true) rfl rfl (fun W hW=>by go_simp;simpa using HCc.out) ?_;simp only [pT];iterate 1 ((first | refine wK rfl ?_ | refine wL rfl ?_ | refine wB rfl ?_);simp only [pT])
      simp only [wpB];go_wp2;go_roundw
      case rel=>first | exact ⟨k,by omega,by first | rfl | go_num,zz (by rw [HI.out,zDI hkj HCc.out]),zz hS2⟩ | exact ⟨_,_,_,_,_,_,_,_,_,_,_,_,_,_,_,_,_,_,_,⟨k,by omega,by first | rfl | go_num,zz (by rw [HI.out,zDI hkj HCc.out]),zz hS2⟩,rfl⟩
      case measure=>(simp [intOf];try omega)
     case false=>
      go_wp2;refine rgO [(0,true),(1,true),(2,true),(3,true),(4,true),(5,true),(6,true),(7,true),(8,true),(9,true),(10,true),(11,true),(12,true),(13,false),(14,true),(15,true)] ?_;iterate 2 ((first | refine wK rfl ?_ | refine wL rfl ?_ | refine wB rfl ?_);simp only [pT])
      refine zAf (v:=.bool true) rfl rfl (fun W hW=>by first | (go_simp;done) | (go_simp;omega) | (go_simp;simp;omega)) ?_;simp only [pT];iterate 4 ((first | refine wK rfl ?_ | refine wL rfl ?_ | refine wB rfl ?_);simp only [pT])
      refine zAf (v:=.pointer (some ⟨blk,(a) * 2,none⟩)) rfl rfl (fun W hW=>zAj (n:=n) (i:=a) rfl rfl (by first | omega | (simp only [*];try omega)) (by omega)) ?_;simp only [pT];refine zAf (v:=.agg (zAa (en (D3[a]!)))) rfl rfl (fun W hW=>zAc (zAa (en (D3[a]!))) (hSd.row.belowAll hW) rfl (zAo (bang (by omega))) zuA) ?_;simp only [pT];iterate 2 ((first | refine wK rfl ?_ | refine wL rfl ?_ | refine wB rfl ?_);simp only [pT])
      refine zAf (v:=.pointer (some ⟨blk,(k + 1) * 2,none⟩)) rfl rfl (fun W hW=>zAj (n:=n) (i:=k + 1) rfl rfl (by first | omega | (simp only [*];try omega)) (by omega)) ?_;simp only [pT];refine zAf (v:=.agg (zAa (en (D3[k + 1]!)))) rfl rfl (fun W hW=>zAc (zAa (en (D3[k + 1]!))) (hSd.row.belowAll hW) rfl (zAo (bang (by omega))) zuA) ?_;simp only [pT];refine zAG rfl rfl (fun K hK=>?_)
      go_simp
      refine (HC.out _ hSd.out _ _).mono ?_;rintro e w2 ⟨rfl,l2⟩;have hb2:=l2.below (Nat.le_refl _);have hS2:=hSd.lays l2;clear l2;refine hK _ _ hb2 ?_;clear hK K
      try simp only [pT]
      refine zAf (v:=.bool false) rfl rfl (fun W hW=>by go_simp;simpa using HCc.out) ?_;simp only [pT];iterate 1 ((first | refine wK rfl ?_ | refine wL rfl ?_ | refine wB rfl ?_);simp only [pT])
      simp only [wpB];go_wp2
      go_meet
      case rel=>exact ⟨k + 1,by first | rfl | go_num,zz (by rw [HI.out,zD3 HCc.out]),by omega,zz hS2⟩
    ·have hi1 : ¬ ((i3 : Nat) : Int) ≤ ((k : Nat) : Int):=by omega
     push_cast at hi1
     go_wp2;refine rgO [(0,true),(1,true),(2,true),(3,true),(4,true),(5,true),(6,true),(7,true),(8,true),(9,true),(10,true),(11,true),(12,true),(13,false),(14,true),(15,true)] ?_;iterate 2 ((first | refine wK rfl ?_ | refine wL rfl ?_ | refine wB rfl ?_);simp only [pT])
     refine zAf (v:=.bool false) rfl rfl (fun W hW=>by first | (go_simp;done) | (go_simp;omega) | (go_simp;simp;omega)) ?_;simp only [pT];iterate 13 ((first | refine wK rfl ?_ | refine wL rfl ?_ | refine wB rfl ?_);simp only [pT])
     simp only [wpB];go_wp2
     go_meet
     case rel=>exact ⟨k,rfl,zz (by rw [HI.out,zEc hkj]),by omega,zz hSd⟩
  obtain ⟨i4,rfl,HI4,h04,HS4⟩:=hcut
  by_cases hij2 : i3 > i4
  ·have hij2' : (i4 : Int) < (i3 : Int):=by omega
   have HPA : Hid (partEqLoop (ltC cf) a (a + 1) B D1 = (i3,D3)):=zz (by rw [HIx.out,partEq_end HI3.out HI4.out hij2]);go_wp2;go_ret;exact ⟨by rw [HPB.out,HPA.out];rfl,by rw [HPB.out,HPA.out];exact HS4.out⟩
  ·have hij2' : ¬ (i4 : Int) < (i3 : Int):=by omega
   obtain ⟨t,rfl⟩ : ∃ q,i4 = q + 1:=⟨i4 - 1,by omega⟩
   have HPA : Hid (partEqLoop (ltC cf) a (a + 1) B D1 = partEqLoop (ltC cf) a (i3 + 1) t (swp D3 i3 (t + 1))):=zz (by rw [HIx.out,partEq_go HI3.out HI4.out hij2 h03 h04];rfl);have hSd:=HS4.out.drew;have h2n : t + 1 < n:=by omega
   have h3n : i3 < n:=by omega
   have kt : IntKind.i64.wrap (t : Int) = (t : Int):=i64w (by omega);go_wp2;refine rgM 13 [(0,none),(1,none),(2,none),(3,none),(4,none),(5,none),(6,none),(8,none),(9,none),(10,none),(7,some true),(11,some true),(12,none),(13,some false),(14,none),(15,some false)] ?_;iterate 6 (refine wC rfl ?_;simp only [pT])
   refine zAq (v:=.pointer (some ⟨blk,(t + 1) * 2,none⟩)) rfl rfl (fun W=>zAj (n:=n) (i:=t + 1) rfl rfl (by first | omega | (simp only [*];try omega)) (by omega)) ?_;simp only [pT];iterate 2 (refine wC rfl ?_;simp only [pT])
   refine zAq (v:=.pointer (some ⟨blk,(i3) * 2,none⟩)) rfl rfl (fun W=>zAj (n:=n) (i:=i3) rfl rfl (by first | omega | (simp only [*];try omega)) (by omega)) ?_;simp only [pT];refine zAN (v:=.agg (zAa (en (D3[t + 1]!)))) rfl rfl (fun W hW=>zAc (zAa (en (D3[t + 1]!))) (hSd.row.belowAll hW) rfl (zAo (bang (by omega))) zuA) ?_;simp only [pT];refine zAN (v:=.agg (zAa (en (D3[i3]!)))) rfl rfl (fun W hW=>zAc (zAa (en (D3[i3]!))) (hSd.row.belowAll hW) rfl (zAo (bang (by omega))) zuA) ?_;simp only [pT];refine zAq (v:=.pointer (some ⟨blk,(i3) * 2,none⟩)) rfl rfl (fun W=>zAj (n:=n) (i:=i3) rfl rfl (by first | omega | (simp only [*];try omega)) (by omega)) ?_;simp only [pT];refine zBk rfl rfl (fun K hK=>?_);refine zAr hSd.row 59 _ _ rfl rfl (.agg (zAa (en (D3[t + 1]!)))) rfl (by kernel_rfl) (zA2 (by omega)) (zAn _) ?_;intro w2 b2 t2;have hSm:=hSd.set (i:=i3) (x:=D3[t + 1]!) (by omega) b2 t2;clear b2 t2;refine hK _ _ ?_;clear hK K
   try simp only [pT]
   refine zAq (v:=.pointer (some ⟨blk,(t + 1) * 2,none⟩)) rfl rfl (fun W=>zAj (n:=n) (i:=t + 1) rfl rfl (by first | omega | (simp only [*];try omega)) (by omega)) ?_;simp only [pT];refine zBy rfl rfl (fun K hK=>?_);refine zAr hSm.row 59 _ _ rfl rfl (.agg (zAa (en (D3[i3]!)))) rfl (by kernel_rfl) (zA2 (by simp only [Array.size_setIfInBounds];omega)) (zAn _) ?_;intro w2 b2 t2;have hS3 : SW en w0 blk tail (swp (D3) (i3) (t + 1)) w2:=hSm.set (i:=t + 1) (x:=D3[i3]!) (by simp only [Array.size_setIfInBounds];omega) b2 t2;clear b2 t2;refine hK _ _ ?_;clear hK K
   try simp only [pT]
   simp only [wpC];go_wp2;go_roundw
   case rel=>first | exact ⟨i3 + 1,t,swp D3 i3 (t + 1),by omega,by omega,by omega,by first | rfl | go_num,by first | rfl | go_num,zz (by rw [zBr];exact HN3.out),HPA,zz hS3⟩ | exact ⟨_,_,_,_,_,_,_,_,_,_,_,_,_,_,_,_,_,_,_,_,_,_,_,_,_,_,_,_,_,_,_,_,_,_,_,_,_,_,_,_,_,_,_,_,_,_,_,_,_,_,_,_,_,_,_,_,_,_,_,_,⟨i3 + 1,t,swp D3 i3 (t + 1),by omega,by omega,by omega,by first | rfl | go_num,by first | rfl | go_num,zz (by rw [zBr];exact HN3.out),HPA,zz hS3⟩,rfl⟩
   case measure=>(simp [intOf];try omega)
end
end Go.Proofs.YtbbblemfodpmaaaGreat
