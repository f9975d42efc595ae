/-
  Walks; the sides of a web, how often a side is in walks.
  How often a side is in walks.
  .. where two operations that make memory may come up in either order: both ways.
  WebRounds answers true.
-/
import Derived.Test.YtcebcklecmppnaaGreatWebGr
import Derived.Test.YtcebcklecmppnaaGreatWebGn
import Derived.Test.YtcebcklecmppnaaGreatOrd
import Derived.Test.YtcebcklecmppnaaGreatWebGm
set_option linter.unusedVariables false
set_option linter.unusedSimpArgs false
set_option maxHeartbeats 16000000
set_option maxRecDepth 100000
section
namespace Go.Proofs.YtcebcklecmppnaaGreat
open Go.RowKit
end Go.Proofs.YtcebcklecmppnaaGreat
end
section
namespace Go.Proofs.YtcebcklecmppnaaGreat
open Go.RowKit
theorem flat_take {α : Type} {L : List (List α)} {k : Nat} {l : List α} (h : L[k]? = some l) : (L.take (k + 1)).flatten = (L.take k).flatten ++ l := by
 rw [List.take_add_one,h];simp
theorem flat_take_le {α : Type} (L : List (List α)) (k : Nat) : (L.take k).flatten.length ≤ L.flatten.length := by
 conv => rhs;rw [← List.take_append_drop k L,List.flatten_append,List.length_append]
 omega
theorem times_any {N : Nat} (v : Value) (L : List (List Side)) (s : Side) (w : World) (hv : zAW w N v L) (hL : L.length ≤ 1000) (hf : L.flatten.length ≤ 1000) :
  Calls Tryz.prog 18 #[v, .agg (zAa s)] w fun e w' => e = .returned (.int .i64 (L.flatten.count s : Nat)) ∧ Below w.heap.size w w' := by
 obtain ⟨va,vc,rfl⟩ := hv.shape
 have HV := zz hv
 have HF := zz hf
 clear hv hf
 have HB0 : Hid (Below w.heap.size w (w.alloc (.cells (zAa s) 61))) := zz ((Below.refl _ _).alloc (Nat.le_refl _) _)
 have HSB : Hid (∀ W,Below (w.heap.size + 1) (w.alloc (.cells (zAa s) 61)) W → zAe W w.heap.size 61 (zAa s)) := zz fun W hW => (zAe.new w 61 (zAa s)).belowAll (by rw [World.size_alloc];exact hW)
 have HR0 : Hid (Below (w.heap.size + 1) (w.alloc (.cells (zAa s) 61)) (w.alloc (.cells (zAa s) 61))) := zz (Below.refl _ _)
 have HTR : Hid (∀ W,Below (w.heap.size + 1) (w.alloc (.cells (zAa s) 61)) W → Below w.heap.size w W) := zz fun W hW => HB0.out.trans (hW.mono (Nat.le_succ _))
 obtain ⟨n,hn⟩ : ∃ n,L.length = n := ⟨_,rfl⟩
 have HN := zz hn
 rw [hn] at hL ⊢
 clear hn
 go_enter Tryz.func18,Tryz.ntmps18
 go_wp2
 go_loopw [5,6] (fun c i wr => ∃ k : Nat,k ≤ n ∧ i = .int .i64 k ∧ c = .int .i64 (((L.take k).flatten.count s : Nat) : Int) ∧ Hid (Below (w.heap.size + 1) (w.alloc (.cells (zAa s) 61)) wr)) (fun _ i _ => n - (intOf i).toNat)
 case atStart => exact ⟨0,Nat.zero_le _,rfl,by simp,HR0⟩
 case round =>
  obtain ⟨k,hk,rfl,rfl,HB1⟩ := hrel
  by_cases hlt : k < n
  ·obtain ⟨l,hl⟩ : ∃ l,L[k]? = some l := ⟨_,List.getElem?_eq_getElem (by rw [HN.out];exact hlt)⟩
   obtain ⟨g,cap,⟨sa,sc,sv⟩,e,_,hg,hq,hsv,hos⟩ := HV.out.place hl
   simp only [Value.slice.injEq] at e
   obtain ⟨rfl,_,rfl⟩ := e
   simp only at hq hos hsv
   have HLt := zz hlt
   have HLG := zz hl
   have HOS := zz hos
   obtain ⟨m,hm⟩ : ∃ m,l.length = m := ⟨_,rfl⟩
   have HM := zz hm
   rw [hm] at hq
   have HQ : Hid (∀ W,Below (w.heap.size + 1) (w.alloc (.cells (zAa s) 61)) W → W.cell? ⟨g,k,none⟩ = some (.slice sa m sc)) := zz fun W hW => ((HTR.out W hW).cell (p := ⟨g,k,none⟩) hg).trans hq
   obtain ⟨c0,hc0⟩ : ∃ c,(L.take k).flatten.count s = c := ⟨_,rfl⟩
   have HC0 := zz hc0
   have HCB : Hid (c0 + m ≤ 1000) := zz (by
    have h1 := flat_take_le L (k + 1)
    rw [flat_take hl,List.length_append,hm] at h1
    have h2 := List.count_le_length (a := s) (l := (L.take k).flatten)
    have h3 := HF.out
    omega)
   have hm1000 : m ≤ 1000 := by have := HCB.out;omega
   simp only [hc0]
   clear hl hos hm hc0 hsv hq hg
   go_wp2
   go_loopw [5,7] (fun c j wr2 => ∃ q : Nat,q ≤ m ∧ j = .int .i64 q ∧ c = .int .i64 ((c0 + (l.take q).count s : Nat) : Int) ∧ Hid (Below (w.heap.size + 1) (w.alloc (.cells (zAa s) 61)) wr2)) (fun _ j _ => m - (intOf j).toNat)
   case atStart => exact ⟨0,Nat.zero_le _,rfl,by simp,HB1⟩
   case round =>
    obtain ⟨q,hq,rfl,rfl,HB2⟩ := hrel
    have q1 := HQ.out _ HB2.out
    have HZZ : Hid (w.heap.size + 1 ≤ wr.heap.size) := zz (by have h := HB2.out.size;rwa [World.size_alloc] at h)
    by_cases hqlt : q < m
    ·obtain ⟨y,hy⟩ : ∃ y,l[q]? = some y := ⟨_,List.getElem?_eq_getElem (by rw [HM.out];exact hqlt)⟩
     obtain ⟨g2,c2,e,_,hg2,hcy⟩ := OwnL.cellOf (enc := zAa) (sz := 2) (fun _ => rfl) HOS.out hy
     rw [HM.out] at e
     simp only [Value.slice.injEq,true_and] at e
     obtain ⟨rfl,rfl⟩ := e
     have HCY : Hid (∀ W,Below (w.heap.size + 1) (w.alloc (.cells (zAa s) 61)) W → ∀ j,j < (zAa y).size → W.cell? ⟨g2,q * 2 + j,none⟩ = (zAa y)[j]?) := zz fun W hW j hj => by
      rw [(HTR.out W hW).cell (p := ⟨g2,q * 2 + j,none⟩) hg2];exact hcy j hj
     obtain ⟨cq,hcq⟩ : ∃ c,(l.take q).count s = c := ⟨_,rfl⟩
     have HCQ : Hid ((l.take (q + 1)).count s = cq + if y = s then 1 else 0) := zz (by
      rw [List.take_add_one,hy,List.count_append,hcq]
      by_cases h : y = s
      ·subst h;simp
      ·simp [h])
     have HC1 : c0 + cq + 1 ≤ 1001 := by
      have h := List.count_le_length (a := s) (l := l.take q)
      rw [hcq,List.length_take] at h
      have := HCB.out
      omega
     have W1 : IntKind.i64.wrap (((c0 + cq : Nat) : Int) + 1) = ((c0 + cq + 1 : Nat) : Int) := by rw [IntWalk.i64_in _ (by omega)];rfl
     simp only [hcq]
     clear hy hcy hcq
     by_cases hys : y = s
     ·have HE : Hid (zBs y s = true) := zz (by unfold zBs;exact decide_eq_true hys)
      have HYS := zz hys
      clear hys
      go_wp2
      refine rgO [(0,true),(1,true),(2,true),(3,true),(4,true),(5,true),(6,true),(7,true),(8,true)] ?_
      iterate 3 (refine wB rfl rfl ?_;simp only [pT])
      refine zAc (v := .slice (some ⟨g2,0,none⟩) m sc) rfl rfl (fun W hW => by have e : W.cell? ⟨g,k,none⟩ = some (.slice (some ⟨g2,0,none⟩) m sc) := HQ.out W (HB2.out.trans ((Lays.refl wr).drew.below (Nat.le_refl _) |>.trans hW |>.mono HZZ.out));go_simp) ?_;simp only [pT]
      iterate 2 (refine wB rfl rfl ?_;simp only [pT])
      refine zAc (v := .agg (zAa y)) rfl rfl (fun W hW => zA2 (zAa y) (HCY.out _ (HB2.out.trans ((Lays.refl wr).drew.below (Nat.le_refl _) |>.trans hW |>.mono HZZ.out))) rfl zuA) ?_;simp only [pT]
      refine zAc (v := .agg (zAa s)) rfl rfl (fun W hW => zAg (zAa s) (HSB.out _ (HB2.out.trans ((Lays.refl wr).drew.below (Nat.le_refl _) |>.trans hW |>.mono HZZ.out))) rfl (zAi _) zuA) ?_;simp only [pT]
      refine wB rfl rfl ?_;simp only [pT]
      simp only [wpB]
      rw [HE.out]
      go_wp2
      go_roundw
      case rel =>
       refine ⟨q + 1,by omega,by go_num, ?_,zz (HB2.out.trans ((Lays.refl wr).drew.below (Nat.le_refl _) |>.mono HZZ.out))⟩
       rw [HCQ.out,if_pos HYS.out];rfl
      case measure => simp [intOf];omega
     ·have HE : Hid (zBs y s = false) := zz (by unfold zBs;exact decide_eq_false hys)
      have HYS := zz hys
      clear hys
      go_wp2
      refine rgO [(0,true),(1,true),(2,true),(3,true),(4,true),(5,true),(6,true),(7,true),(8,true)] ?_
      iterate 3 (refine wB rfl rfl ?_;simp only [pT])
      refine zAc (v := .slice (some ⟨g2,0,none⟩) m sc) rfl rfl (fun W hW => by have e : W.cell? ⟨g,k,none⟩ = some (.slice (some ⟨g2,0,none⟩) m sc) := HQ.out W (HB2.out.trans ((Lays.refl wr).drew.below (Nat.le_refl _) |>.trans hW |>.mono HZZ.out));go_simp) ?_;simp only [pT]
      iterate 2 (refine wB rfl rfl ?_;simp only [pT])
      refine zAc (v := .agg (zAa y)) rfl rfl (fun W hW => zA2 (zAa y) (HCY.out _ (HB2.out.trans ((Lays.refl wr).drew.below (Nat.le_refl _) |>.trans hW |>.mono HZZ.out))) rfl zuA) ?_;simp only [pT]
      refine zAc (v := .agg (zAa s)) rfl rfl (fun W hW => zAg (zAa s) (HSB.out _ (HB2.out.trans ((Lays.refl wr).drew.below (Nat.le_refl _) |>.trans hW |>.mono HZZ.out))) rfl (zAi _) zuA) ?_;simp only [pT]
      refine wB rfl rfl ?_;simp only [pT]
      simp only [wpB]
      rw [HE.out]
      go_wp2
      go_roundw
      case rel =>
       refine ⟨q + 1,by omega,by go_num, ?_,zz (HB2.out.trans ((Lays.refl wr).drew.below (Nat.le_refl _) |>.mono HZZ.out))⟩
       rw [HCQ.out,if_neg HYS.out];rfl
      case measure => simp [intOf];omega
    ·go_wp2
     go_roundw
     case rel =>
      have hqm : q = m := by omega
      subst hqm
      refine ⟨k + 1,by omega,by go_num, ?_,HB2⟩
      rw [flat_take HLG.out,List.count_append,HC0.out]
      rw [List.take_of_length_le (by rw [HM.out];exact Nat.le_refl _)]
     case measure => have := HLt.out;simp [intOf];omega
  ·go_wp2
   go_ret
   have hkn : k = n := by omega
   subst hkn
   refine ⟨?_,HTR.out _ HB1.out⟩
   rw [List.take_of_length_le (by rw [HN.out];exact Nat.le_refl _)];rfl
end Go.Proofs.YtcebcklecmppnaaGreat
end
section
namespace Go.Proofs.YtcebcklecmppnaaGreat
open Go.RowKit
section
variable {P : Program} {ops : Array Oper} {Q : Exit → Act → World → Prop} {m i j : Nat} {o1 o2 : List (Nat × Option Bool)}
end
end Go.Proofs.YtcebcklecmppnaaGreat
end
section
namespace Go.Proofs.YtcebcklecmppnaaGreat
open Go.RowKit
end Go.Proofs.YtcebcklecmppnaaGreat
end
