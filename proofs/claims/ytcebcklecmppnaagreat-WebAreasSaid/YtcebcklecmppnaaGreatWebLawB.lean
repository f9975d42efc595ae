/-WebBridges answers true: the law.-/
import Derived.Test.YtcebcklecmppnaaGreatWebLawE
import Derived.Test.YtcebcklecmppnaaGreatWebGs
set_option linter.unusedVariables false
set_option linter.unusedSimpArgs false
set_option maxHeartbeats 16000000
set_option maxRecDepth 100000
namespace Go.Proofs.YtcebcklecmppnaaGreat
open Go.RowKit
theorem Sl.OK.intsAt {w : World} {a : Option Addr} {c : Nat} {L : List Int} (h : Sl.OK 1 zAQ (fun _ _ _ => True) (fun _ => False) w ⟨a,c,L⟩) : ∃ b o,∀ k x,L[k]? = some x → a = some ⟨b,o,none⟩ ∧ ∀ W,Below w.heap.size w W → W.cell? ⟨b,o + k,none⟩ = some (.int .i64 x) := by
 have one : ∀ k x,L[k]? = some x → ∃ b o,a = some ⟨b,o,none⟩ ∧ ∀ W,Below w.heap.size w W → W.cell? ⟨b,o + k,none⟩ = some (.int .i64 x) := fun k x hx => by
  obtain ⟨b,o,e,hb,_,_,hc⟩ := h.at hx;refine ⟨b,o,e,fun W hW => ?_⟩;have := hc 0 (by show 0 < 1;decide);rw [Nat.mul_one,Nat.add_zero] at this;rw [hW.cell (p := ⟨b,o + k,none⟩) hb];exact this
 cases L with
 | nil => exact ⟨0,0,fun k x h => by simp at h⟩
 | cons y r =>
  obtain ⟨b,o,e,_⟩ := one 0 y rfl;refine ⟨b,o,fun k x hx => ?_⟩;obtain ⟨b',o',e',hc⟩ := one k x hx;rw [e] at e';simp only [Option.some.injEq,Addr.mk.injEq,and_true] at e';obtain ⟨rfl,rfl⟩ := e';exact ⟨e,hc⟩
theorem among_det (a : Option Addr) (c : Nat) (L : List Int) (x : Int) (w : World) (h1 : Sl.OK 1 zAQ (fun _ _ _ => True) (fun _ => False) w ⟨a,c,L⟩) (hlen : L.length ≤ 800) :
  Det 19 #[.slice a L.length c, .int .i64 x] (.bool (L.contains x)) w := fun w0 hw0 => by
 obtain ⟨b1,o1,k1⟩ := (h1.up hw0).intsAt;have HK1 := zz k1;have HB0 : Hid (Below w0.heap.size w0 w0) := zz (Below.refl _ _);clear h1 hw0 w k1;obtain ⟨w,rfl⟩ : ∃ w,w = w0 := ⟨_,rfl⟩
 obtain ⟨n,hn⟩ : ∃ n,L.length = n := ⟨_,rfl⟩
 have HN := zz hn;obtain ⟨r,hr⟩ : ∃ r,L.contains x = r := ⟨_,rfl⟩
 have HR := zz hr;simp only [hn,hr] at hlen ⊢;clear hn hr;go_enter Tryz.func19,Tryz.ntmps19;go_wp2
 go_loopw [5] (fun i wr => ∃ k : Nat,k ≤ n ∧ i = .int .i64 k ∧ Hid ((L.take k).contains x = false) ∧ Hid (Below w.heap.size w wr)) (fun i _ => n - (intOf i).toNat)
 case atStart => exact ⟨0,Nat.zero_le _,rfl,zz (by simp),HB0⟩
 case round =>
  obtain ⟨k,hk,rfl,HNO,HW⟩ := hrel
  by_cases hlt : k < n
  ·obtain ⟨y,hy⟩ : ∃ y,L[k]? = some y := ⟨_,List.getElem?_eq_getElem (by rw [HN.out];exact hlt)⟩
   obtain ⟨e1,d1⟩ := HK1.out k y hy;subst e1;have q1 := d1 wr HW.out;have HST : Hid ((L.take (k + 1)).contains x = ((L.take k).contains x || (x == y))) := zz (by rw [List.take_add_one,hy];simp [List.contains_eq_any_beq];rfl);have HIN := zz (List.mem_of_getElem? hy);clear hy d1
   by_cases hyx : y = x
   ·have HRT : Hid (r = true) := zz (by rw [← HR.out,← hyx];simpa using HIN.out);subst hyx;go_wp2;go_ret;rw [HRT.out];exact ⟨rfl,HW.out⟩
   ·have HNX : Hid ((L.take (k + 1)).contains x = false) := zz (by rw [HST.out,HNO.out];simpa using fun e : x = y => hyx e.symm);go_wp2;go_roundw
    case rel => exact ⟨k + 1,by omega,by go_num,HNX,HW⟩
    case measure => simp [intOf];omega
  ·have hkn : k = n := by omega
   subst hkn;go_wp2;go_ret;refine ⟨?_,HW.out⟩;have h := HNO.out;rw [List.take_of_length_le (by rw [HN.out];exact Nat.le_refl _)] at h;rw [← HR.out,h]
   rfl
theorem zAT.one {w : World} {a : Option Addr} {c : Nat} {L : List Side} {N : Nat} (h : OwnL zAa 2 w N 61 (.slice a L.length c) L) (hN : N ≤ w.heap.size) :
  zAT (w.alloc (.cells #[.slice a L.length c] 57)) N (.slice (some ⟨w.heap.size,0,none⟩) 1 1) [L] := by
 refine ⟨[⟨a,c,L⟩],⟨rfl, .inr ⟨w.heap.size,1,#[.slice a L.length c],rfl,hN, ?_,Nat.le_refl _,by decide,rfl,rfl⟩⟩,fun s hs => ?_,rfl⟩
 ·exact (MapKept.heap_alloc w _).1
 ·obtain rfl : s = ⟨a,c,L⟩ := by simpa using hs
  exact h.belowAll ((Below.refl _ _).alloc (Nat.le_refl _) _)
end Go.Proofs.YtcebcklecmppnaaGreat
