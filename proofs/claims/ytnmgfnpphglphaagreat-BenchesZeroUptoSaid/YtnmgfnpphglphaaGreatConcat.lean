/-
  slices.Grow of nil and slices.Concat, at bytes and notes.
-/
import Derived.Test.YtnmgfnpphglphaaGreatShelf
import Derived.Test.YtnmgfnpphglphaaGreatAppR
import Derived.Test.YtnmgfnpphglphaaGreatEff0
import Derived.Test.YtnmgfnpphglphaaGreatBytes0
set_option maxHeartbeats 16000000
set_option maxRecDepth 100000
set_option linter.unusedVariables false
set_option linter.unusedSimpArgs false
namespace Go.Proofs.YtnmgfnpphglphaaGreat
open Go.RowKit
def lens {α : Type} (l : List (Sl α)) : Nat := (l.map fun s => s.val.length).sum
theorem lens_snoc {α : Type} (l : List (Sl α)) (s : Sl α) : lens (l ++ [s]) = lens l + s.val.length := by simp [lens]
theorem lens_take_le {α : Type} (l : List (Sl α)) (k : Nat) : lens (l.take k) ≤ lens l := by
 have h : lens l = lens (l.take k) + lens (l.drop k) := by
  simp only [lens]
  rw [← List.sum_append, ← List.map_append, List.take_append_drop]
 omega
theorem lens_flat {α : Type} (l : List (Sl α)) : (l.flatMap fun s => s.val).length = lens l := by simp [lens, List.length_flatMap]
theorem grow_Byte (n : Nat) (w : World) (hn : n ≤ 1000000) :
  Calls Tryz.prog 87 #[.slice none 0 0, .int .i64 n] w fun e w' => ∃ a c, e = .returned (.slice a 0 c) ∧ OwnL encByte 1 w' w.heap.size 5 (.slice a 0 c) [] ∧ Below w.heap.size w w' := by
 by_cases h0 : n = 0
 ·subst h0
  refine (Any8.slices_Grow_room Tryz.growByte none 0 0 0 w (Nat.le_refl _) (by omega) (by omega) (by omega)).mono ?_
  rintro e w' ⟨rfl, rfl⟩
  exact ⟨none, 0, rfl, OwnL.nil _ _ _ _ _, Below.refl _ _⟩
 ·obtain ⟨_, i, z, hi, hz, hs, hb, hzs⟩ := einfo_Byte.out
  refine (Any8.slices_Grow_grow Tryz.growByte i z hi hz (by rw [hs]; decide) none 0 0 n [] w (Nat.le_refl _) (by omega) (by rw [hb]; omega) (by omega) (by simp) (fun _ => rfl) (by simp)).mono ?_
  rintro e w' ⟨rfl, rfl⟩
  refine ⟨_, _, rfl, ⟨rfl, .inr ⟨w.heap.size, _, _, rfl, Nat.le_refl _, heap_alloc_new w.drew _, Nat.zero_le _, grownCap_le_maxLen w _ 0 _ (by unfold maxLen; omega), ?_, by simp [flat]⟩⟩, ((Below.refl _ w).drew).alloc (Nat.le_refl _) _⟩
  have hge := grownCap_ge w (0 + n) 0 5
  change _ ≤ grownCap w (0 + n) 0 5 at hge
  change _ = grownCap w (0 + n) 0 5 * 1
  have h1 : (Builtin.zeroCells z.cells (0 + n - 0)).size = (0 + n - 0) * 1 := by rw [size_zeroCells, hzs]
  have h2 : (Builtin.zeroCells z.cells (grownCap w (0 + n) 0 5 - (0 + n))).size = (grownCap w (0 + n) 0 5 - (0 + n)) * 1 := by rw [size_zeroCells, hzs]
  simp only [Array.size_append, List.size_toArray, List.length_nil]
  rw [show (Builtin.zeroCells z.cells (0 + n - 0)).size = _ from h1]
  refine (congrArg (fun q => 0 + (0 + n - 0) * 1 + q) h2).trans ?_
  rw [Nat.zero_add, ← Nat.add_mul]; congr 1; omega
theorem concat_Byte (D : Nat → Prop) (b o cap : Nat) (l : List (Sl UInt8)) (w : World) (hb : b < w.heap.size) (hc : ∀ i s, l[i]? = some s → w.cell? ⟨b, o + i, none⟩ = some s.v) (hs : ∀ s ∈ l, s.OK 1 encByte okByte D w) (hn : l.length ≤ 1000000) (htot : lens l ≤ 1000000) :
  Calls Tryz.prog 40 #[.slice (some ⟨b, o, none⟩) l.length cap] w fun e w' => ∃ v, e = .returned v ∧ OwnL encByte 1 w' w.heap.size 5 v (l.flatMap fun s => s.val) ∧ Below w.heap.size w w' := by
 have HC := Lib.hid hc
 have HS := Lib.hid hs
 have HT := Lib.hid htot
 clear hc hs htot
 go_enter Tryz.func40, Tryz.ntmps40
 go_wp2
 go_loopw [3, 5, 11] (fun sz _ i wr => ∃ k : Nat, k ≤ l.length ∧ i = .int .i64 k ∧ Hid (sz = .int .i64 (lens (l.take k) : Nat)) ∧ w = wr) (fun _ _ i _ => l.length - (Go.RowKit.intOf i).toNat)
 case atStart => exact ⟨0, Nat.zero_le _, rfl, Lib.hid rfl, by first | trivial | rfl⟩
 case round =>
  obtain ⟨k, hk, rfl, hsz, rfl⟩ := hrel
  have hsz' := hsz.out
  subst hsz'
  by_cases hlt : k < l.length
  ·obtain ⟨x, hx⟩ : ∃ x, l[k]? = some x := ⟨_, List.getElem?_eq_getElem hlt⟩
   have hi1 : (k : Int) < (l.length : Int) := by omega
   have hcx := HC.out k x hx
   obtain ⟨q, hq⟩ : ∃ q : Nat, lens (l.take k) = q := ⟨_, rfl⟩
   have hsn : lens (l.take (k + 1)) = q + x.val.length := by rw [take_snoc hx, lens_snoc, hq]
   have hqt : q + x.val.length ≤ 1000000 := by rw [← hsn]; exact Nat.le_trans (lens_take_le l _) HT.out
   have HSN := Lib.hid hsn
   rw [hq]
   have hnn : ¬ ((q : Int) + (x.val.length : Int) < 0) := by omega
   have hwr : wrap64 ((q : Int) + (x.val.length : Int)) = (q : Int) + (x.val.length : Int) := by unfold wrap64; omega
   clear hx hsn hq hsz
   go_wp2
   go_roundw
   case rel => exact ⟨k + 1, by omega, by go_num, Lib.hid (by rw [HSN.out]; simp), by first | trivial | rfl⟩
   case measure => simp [Go.RowKit.intOf]; omega
  ·have hk' : k = l.length := by omega
   subst hk'
   obtain ⟨q, hq⟩ : ∃ q : Nat, lens l = q := ⟨_, rfl⟩
   have hqt : q ≤ 1000000 := by rw [← hq]; exact HT.out
   rw [List.take_length, hq]
   have HQ := Lib.hid hq
   have HG := Lib.hid (grow_Byte q w hqt)
   clear hsz hq
   go_wp2_with (go_at_call 87; refine HG.out.mono ?_; rintro e w2 ⟨ag, cg, rfl, ho2, hb2⟩)
   have HO2 := Lib.hid ho2
   clear ho2
   go_loopw [6, 8, 27] (fun r _ i wr => ∃ k : Nat, k ≤ l.length ∧ i = .int .i64 k ∧ Hid (OwnL encByte 1 wr w.heap.size 5 r ((l.take k).flatMap fun s => s.val)) ∧ Below w.heap.size w wr) (fun _ _ i _ => l.length - (Go.RowKit.intOf i).toNat)
   case atStart => exact ⟨0, Nat.zero_le _, rfl, Lib.hid (by simpa using HO2.out), hb2⟩
   case round =>
    obtain ⟨k, hk, rfl, HO, hB⟩ := hrel
    by_cases hlt : k < l.length
    ·obtain ⟨x, hx⟩ : ∃ x, l[k]? = some x := ⟨_, List.getElem?_eq_getElem hlt⟩
     have hi1 : (k : Int) < (l.length : Int) := by omega
     have hcx : wr.cell? ⟨b, o + k, none⟩ = some x.v := (hB.cell (p := ⟨b, o + k, none⟩) hb).trans (HC.out k x hx)
     have HX := Lib.hid hx
     have HXO : Hid (Sl.OK 1 encByte okByte D wr x) := Lib.hid (Sl.OK.ext (w := w) (w' := wr) (fun _ h => h) (HS.out x (List.mem_of_getElem? hx)) (.of_below hB))
     have htt : ((l.take k).flatMap fun s => s.val).length + x.val.length ≤ 1000000 := by rw [lens_flat]; have h1 := lens_snoc (l.take k) x; rw [← take_snoc hx] at h1; have h2 := lens_take_le l (k + 1); have := HT.out; omega
     have hsw := hB.size
     clear hx
     go_wp2_with ((with_reducible refine at_dst 33 ?_); refine wpList_append_slAt rfl _ _ 30 rfl w.heap.size einfo_Byte (fun _ => rfl) (by decide) encByte_one (by decide) _ _ rfl HO.out x rfl HXO.out (by omega) hsw ?_; intro v3 w3 ho3 hg3 hat3)
     go_roundw
     case rel => exact ⟨k + 1, by omega, by go_num, Lib.hid (by rw [take_snoc HX.out, List.flatMap_append]; simpa using ho3), hB.trans (Below.appended HO.out hg3 (Nat.le_refl _) hsw)⟩
     case measure => simp [Go.RowKit.intOf]; omega
    ·have hk' : k = l.length := by omega
     go_wp2
     go_ret
     exact ⟨_, rfl, by have h := HO.out; rw [hk', List.take_length] at h; exact h, hB⟩
end Go.Proofs.YtnmgfnpphglphaaGreat
