/-
  slices.Grow of nil and slices.Concat, at bytes and notes.
  Frame of one byte.
-/
import Derived.Test.YtendmmhfjhgdaaaGreatShelf
import Derived.Test.YtendmmhfjhgdaaaGreatAppR
section
set_option linter.unusedVariables false
set_option linter.unusedSimpArgs false
namespace Go.Proofs.YtendmmhfjhgdaaaGreat
open Go.RowKit

def encSl {α : Type} (s : Sl α) : Array Value := #[s.v]
theorem einfo_Byte : EInfo Tryz.prog 81 5 1 1 := ⟨Tryz.underlying81, by kernel_rfl⟩
theorem encByte_one (x : UInt8) : (encByte x).all (·.oneCell') = true := by simp [encByte, Value.oneCell']
def lens {α : Type} (l : List (Sl α)) : Nat := (l.map fun s => s.val.length).sum
theorem lens_snoc {α : Type} (l : List (Sl α)) (s : Sl α) : lens (l ++ [s]) = lens l + s.val.length := by simp [lens]
theorem lens_take_le {α : Type} (l : List (Sl α)) (k : Nat) : lens (l.take k) ≤ lens l := by
  have h : lens l = lens (l.take k) + lens (l.drop k) := by
    simp only [lens]
    rw [← List.sum_append, ← List.map_append, List.take_append_drop]
  omega
theorem lens_flat {α : Type} (l : List (Sl α)) : (l.flatMap fun s => s.val).length = lens l := by simp [lens, List.length_flatMap]

set_option maxRecDepth 20000 in
theorem grow_Byte (n : Nat) (w : World) (hn : n ≤ 1000000) :
    Calls Tryz.prog 172 #[.slice none 0 0, .int .i64 n] w fun e w' => ∃ a c, e = .returned (.slice a 0 c) ∧ OwnL encByte 1 w' w.heap.size 5 (.slice a 0 c) [] ∧ Below w.heap.size w w' := by
  by_cases h0 : n = 0
  · subst h0
    refine (Any8.slices_Grow_room Tryz.growByte none 0 0 0 w (Nat.le_refl _) (by omega) (by omega) (by omega)).mono ?_
    rintro e w' ⟨rfl, rfl⟩
    exact ⟨none, 0, rfl, OwnL.nil _ _ _ _ _, Below.refl _ _⟩
  · obtain ⟨_, i, z, hi, hz, hs, hb, hzs⟩ := einfo_Byte.out
    refine (Any8.slices_Grow_grow Tryz.growByte i z hi hz (by rw [hs]; decide) none 0 0 n [] w (Nat.le_refl _) (by omega) (by rw [hb]; omega) (by omega) (by simp) (fun _ => rfl) (by simp)).mono ?_
    rintro e w' ⟨rfl, rfl⟩
    refine ⟨_, _, rfl, ⟨rfl, .inr ⟨w.heap.size, _, _, rfl, Nat.le_refl _, heap_alloc_new w.drew _, Nat.zero_le _, grownCap_le_maxLen w _ 0 _ (by unfold maxLen; omega), ?_, by simp [flat]⟩⟩, ((Below.refl _ w).drew).alloc (Nat.le_refl _) _⟩
    have hge := grownCap_ge w (0 + n) 0 5
    change _ ≤ grownCap w (0 + n) 0 5 at hge
    change _ = grownCap w (0 + n) 0 5 * 1
    have h1 : (Builtin.zeroCells z.cells (0 + n - 0)).size = (0 + n - 0) * 1 := by rw [size_zeroCells, hzs]
    have h2 : (Builtin.zeroCells z.cells (grownCap w (0 + n) 0 5 - (0 + n))).size = (grownCap w (0 + n) 0 5 - (0 + n)) * 1 := by rw [size_zeroCells, hzs]
    simp only [Array.size_append, List.size_toArray, List.length_nil]
    rw [show (Builtin.zeroCells z.cells (0 + n - 0)).size = _ from h1]
    refine (congrArg (fun q => 0 + (0 + n - 0) * 1 + q) h2).trans ?_
    rw [Nat.zero_add, ← Nat.add_mul]; congr 1; omega

set_option maxRecDepth 20000 in
set_option maxHeartbeats 2000000 in
theorem concat_Byte (D : Nat → Prop) (b o cap : Nat) (l : List (Sl UInt8)) (w : World) (hb : b < w.heap.size) (hc : ∀ i s, l[i]? = some s → w.cell? ⟨b, o + i, none⟩ = some s.v) (hs : ∀ s ∈ l, s.OK 1 encByte okByte D w) (hn : l.length ≤ 1000000) (htot : lens l ≤ 1000000) :
    Calls Tryz.prog 121 #[.slice (some ⟨b, o, none⟩) l.length cap] w fun e w' => ∃ v, e = .returned v ∧ OwnL encByte 1 w' w.heap.size 5 v (l.flatMap fun s => s.val) ∧ Below w.heap.size w w' := by
  have HC := Lib.hid hc
  have HS := Lib.hid hs
  have HT := Lib.hid htot
  clear hc hs htot
  go_enter Tryz.func121, Tryz.ntmps121
  go_wp2
  go_loopw [3, 5, 11] (fun sz _ i wr => ∃ k : Nat, k ≤ l.length ∧ i = .int .i64 k ∧ Hid (sz = .int .i64 (lens (l.take k) : Nat)) ∧ w = wr) (fun _ _ i _ => l.length - (Go.RowKit.intOf i).toNat)
  case atStart => exact ⟨0, Nat.zero_le _, rfl, Lib.hid rfl, by first | trivial | rfl⟩
  case round =>
    obtain ⟨k, hk, rfl, hsz, rfl⟩ := hrel
    have hsz' := hsz.out
    subst hsz'
    by_cases hlt : k < l.length
    · obtain ⟨x, hx⟩ : ∃ x, l[k]? = some x := ⟨_, List.getElem?_eq_getElem hlt⟩
      have hi1 : (k : Int) < (l.length : Int) := by omega
      have hcx := HC.out k x hx
      obtain ⟨q, hq⟩ : ∃ q : Nat, lens (l.take k) = q := ⟨_, rfl⟩
      have hsn : lens (l.take (k + 1)) = q + x.val.length := by rw [take_snoc hx, lens_snoc, hq]
      have hqt : q + x.val.length ≤ 1000000 := by rw [← hsn]; exact Nat.le_trans (lens_take_le l _) HT.out
      have HSN := Lib.hid hsn
      rw [hq]
      have hnn : ¬ ((q : Int) + (x.val.length : Int) < 0) := by omega
      have hwr : wrap64 ((q : Int) + (x.val.length : Int)) = (q : Int) + (x.val.length : Int) := by unfold wrap64; omega
      clear hx hsn hq hsz
      go_wp2
      go_roundw
      case rel => exact ⟨k + 1, by omega, by go_num, Lib.hid (by rw [HSN.out]; simp), by first | trivial | rfl⟩
      case measure => simp [Go.RowKit.intOf]; omega
    · have hk' : k = l.length := by omega
      subst hk'
      obtain ⟨q, hq⟩ : ∃ q : Nat, lens l = q := ⟨_, rfl⟩
      have hqt : q ≤ 1000000 := by rw [← hq]; exact HT.out
      rw [List.take_length, hq]
      have HQ := Lib.hid hq
      have HG := Lib.hid (grow_Byte q w hqt)
      clear hsz hq
      go_wp2_with (go_at_call 172; refine HG.out.mono ?_; rintro e w2 ⟨ag, cg, rfl, ho2, hb2⟩)
      have HO2 := Lib.hid ho2
      clear ho2
      go_loopw [6, 8, 27] (fun r _ i wr => ∃ k : Nat, k ≤ l.length ∧ i = .int .i64 k ∧ Hid (OwnL encByte 1 wr w.heap.size 5 r ((l.take k).flatMap fun s => s.val)) ∧ Below w.heap.size w wr) (fun _ _ i _ => l.length - (Go.RowKit.intOf i).toNat)
      case atStart => exact ⟨0, Nat.zero_le _, rfl, Lib.hid (by simpa using HO2.out), hb2⟩
      case round =>
        obtain ⟨k, hk, rfl, HO, hB⟩ := hrel
        by_cases hlt : k < l.length
        · obtain ⟨x, hx⟩ : ∃ x, l[k]? = some x := ⟨_, List.getElem?_eq_getElem hlt⟩
          have hi1 : (k : Int) < (l.length : Int) := by omega
          have hcx : wr.cell? ⟨b, o + k, none⟩ = some x.v := (hB.cell (p := ⟨b, o + k, none⟩) hb).trans (HC.out k x hx)
          have HX := Lib.hid hx
          have HXO : Hid (Sl.OK 1 encByte okByte D wr x) := Lib.hid (Sl.OK.ext (w := w) (w' := wr) (fun _ h => h) (HS.out x (List.mem_of_getElem? hx)) (.of_below hB))
          have htt : ((l.take k).flatMap fun s => s.val).length + x.val.length ≤ 1000000 := by rw [lens_flat]; have h1 := lens_snoc (l.take k) x; rw [← take_snoc hx] at h1; have h2 := lens_take_le l (k + 1); have := HT.out; omega
          have hsw := hB.size
          clear hx
          go_wp2_with ((with_reducible refine at_dst 33 ?_); refine wpList_append_slAt rfl _ _ 81 rfl w.heap.size einfo_Byte (fun _ => rfl) (by decide) encByte_one (by decide) _ _ rfl HO.out x rfl HXO.out (by omega) hsw ?_; intro v3 w3 ho3 hg3 hat3)
          go_roundw
          case rel => exact ⟨k + 1, by omega, by go_num, Lib.hid (by rw [take_snoc HX.out, List.flatMap_append]; simpa using ho3), hB.trans (Below.appended HO.out hg3 (Nat.le_refl _) hsw)⟩
          case measure => simp [Go.RowKit.intOf]; omega
        · have hk' : k = l.length := by omega
          go_wp2
          go_ret
          exact ⟨_, rfl, by have h := HO.out; rw [hk', List.take_length] at h; exact h, hB⟩

set_option maxRecDepth 20000 in
theorem grow_Note (n : Nat) (w : World) (hn : n ≤ 1000000) :
    Calls Tryz.prog 103 #[.slice none 0 0, .int .i64 n] w fun e w' => ∃ a c, e = .returned (.slice a 0 c) ∧ OwnL encNote 29 w' w.heap.size 40 (.slice a 0 c) [] ∧ Below w.heap.size w w' := by
  by_cases h0 : n = 0
  · subst h0
    refine (Any8.slices_Grow_room Tryz.growNote none 0 0 0 w (Nat.le_refl _) (by omega) (by omega) (by omega)).mono ?_
    rintro e w' ⟨rfl, rfl⟩
    exact ⟨none, 0, rfl, OwnL.nil _ _ _ _ _, Below.refl _ _⟩
  · obtain ⟨_, i, z, hi, hz, hs, hb, hzs⟩ := einfo_Note.out
    refine (Any8.slices_Grow_grow Tryz.growNote i z hi hz (by rw [hs]; decide) none 0 0 n [] w (Nat.le_refl _) (by omega) (by rw [hb]; omega) (by omega) (by simp) (fun _ => rfl) (by simp)).mono ?_
    rintro e w' ⟨rfl, rfl⟩
    refine ⟨_, _, rfl, ⟨rfl, .inr ⟨w.heap.size, _, _, rfl, Nat.le_refl _, heap_alloc_new w.drew _, Nat.zero_le _, grownCap_le_maxLen w _ 0 _ (by unfold maxLen; omega), ?_, by simp [flat]⟩⟩, ((Below.refl _ w).drew).alloc (Nat.le_refl _) _⟩
    have hge := grownCap_ge w (0 + n) 0 40
    change _ ≤ grownCap w (0 + n) 0 40 at hge
    change _ = grownCap w (0 + n) 0 40 * 29
    have h1 : (Builtin.zeroCells z.cells (0 + n - 0)).size = (0 + n - 0) * 29 := by rw [size_zeroCells, hzs]
    have h2 : (Builtin.zeroCells z.cells (grownCap w (0 + n) 0 40 - (0 + n))).size = (grownCap w (0 + n) 0 40 - (0 + n)) * 29 := by rw [size_zeroCells, hzs]
    simp only [Array.size_append, List.size_toArray, List.length_nil]
    rw [show (Builtin.zeroCells z.cells (0 + n - 0)).size = _ from h1]
    refine (congrArg (fun q => 0 + (0 + n - 0) * 29 + q) h2).trans ?_
    rw [Nat.zero_add, ← Nat.add_mul]; congr 1; omega

set_option maxRecDepth 20000 in
set_option maxHeartbeats 2000000 in
theorem concat_Note (D : Nat → Prop) (b o cap : Nat) (l : List (Sl Note)) (w : World) (hb : b < w.heap.size) (hc : ∀ i s, l[i]? = some s → w.cell? ⟨b, o + i, none⟩ = some s.v) (hs : ∀ s ∈ l, s.OK 29 encNote okNote D w) (hn : l.length ≤ 1000000) (htot : lens l ≤ 1000000) :
    Calls Tryz.prog 53 #[.slice (some ⟨b, o, none⟩) l.length cap] w fun e w' => ∃ v, e = .returned v ∧ OwnL encNote 29 w' w.heap.size 40 v (l.flatMap fun s => s.val) ∧ Below w.heap.size w w' := by
  have HC := Lib.hid hc
  have HS := Lib.hid hs
  have HT := Lib.hid htot
  clear hc hs htot
  go_enter Tryz.func53, Tryz.ntmps53
  go_wp2
  go_loopw [3, 5, 11] (fun sz _ i wr => ∃ k : Nat, k ≤ l.length ∧ i = .int .i64 k ∧ Hid (sz = .int .i64 (lens (l.take k) : Nat)) ∧ w = wr) (fun _ _ i _ => l.length - (Go.RowKit.intOf i).toNat)
  case atStart => exact ⟨0, Nat.zero_le _, rfl, Lib.hid rfl, by first | trivial | rfl⟩
  case round =>
    obtain ⟨k, hk, rfl, hsz, rfl⟩ := hrel
    have hsz' := hsz.out
    subst hsz'
    by_cases hlt : k < l.length
    · obtain ⟨x, hx⟩ : ∃ x, l[k]? = some x := ⟨_, List.getElem?_eq_getElem hlt⟩
      have hi1 : (k : Int) < (l.length : Int) := by omega
      have hcx := HC.out k x hx
      obtain ⟨q, hq⟩ : ∃ q : Nat, lens (l.take k) = q := ⟨_, rfl⟩
      have hsn : lens (l.take (k + 1)) = q + x.val.length := by rw [take_snoc hx, lens_snoc, hq]
      have hqt : q + x.val.length ≤ 1000000 := by rw [← hsn]; exact Nat.le_trans (lens_take_le l _) HT.out
      have HSN := Lib.hid hsn
      rw [hq]
      have hnn : ¬ ((q : Int) + (x.val.length : Int) < 0) := by omega
      have hwr : wrap64 ((q : Int) + (x.val.length : Int)) = (q : Int) + (x.val.length : Int) := by unfold wrap64; omega
      clear hx hsn hq hsz
      go_wp2
      go_roundw
      case rel => exact ⟨k + 1, by omega, by go_num, Lib.hid (by rw [HSN.out]; simp), by first | trivial | rfl⟩
      case measure => simp [Go.RowKit.intOf]; omega
    · have hk' : k = l.length := by omega
      subst hk'
      obtain ⟨q, hq⟩ : ∃ q : Nat, lens l = q := ⟨_, rfl⟩
      have hqt : q ≤ 1000000 := by rw [← hq]; exact HT.out
      rw [List.take_length, hq]
      have HQ := Lib.hid hq
      have HG := Lib.hid (grow_Note q w hqt)
      clear hsz hq
      go_wp2_with (go_at_call 103; refine HG.out.mono ?_; rintro e w2 ⟨ag, cg, rfl, ho2, hb2⟩)
      have HO2 := Lib.hid ho2
      clear ho2
      go_loopw [6, 8, 27] (fun r _ i wr => ∃ k : Nat, k ≤ l.length ∧ i = .int .i64 k ∧ Hid (OwnL encNote 29 wr w.heap.size 40 r ((l.take k).flatMap fun s => s.val)) ∧ Below w.heap.size w wr) (fun _ _ i _ => l.length - (Go.RowKit.intOf i).toNat)
      case atStart => exact ⟨0, Nat.zero_le _, rfl, Lib.hid (by simpa using HO2.out), hb2⟩
      case round =>
        obtain ⟨k, hk, rfl, HO, hB⟩ := hrel
        by_cases hlt : k < l.length
        · obtain ⟨x, hx⟩ : ∃ x, l[k]? = some x := ⟨_, List.getElem?_eq_getElem hlt⟩
          have hi1 : (k : Int) < (l.length : Int) := by omega
          have hcx : wr.cell? ⟨b, o + k, none⟩ = some x.v := (hB.cell (p := ⟨b, o + k, none⟩) hb).trans (HC.out k x hx)
          have HX := Lib.hid hx
          have HXO : Hid (Sl.OK 29 encNote okNote D wr x) := Lib.hid (Sl.OK.ext (w := w) (w' := wr) (fun _ h => okNote.ext h (.of_below hB)) (HS.out x (List.mem_of_getElem? hx)) (.of_below hB))
          have htt : ((l.take k).flatMap fun s => s.val).length + x.val.length ≤ 1000000 := by rw [lens_flat]; have h1 := lens_snoc (l.take k) x; rw [← take_snoc hx] at h1; have h2 := lens_take_le l (k + 1); have := HT.out; omega
          have hsw := hB.size
          clear hx
          go_wp2_with ((with_reducible refine at_dst 33 ?_); refine wpList_append_slAt rfl _ _ 22 rfl w.heap.size einfo_Note (fun _ => rfl) (by decide) encNote_one (by decide) _ _ rfl HO.out x rfl HXO.out (by omega) hsw ?_; intro v3 w3 ho3 hg3 hat3)
          go_roundw
          case rel => exact ⟨k + 1, by omega, by go_num, Lib.hid (by rw [take_snoc HX.out, List.flatMap_append]; simpa using ho3), hB.trans (Below.appended HO.out hg3 (Nat.le_refl _) hsw)⟩
          case measure => simp [Go.RowKit.intOf]; omega
        · have hk' : k = l.length := by omega
          go_wp2
          go_ret
          exact ⟨_, rfl, by have h := HO.out; rw [hk', List.take_length] at h; exact h, hB⟩
end Go.Proofs.YtendmmhfjhgdaaaGreat
end
section
set_option linter.unusedVariables false
set_option linter.unusedSimpArgs false
namespace Go.Proofs.YtendmmhfjhgdaaaGreat
open Go.RowKit

theorem short_1 (w : World) : Calls Tryz.prog 120 #[.int .i64 1] w fun e w' => e = .returned (.slice (some ⟨w.heap.size, 0, none⟩) 2 2) ∧ w' = w.alloc (.cells #[.int .u8 1, .int .u8 0] 5) := by
  go_enter Tryz.func120, Tryz.ntmps120
  go_wp2
  go_ret
  exact ⟨by simp, rfl⟩

theorem short_2 (w : World) : Calls Tryz.prog 120 #[.int .i64 2] w fun e w' => e = .returned (.slice (some ⟨w.heap.size, 0, none⟩) 2 2) ∧ w' = w.alloc (.cells #[.int .u8 2, .int .u8 0] 5) := by
  go_enter Tryz.func120, Tryz.ntmps120
  go_wp2
  go_ret
  exact ⟨by simp, rfl⟩

theorem short_8 (w : World) : Calls Tryz.prog 120 #[.int .i64 8] w fun e w' => e = .returned (.slice (some ⟨w.heap.size, 0, none⟩) 2 2) ∧ w' = w.alloc (.cells #[.int .u8 8, .int .u8 0] 5) := by
  go_enter Tryz.func120, Tryz.ntmps120
  go_wp2
  go_ret
  exact ⟨by simp, rfl⟩

set_option maxHeartbeats 1000000 in
theorem check_10 (w : World) (b o c : Nat) (h0 : w.cell? ⟨b, o, none⟩ = some (.int .u8 1)) (h1 : w.cell? ⟨b, o + 1, none⟩ = some (.int .u8 0)) :
    Calls Tryz.prog 122 #[.slice (some ⟨b, o, none⟩) 2 c] w fun e w' => e = .returned (.int .i64 2) ∧ w' = w := by
  go_enter Tryz.func122, Tryz.ntmps122
  go_wp2
  go_loopw [3, 4, 5, 8] (fun sm _ _ i wr => Hid (w = wr) ∧ ((i = .int .i64 0 ∧ sm = .int .i64 1) ∨ (i = .int .i64 1 ∧ sm = .int .i64 2) ∨ (i = .int .i64 2 ∧ sm = .int .i64 2))) (fun _ _ _ i _ => 2 - (Go.RowKit.intOf i).toNat)
  case atStart => exact ⟨Lib.hid (by first | trivial | rfl), .inl ⟨rfl, rfl⟩⟩
  case round =>
    obtain ⟨hw, ⟨rfl, rfl⟩ | ⟨rfl, rfl⟩ | ⟨rfl, rfl⟩⟩ := hrel
    · have hw' := hw.out
      subst hw'
      go_wp2
      go_roundw
      case rel => exact ⟨Lib.hid (by first | trivial | rfl), .inr (.inl ⟨by go_num, by go_num⟩)⟩
      case measure => simp [Go.RowKit.intOf]
    · have hw' := hw.out
      subst hw'
      go_wp2
      go_roundw
      case rel => exact ⟨Lib.hid (by first | trivial | rfl), .inr (.inr ⟨by go_num, by go_num⟩)⟩
      case measure => simp [Go.RowKit.intOf]
    · have hw' := hw.out
      subst hw'
      go_wp2
      go_ret
      exact ⟨by simp, rfl⟩
set_option maxHeartbeats 1000000 in
theorem check_7 (w : World) (b o c : Nat) (h0 : w.cell? ⟨b, o, none⟩ = some (.int .u8 7)) :
    Calls Tryz.prog 122 #[.slice (some ⟨b, o, none⟩) 1 c] w fun e w' => e = .returned (.int .i64 8) ∧ w' = w := by
  go_enter Tryz.func122, Tryz.ntmps122
  go_wp2
  go_loopw [3, 4, 5, 8] (fun sm _ _ i wr => Hid (w = wr) ∧ ((i = .int .i64 0 ∧ sm = .int .i64 1) ∨ (i = .int .i64 1 ∧ sm = .int .i64 8))) (fun _ _ _ i _ => 1 - (Go.RowKit.intOf i).toNat)
  case atStart => exact ⟨Lib.hid (by first | trivial | rfl), .inl ⟨rfl, rfl⟩⟩
  case round =>
    obtain ⟨hw, ⟨rfl, rfl⟩ | ⟨rfl, rfl⟩⟩ := hrel
    · have hw' := hw.out
      subst hw'
      go_wp2
      go_roundw
      case rel => exact ⟨Lib.hid (by first | trivial | rfl), .inr ⟨by go_num, by go_num⟩⟩
      case measure => simp [Go.RowKit.intOf]
    · have hw' := hw.out
      subst hw'
      go_wp2
      go_ret
      exact ⟨by simp, rfl⟩
theorem okBytes {w : World} {b o c : Nat} (l : List UInt8) (hl : l.length ≤ c) (hr : l.length ≤ 4294967296) (hb : b < w.heap.size) (hc : ∀ i x, l[i]? = some x → w.cell? ⟨b, o + i, none⟩ = some (.int .u8 x.toNat)) : Sl.OK 1 encByte okByte (fun _ => False) w ⟨some ⟨b, o, none⟩, c, l⟩ := by
  refine ⟨hl, hr, by simp, fun p hp _ => ?_, fun _ _ => trivial, fun b' o' ha i x hi j hj => ?_⟩
  · simp at hp; subst hp; exact ⟨rfl, fun h => h, hb⟩
  · simp at ha; obtain ⟨rfl, rfl⟩ := ha
    have : j = 0 := by omega
    subst this
    simpa [encByte] using hc i x hi

set_option maxRecDepth 20000 in
set_option maxHeartbeats 2000000 in
theorem framed_7 (w : World) (b o c : Nat) (hb : b < w.heap.size) (hc : 1 ≤ c) (h0 : w.cell? ⟨b, o, none⟩ = some (.int .u8 7)) :
    Calls Tryz.prog 73 #[.slice (some ⟨b, o, none⟩) 1 c] w fun e w' => ∃ v, e = .returned v ∧ OwnL encByte 1 w' w.heap.size 5 v [1, 0, 2, 0, 7, 8, 0] ∧ Below w.heap.size w w' := by
  obtain ⟨w1, hw1⟩ : ∃ w1, w.alloc (.cells #[.int .u8 1, .int .u8 0] 5) = w1 := ⟨_, rfl⟩
  have hs1 : w1.heap.size = w.heap.size + 1 := by rw [← hw1]; simp
  have hB1 : Below w.heap.size w w1 := by rw [← hw1]; exact (Below.refl _ _).alloc (Nat.le_refl _) _
  have hb1 : BoxAt w1 w.heap.size 5 #[.int .u8 1, .int .u8 0] := by rw [← hw1]; exact BoxAt.new _ _ _
  obtain ⟨w2, hw2⟩ : ∃ w2, w1.alloc (.cells #[.int .u8 2, .int .u8 0] 5) = w2 := ⟨_, rfl⟩
  have hs2 : w2.heap.size = w.heap.size + 2 := by rw [← hw2]; simp [hs1]
  have hB2 : Below w1.heap.size w1 w2 := by rw [← hw2]; exact (Below.refl _ _).alloc (Nat.le_refl _) _
  have hb2 : BoxAt w2 (w.heap.size + 1) 5 #[.int .u8 2, .int .u8 0] := by rw [← hw2, ← hs1]; exact BoxAt.new _ _ _
  obtain ⟨w3, hw3⟩ : ∃ w3, w2.alloc (.cells #[.int .u8 8, .int .u8 0] 5) = w3 := ⟨_, rfl⟩
  have hs3 : w3.heap.size = w.heap.size + 3 := by rw [← hw3]; simp [hs2]
  have hB3 : Below w2.heap.size w2 w3 := by rw [← hw3]; exact (Below.refl _ _).alloc (Nat.le_refl _) _
  have hb3 : BoxAt w3 (w.heap.size + 2) 5 #[.int .u8 8, .int .u8 0] := by rw [← hw3, ← hs2]; exact BoxAt.new _ _ _
  obtain ⟨w4, hw4⟩ : ∃ w4, w3.alloc (.cells #[.slice (some ⟨w.heap.size, 0, none⟩) 2 2, .slice (some ⟨w.heap.size + 1, 0, none⟩) 2 2, .slice (some ⟨b, o, none⟩) 1 c, .slice (some ⟨w.heap.size + 2, 0, none⟩) 2 2] 81) = w4 := ⟨_, rfl⟩
  have hs4 : w4.heap.size = w.heap.size + 4 := by rw [← hw4]; simp [hs3]
  have hB4 : Below w3.heap.size w3 w4 := by rw [← hw4]; exact (Below.refl _ _).alloc (Nat.le_refl _) _
  have hb4 : BoxAt w4 (w.heap.size + 3) 81 #[.slice (some ⟨w.heap.size, 0, none⟩) 2 2, .slice (some ⟨w.heap.size + 1, 0, none⟩) 2 2, .slice (some ⟨b, o, none⟩) 1 c, .slice (some ⟨w.heap.size + 2, 0, none⟩) 2 2] := by rw [← hw4, ← hs3]; exact BoxAt.new _ _ _
  have hBA : Below w.heap.size w w4 := ((hB1.trans (hB2.mono (by omega))).trans (hB3.mono (by omega))).trans (hB4.mono (by omega))
  have hx1 := ((hb1.belowAll hB2).belowAll hB3).belowAll hB4
  have hx2 := (hb2.belowAll hB3).belowAll hB4
  have hx3 := hb3.belowAll hB4
  have hc4 : w4.cell? ⟨b, o, none⟩ = some (.int .u8 7) := (hBA.cell (p := ⟨b, o, none⟩) hb).trans h0
  have H1 : Hid (Calls Tryz.prog 120 #[.int .i64 1] w fun e w' => e = .returned (.slice (some ⟨w.heap.size, 0, none⟩) 2 2) ∧ w1 = w') := Lib.hid ((short_1 w).mono fun e w' h => ⟨h.1, (h.2.trans hw1).symm⟩)
  have H2 : Hid (Calls Tryz.prog 122 #[.slice (some ⟨w.heap.size, 0, none⟩) 2 2] w1 fun e w' => e = .returned (.int .i64 2) ∧ w1 = w') := Lib.hid ((check_10 w1 w.heap.size 0 2 (hb1.cell 0) (hb1.cell 1)).mono fun e w' h => ⟨h.1, h.2.symm⟩)
  have H3 : Hid (Calls Tryz.prog 120 #[.int .i64 2] w1 fun e w' => e = .returned (.slice (some ⟨w.heap.size + 1, 0, none⟩) 2 2) ∧ w2 = w') := Lib.hid ((short_2 w1).mono fun e w' h => ⟨by rw [h.1, hs1], (h.2.trans hw2).symm⟩)
  have H4 : Hid (Calls Tryz.prog 122 #[.slice (some ⟨b, o, none⟩) 1 c] w2 fun e w' => e = .returned (.int .i64 8) ∧ w2 = w') := Lib.hid ((check_7 w2 b o c (((hB1.trans (hB2.mono (by omega))).cell (p := ⟨b, o, none⟩) hb).trans h0)).mono fun e w' h => ⟨h.1, h.2.symm⟩)
  have H5 : Hid (Calls Tryz.prog 120 #[.int .i64 8] w2 fun e w' => e = .returned (.slice (some ⟨w.heap.size + 2, 0, none⟩) 2 2) ∧ w3 = w') := Lib.hid ((short_8 w2).mono fun e w' h => ⟨by rw [h.1, hs2], (h.2.trans hw3).symm⟩)
  have H6 := Lib.hid (concat_Byte (fun _ => False) (w.heap.size + 3) 0 4 [⟨some ⟨w.heap.size, 0, none⟩, 2, [1, 0]⟩, ⟨some ⟨w.heap.size + 1, 0, none⟩, 2, [2, 0]⟩, ⟨some ⟨b, o, none⟩, c, [7]⟩, ⟨some ⟨w.heap.size + 2, 0, none⟩, 2, [8, 0]⟩] w4 (by omega)
    (fun i s hi => by
      rw [hb4.cell]
      rcases i with _ | _ | _ | _ | i
      all_goals simp at hi
      all_goals subst hi
      all_goals rfl)
    (fun s hs => by
      simp only [List.mem_cons, List.not_mem_nil, or_false] at hs
      rcases hs with rfl | rfl | rfl | rfl
      · exact okBytes _ (by simp) (by simp) (by omega) (fun i x hi => by rw [hx1.cell]; rcases i with _ | _ | i <;> simp at hi <;> subst hi <;> rfl)
      · exact okBytes _ (by simp) (by simp) (by omega) (fun i x hi => by rw [hx2.cell]; rcases i with _ | _ | i <;> simp at hi <;> subst hi <;> rfl)
      · exact okBytes _ (by simpa using hc) (by simp) (by have := hBA.size; omega) (fun i x hi => by rcases i with _ | i <;> simp at hi; subst hi; exact hc4)
      · exact okBytes _ (by simp) (by simp) (by omega) (fun i x hi => by rw [hx3.cell]; rcases i with _ | _ | i <;> simp at hi <;> subst hi <;> rfl))
    (by simp) (by simp [lens]))
  have HW4 := Lib.hid hw4
  have hbn : Hid (w4.heap.size = w.heap.size + 4) := Lib.hid hs4
  clear hw1 hw2 hw3 hw4 hb1 hb2 hb3 hb4 hx1 hx2 hx3 hc4 h0 hB1 hB2 hB3 hB4 hs4 hs1 hs2
  go_enter Tryz.func73, Tryz.ntmps73
  go_wp2_with (first
    | (go_at_call 120; (with_reducible refine H1.out.mono ?_); rintro e wq ⟨rfl, hq⟩; subst hq)
    | (go_at_call 122; (with_reducible refine H2.out.mono ?_); rintro e wq ⟨rfl, hq⟩; subst hq)
    | (go_at_call 120; (with_reducible refine H3.out.mono ?_); rintro e wq ⟨rfl, hq⟩; subst hq)
    | (go_at_call 122; (with_reducible refine H4.out.mono ?_); rintro e wq ⟨rfl, hq⟩; subst hq)
    | (go_at_call 120; (with_reducible refine H5.out.mono ?_); rintro e wq ⟨rfl, hq⟩; subst hq)
    | (go_at_call 121; rw [HW4.out]; refine H6.out.mono ?_; rintro e w5 ⟨v, rfl, ho, hb5⟩; have hs4 := hbn.out))
  go_ret
  exact ⟨_, rfl, ho.base_le (by omega), hBA.trans (hb5.mono (by omega))⟩
theorem frame_7 (w : World) (b o c : Nat) (hb : b < w.heap.size) (hc : 1 ≤ c) (h0 : w.cell? ⟨b, o, none⟩ = some (.int .u8 7)) :
    Calls Tryz.prog 38 #[.slice (some ⟨b, o, none⟩) 1 c] w fun e w' => ∃ v, e = .returned (.tuple #[v, .int .i64 0]) ∧ OwnL encByte 1 w' w.heap.size 5 v [1, 0, 2, 0, 7, 8, 0] ∧ Below w.heap.size w w' := by
  have H := Lib.hid (framed_7 w b o c hb hc h0)
  clear hb hc h0
  go_enter Tryz.func38, Tryz.ntmps38
  go_wp2_with (go_at_call 73; refine H.out.mono ?_; rintro e w5 ⟨v, rfl, ho, hb5⟩)
  exact bodyPost_ret (v := .tuple #[v, .int .i64 0]) (by simp [results, Tryz.results38, go_sem]) rfl ⟨_, rfl, ho, hb5⟩
end Go.Proofs.YtendmmhfjhgdaaaGreat
end
