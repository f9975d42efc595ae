/-
  slices.Equal at the types of this seat, walked.
-/
import Derived.Test.YtnmgfnpphglphaaGreatGlass
import Derived.Test.YtnmgfnpphglphaaGreatEq
import Derived.Deep.QuietTactic
import Derived.BigQuiet
set_option maxHeartbeats 16000000
set_option maxRecDepth 100000
set_option linter.unusedVariables false
set_option linter.unusedSimpArgs false
namespace Go.Proofs.YtnmgfnpphglphaaGreat
open Go.RowKit
theorem equal_int (D : Nat → Prop) (s t : Sl Int) (w : World) (hs : s.OK 1 encInt okInt D w) (ht : t.OK 1 encInt okInt D w) :
  Calls Tryz.prog 120 #[.slice s.a s.val.length s.cap, .slice t.a t.val.length t.cap] w fun e w' => e = .returned (.bool (decide (s.val = t.val))) ∧ Below w.heap.size w w' := by
 have hroom := hs.room
 have hroom2 := ht.room
 have HS := Lib.hid hs
 have HT := Lib.hid ht
 clear hs ht
 obtain ⟨a, cap, val⟩ := s
 obtain ⟨a2, cap2, val2⟩ := t
 simp only at hroom hroom2
 by_cases hlen : val.length = val2.length
 case neg =>
  have hb : (((val.length : Int)) != (val2.length : Int)) = true := by simp; omega
  have hne : Hid (val ≠ val2) := Lib.hid fun h => hlen (by rw [h])
  go_enter Tryz.func120, Tryz.ntmps120
  go_wp2
  go_ret
  exact ⟨by simp [hne.out], Below.refl _ _⟩
 have hb : (((val.length : Int)) != (val2.length : Int)) = false := by simp; omega
 have HL := Lib.hid hlen
 clear hlen
 go_enter Tryz.func120, Tryz.ntmps120
 go_wp2
 go_loopw [5, 13] (fun _ i wr => ∃ k : Nat, k ≤ val.length ∧ i = .int .i64 k ∧ Hid (val.take k = val2.take k) ∧ Below w.heap.size w wr) (fun _ i _ => val.length - (intOf i).toNat)
 case atStart => exact ⟨0, Nat.zero_le _, rfl, Lib.hid (by simp), Below.refl _ _⟩
 case round =>
  obtain ⟨k, hk, rfl, hz, hB⟩ := hrel
  by_cases hlt : k < val.length
  ·have hlt2 : k < val2.length := by have := HL.out; omega
   have hi1 : (k : Int) < (val.length : Int) := by omega
   have hi2 : (k : Int) < (val2.length : Int) := by omega
   obtain ⟨x, hx⟩ : ∃ x, val[k]? = some x := ⟨_, List.getElem?_eq_getElem hlt⟩
   obtain ⟨y, hy⟩ : ∃ y, val2[k]? = some y := ⟨_, List.getElem?_eq_getElem hlt2⟩
   obtain ⟨b, o, rfl, hb, _, _, hcell⟩ := HS.out.at hx
   obtain ⟨b2, o2, rfl, hb2, _, _, hcell2⟩ := HT.out.at hy
   have hBB := Ext.of_below (D := fun _ => False) hB
   have hc0 : wr.cell? ⟨b, o + k, none⟩ = some (vi x) := by
    rw [hBB.cell hb id]; exact (by simpa [go_sem] using hcell 0 (by decide))
   have hd0 : wr.cell? ⟨b2, o2 + k, none⟩ = some (vi y) := by
    rw [hBB.cell hb2 id]; exact (by simpa [go_sem] using hcell2 0 (by decide))
   have HX := Lib.hid hx
   have HY := Lib.hid hy
   clear hx hy hcell hcell2 hBB
   by_cases hxy : x = y
   ·subst hxy
    have hxx : (x != x) = false := by simp
    go_wp2
    go_quiet (fail)
    go_wp2
    go_roundw
    case rel => exact ⟨k + 1, by omega, by go_num, Lib.hid (by rw [List.take_add_one, List.take_add_one, hz.out, HX.out, HY.out]), ⟨hB.os, hB.tape, hB.output, hB.size, hB.block⟩⟩
    case measure => simp [intOf]; omega
   ·have hxx : (x != y) = true := by simpa using hxy
    have HN := Lib.hid hxy
    clear hxy
    go_wp2
    go_quiet (fail)
    go_wp2
    go_ret
    refine ⟨?_, ⟨hB.os, hB.tape, hB.output, hB.size, hB.block⟩⟩
    have : val ≠ val2 := by
     rintro rfl
     have := HX.out.symm.trans HY.out
     exact HN.out (by simpa using this)
    simp [this]
  ·go_wp2
   go_ret
   refine ⟨?_, hB⟩
   have hk' : k = val.length := by omega
   have := hz.out
   rw [hk', List.take_length, HL.out, List.take_length] at this
   simp [this]
theorem equal_Gauge (D : Nat → Prop) (s t : Sl Gauge) (w : World) (hs : s.OK 5 encGauge okGauge D w) (ht : t.OK 5 encGauge okGauge D w) :
  Calls Tryz.prog 172 #[.slice s.a s.val.length s.cap, .slice t.a t.val.length t.cap] w fun e w' => e = .returned (.bool (decide (s.val = t.val))) ∧ Below w.heap.size w w' := by
 have hroom := hs.room
 have hroom2 := ht.room
 have HS := Lib.hid hs
 have HT := Lib.hid ht
 clear hs ht
 obtain ⟨a, cap, val⟩ := s
 obtain ⟨a2, cap2, val2⟩ := t
 simp only at hroom hroom2
 by_cases hlen : val.length = val2.length
 case neg =>
  have hb : (((val.length : Int)) != (val2.length : Int)) = true := by simp; omega
  have hne : Hid (val ≠ val2) := Lib.hid fun h => hlen (by rw [h])
  go_enter Tryz.func172, Tryz.ntmps172
  go_wp2
  go_ret
  exact ⟨by simp [hne.out], Below.refl _ _⟩
 have hb : (((val.length : Int)) != (val2.length : Int)) = false := by simp; omega
 have HL := Lib.hid hlen
 clear hlen
 go_enter Tryz.func172, Tryz.ntmps172
 go_wp2
 go_loopw [5, 13] (fun _ i wr => ∃ k : Nat, k ≤ val.length ∧ i = .int .i64 k ∧ Hid (val.take k = val2.take k) ∧ Below w.heap.size w wr) (fun _ i _ => val.length - (intOf i).toNat)
 case atStart => exact ⟨0, Nat.zero_le _, rfl, Lib.hid (by simp), Below.refl _ _⟩
 case round =>
  obtain ⟨k, hk, rfl, hz, hB⟩ := hrel
  by_cases hlt : k < val.length
  ·have hlt2 : k < val2.length := by have := HL.out; omega
   have hi1 : (k : Int) < (val.length : Int) := by omega
   have hi2 : (k : Int) < (val2.length : Int) := by omega
   obtain ⟨x, hx⟩ : ∃ x, val[k]? = some x := ⟨_, List.getElem?_eq_getElem hlt⟩
   obtain ⟨y, hy⟩ : ∃ y, val2[k]? = some y := ⟨_, List.getElem?_eq_getElem hlt2⟩
   obtain ⟨b, o, rfl, hb, _, _, hcell⟩ := HS.out.at hx
   obtain ⟨b2, o2, rfl, hb2, _, _, hcell2⟩ := HT.out.at hy
   have hBB := Ext.of_below (D := fun _ => False) hB
   have hc0 : wr.cell? ⟨b, o + k * 5, none⟩ = some (vi x.edge.lo) := by
    rw [hBB.cell hb id]; exact (by simpa [go_sem] using hcell 0 (by decide))
   have hc1 : wr.cell? ⟨b, o + k * 5 + 1, none⟩ = some (vi x.edge.hi) := by
    rw [hBB.cell hb id]; exact (by simpa [go_sem] using hcell 1 (by decide))
   have hc2 : wr.cell? ⟨b, o + k * 5 + 2, none⟩ = some (vi x.across.lo) := by
    rw [hBB.cell hb id]; exact (by simpa [go_sem] using hcell 2 (by decide))
   have hc3 : wr.cell? ⟨b, o + k * 5 + 3, none⟩ = some (vi x.across.hi) := by
    rw [hBB.cell hb id]; exact (by simpa [go_sem] using hcell 3 (by decide))
   have hc4 : wr.cell? ⟨b, o + k * 5 + 4, none⟩ = some (vi x.bend) := by
    rw [hBB.cell hb id]; exact (by simpa [go_sem] using hcell 4 (by decide))
   have hd0 : wr.cell? ⟨b2, o2 + k * 5, none⟩ = some (vi y.edge.lo) := by
    rw [hBB.cell hb2 id]; exact (by simpa [go_sem] using hcell2 0 (by decide))
   have hd1 : wr.cell? ⟨b2, o2 + k * 5 + 1, none⟩ = some (vi y.edge.hi) := by
    rw [hBB.cell hb2 id]; exact (by simpa [go_sem] using hcell2 1 (by decide))
   have hd2 : wr.cell? ⟨b2, o2 + k * 5 + 2, none⟩ = some (vi y.across.lo) := by
    rw [hBB.cell hb2 id]; exact (by simpa [go_sem] using hcell2 2 (by decide))
   have hd3 : wr.cell? ⟨b2, o2 + k * 5 + 3, none⟩ = some (vi y.across.hi) := by
    rw [hBB.cell hb2 id]; exact (by simpa [go_sem] using hcell2 3 (by decide))
   have hd4 : wr.cell? ⟨b2, o2 + k * 5 + 4, none⟩ = some (vi y.bend) := by
    rw [hBB.cell hb2 id]; exact (by simpa [go_sem] using hcell2 4 (by decide))
   have HX := Lib.hid hx
   have HY := Lib.hid hy
   clear hx hy hcell hcell2 hBB
   by_cases hxy : x = y
   ·subst hxy
    have hxx : eqGauge x x = true := decide_eq_true rfl
    go_wp2
    go_quiet (fail)
    go_wp2
    go_roundw
    case rel => exact ⟨k + 1, by omega, by go_num, Lib.hid (by rw [List.take_add_one, List.take_add_one, hz.out, HX.out, HY.out]), ⟨hB.os, hB.tape, hB.output, hB.size, hB.block⟩⟩
    case measure => simp [intOf]; omega
   ·have hxx : eqGauge x y = false := decide_eq_false hxy
    have HN := Lib.hid hxy
    clear hxy
    go_wp2
    go_quiet (fail)
    go_wp2
    go_ret
    refine ⟨?_, ⟨hB.os, hB.tape, hB.output, hB.size, hB.block⟩⟩
    have : val ≠ val2 := by
     rintro rfl
     have := HX.out.symm.trans HY.out
     exact HN.out (by simpa using this)
    simp [this]
  ·go_wp2
   go_ret
   refine ⟨?_, hB⟩
   have hk' : k = val.length := by omega
   have := hz.out
   rw [hk', List.take_length, HL.out, List.take_length] at this
   simp [this]
theorem equal_Mark (D : Nat → Prop) (s t : Sl Mark) (w : World) (hs : s.OK 3 encMark okMark D w) (ht : t.OK 3 encMark okMark D w) :
  Calls Tryz.prog 173 #[.slice s.a s.val.length s.cap, .slice t.a t.val.length t.cap] w fun e w' => e = .returned (.bool (decide (s.val = t.val))) ∧ Below w.heap.size w w' := by
 have hroom := hs.room
 have hroom2 := ht.room
 have HS := Lib.hid hs
 have HT := Lib.hid ht
 clear hs ht
 obtain ⟨a, cap, val⟩ := s
 obtain ⟨a2, cap2, val2⟩ := t
 simp only at hroom hroom2
 by_cases hlen : val.length = val2.length
 case neg =>
  have hb : (((val.length : Int)) != (val2.length : Int)) = true := by simp; omega
  have hne : Hid (val ≠ val2) := Lib.hid fun h => hlen (by rw [h])
  go_enter Tryz.func173, Tryz.ntmps173
  go_wp2
  go_ret
  exact ⟨by simp [hne.out], Below.refl _ _⟩
 have hb : (((val.length : Int)) != (val2.length : Int)) = false := by simp; omega
 have HL := Lib.hid hlen
 clear hlen
 go_enter Tryz.func173, Tryz.ntmps173
 go_wp2
 go_loopw [5, 13] (fun _ i wr => ∃ k : Nat, k ≤ val.length ∧ i = .int .i64 k ∧ Hid (val.take k = val2.take k) ∧ Below w.heap.size w wr) (fun _ i _ => val.length - (intOf i).toNat)
 case atStart => exact ⟨0, Nat.zero_le _, rfl, Lib.hid (by simp), Below.refl _ _⟩
 case round =>
  obtain ⟨k, hk, rfl, hz, hB⟩ := hrel
  by_cases hlt : k < val.length
  ·have hlt2 : k < val2.length := by have := HL.out; omega
   have hi1 : (k : Int) < (val.length : Int) := by omega
   have hi2 : (k : Int) < (val2.length : Int) := by omega
   obtain ⟨x, hx⟩ : ∃ x, val[k]? = some x := ⟨_, List.getElem?_eq_getElem hlt⟩
   obtain ⟨y, hy⟩ : ∃ y, val2[k]? = some y := ⟨_, List.getElem?_eq_getElem hlt2⟩
   obtain ⟨b, o, rfl, hb, _, _, hcell⟩ := HS.out.at hx
   obtain ⟨b2, o2, rfl, hb2, _, _, hcell2⟩ := HT.out.at hy
   have hBB := Ext.of_below (D := fun _ => False) hB
   have hc0 : wr.cell? ⟨b, o + k * 3, none⟩ = some (vi x.edge) := by
    rw [hBB.cell hb id]; exact (by simpa [go_sem] using hcell 0 (by decide))
   have hc1 : wr.cell? ⟨b, o + k * 3 + 1, none⟩ = some (vi x.at_) := by
    rw [hBB.cell hb id]; exact (by simpa [go_sem] using hcell 1 (by decide))
   have hc2 : wr.cell? ⟨b, o + k * 3 + 2, none⟩ = some (vi x.tone) := by
    rw [hBB.cell hb id]; exact (by simpa [go_sem] using hcell 2 (by decide))
   have hd0 : wr.cell? ⟨b2, o2 + k * 3, none⟩ = some (vi y.edge) := by
    rw [hBB.cell hb2 id]; exact (by simpa [go_sem] using hcell2 0 (by decide))
   have hd1 : wr.cell? ⟨b2, o2 + k * 3 + 1, none⟩ = some (vi y.at_) := by
    rw [hBB.cell hb2 id]; exact (by simpa [go_sem] using hcell2 1 (by decide))
   have hd2 : wr.cell? ⟨b2, o2 + k * 3 + 2, none⟩ = some (vi y.tone) := by
    rw [hBB.cell hb2 id]; exact (by simpa [go_sem] using hcell2 2 (by decide))
   have HX := Lib.hid hx
   have HY := Lib.hid hy
   clear hx hy hcell hcell2 hBB
   by_cases hxy : x = y
   ·subst hxy
    have hxx : eqMark x x = true := decide_eq_true rfl
    go_wp2
    go_quiet (fail)
    go_wp2
    go_roundw
    case rel => exact ⟨k + 1, by omega, by go_num, Lib.hid (by rw [List.take_add_one, List.take_add_one, hz.out, HX.out, HY.out]), ⟨hB.os, hB.tape, hB.output, hB.size, hB.block⟩⟩
    case measure => simp [intOf]; omega
   ·have hxx : eqMark x y = false := decide_eq_false hxy
    have HN := Lib.hid hxy
    clear hxy
    go_wp2
    go_quiet (fail)
    go_wp2
    go_ret
    refine ⟨?_, ⟨hB.os, hB.tape, hB.output, hB.size, hB.block⟩⟩
    have : val ≠ val2 := by
     rintro rfl
     have := HX.out.symm.trans HY.out
     exact HN.out (by simpa using this)
    simp [this]
  ·go_wp2
   go_ret
   refine ⟨?_, hB⟩
   have hk' : k = val.length := by omega
   have := hz.out
   rw [hk', List.take_length, HL.out, List.take_length] at this
   simp [this]
theorem equal_Sight (D : Nat → Prop) (s t : Sl Sight) (w : World) (hs : s.OK 8 encSight okSight D w) (ht : t.OK 8 encSight okSight D w) :
  Calls Tryz.prog 175 #[.slice s.a s.val.length s.cap, .slice t.a t.val.length t.cap] w fun e w' => e = .returned (.bool (decide (s.val = t.val))) ∧ Below w.heap.size w w' := by
 have hroom := hs.room
 have hroom2 := ht.room
 have HS := Lib.hid hs
 have HT := Lib.hid ht
 clear hs ht
 obtain ⟨a, cap, val⟩ := s
 obtain ⟨a2, cap2, val2⟩ := t
 simp only at hroom hroom2
 by_cases hlen : val.length = val2.length
 case neg =>
  have hb : (((val.length : Int)) != (val2.length : Int)) = true := by simp; omega
  have hne : Hid (val ≠ val2) := Lib.hid fun h => hlen (by rw [h])
  go_enter Tryz.func175, Tryz.ntmps175
  go_wp2
  go_ret
  exact ⟨by simp [hne.out], Below.refl _ _⟩
 have hb : (((val.length : Int)) != (val2.length : Int)) = false := by simp; omega
 have HL := Lib.hid hlen
 clear hlen
 go_enter Tryz.func175, Tryz.ntmps175
 go_wp2
 go_loopw [5, 13] (fun _ i wr => ∃ k : Nat, k ≤ val.length ∧ i = .int .i64 k ∧ Hid (val.take k = val2.take k) ∧ Below w.heap.size w wr) (fun _ i _ => val.length - (intOf i).toNat)
 case atStart => exact ⟨0, Nat.zero_le _, rfl, Lib.hid (by simp), Below.refl _ _⟩
 case round =>
  obtain ⟨k, hk, rfl, hz, hB⟩ := hrel
  by_cases hlt : k < val.length
  ·have hlt2 : k < val2.length := by have := HL.out; omega
   have hi1 : (k : Int) < (val.length : Int) := by omega
   have hi2 : (k : Int) < (val2.length : Int) := by omega
   obtain ⟨x, hx⟩ : ∃ x, val[k]? = some x := ⟨_, List.getElem?_eq_getElem hlt⟩
   obtain ⟨y, hy⟩ : ∃ y, val2[k]? = some y := ⟨_, List.getElem?_eq_getElem hlt2⟩
   obtain ⟨b, o, rfl, hb, _, _, hcell⟩ := HS.out.at hx
   obtain ⟨b2, o2, rfl, hb2, _, _, hcell2⟩ := HT.out.at hy
   have hBB := Ext.of_below (D := fun _ => False) hB
   have hc0 : wr.cell? ⟨b, o + k * 8, none⟩ = some (vi x.pane) := by
    rw [hBB.cell hb id]; exact (by simpa [go_sem] using hcell 0 (by decide))
   have hc1 : wr.cell? ⟨b, o + k * 8 + 1, none⟩ = some (vi x.edge) := by
    rw [hBB.cell hb id]; exact (by simpa [go_sem] using hcell 1 (by decide))
   have hc2 : wr.cell? ⟨b, o + k * 8 + 2, none⟩ = some (vi x.grey.lo) := by
    rw [hBB.cell hb id]; exact (by simpa [go_sem] using hcell 2 (by decide))
   have hc3 : wr.cell? ⟨b, o + k * 8 + 3, none⟩ = some (vi x.grey.hi) := by
    rw [hBB.cell hb id]; exact (by simpa [go_sem] using hcell 3 (by decide))
   have hc4 : wr.cell? ⟨b, o + k * 8 + 4, none⟩ = some (vi x.at_.lo) := by
    rw [hBB.cell hb id]; exact (by simpa [go_sem] using hcell 4 (by decide))
   have hc5 : wr.cell? ⟨b, o + k * 8 + 5, none⟩ = some (vi x.at_.hi) := by
    rw [hBB.cell hb id]; exact (by simpa [go_sem] using hcell 5 (by decide))
   have hc6 : wr.cell? ⟨b, o + k * 8 + 6, none⟩ = some (vi x.count.lo) := by
    rw [hBB.cell hb id]; exact (by simpa [go_sem] using hcell 6 (by decide))
   have hc7 : wr.cell? ⟨b, o + k * 8 + 7, none⟩ = some (vi x.count.hi) := by
    rw [hBB.cell hb id]; exact (by simpa [go_sem] using hcell 7 (by decide))
   have hd0 : wr.cell? ⟨b2, o2 + k * 8, none⟩ = some (vi y.pane) := by
    rw [hBB.cell hb2 id]; exact (by simpa [go_sem] using hcell2 0 (by decide))
   have hd1 : wr.cell? ⟨b2, o2 + k * 8 + 1, none⟩ = some (vi y.edge) := by
    rw [hBB.cell hb2 id]; exact (by simpa [go_sem] using hcell2 1 (by decide))
   have hd2 : wr.cell? ⟨b2, o2 + k * 8 + 2, none⟩ = some (vi y.grey.lo) := by
    rw [hBB.cell hb2 id]; exact (by simpa [go_sem] using hcell2 2 (by decide))
   have hd3 : wr.cell? ⟨b2, o2 + k * 8 + 3, none⟩ = some (vi y.grey.hi) := by
    rw [hBB.cell hb2 id]; exact (by simpa [go_sem] using hcell2 3 (by decide))
   have hd4 : wr.cell? ⟨b2, o2 + k * 8 + 4, none⟩ = some (vi y.at_.lo) := by
    rw [hBB.cell hb2 id]; exact (by simpa [go_sem] using hcell2 4 (by decide))
   have hd5 : wr.cell? ⟨b2, o2 + k * 8 + 5, none⟩ = some (vi y.at_.hi) := by
    rw [hBB.cell hb2 id]; exact (by simpa [go_sem] using hcell2 5 (by decide))
   have hd6 : wr.cell? ⟨b2, o2 + k * 8 + 6, none⟩ = some (vi y.count.lo) := by
    rw [hBB.cell hb2 id]; exact (by simpa [go_sem] using hcell2 6 (by decide))
   have hd7 : wr.cell? ⟨b2, o2 + k * 8 + 7, none⟩ = some (vi y.count.hi) := by
    rw [hBB.cell hb2 id]; exact (by simpa [go_sem] using hcell2 7 (by decide))
   have HX := Lib.hid hx
   have HY := Lib.hid hy
   clear hx hy hcell hcell2 hBB
   by_cases hxy : x = y
   ·subst hxy
    have hxx : eqSight x x = true := decide_eq_true rfl
    go_wp2
    go_quiet (fail)
    go_wp2
    go_roundw
    case rel => exact ⟨k + 1, by omega, by go_num, Lib.hid (by rw [List.take_add_one, List.take_add_one, hz.out, HX.out, HY.out]), ⟨hB.os, hB.tape, hB.output, hB.size, hB.block⟩⟩
    case measure => simp [intOf]; omega
   ·have hxx : eqSight x y = false := decide_eq_false hxy
    have HN := Lib.hid hxy
    clear hxy
    go_wp2
    go_quiet (fail)
    go_wp2
    go_ret
    refine ⟨?_, ⟨hB.os, hB.tape, hB.output, hB.size, hB.block⟩⟩
    have : val ≠ val2 := by
     rintro rfl
     have := HX.out.symm.trans HY.out
     exact HN.out (by simpa using this)
    simp [this]
  ·go_wp2
   go_ret
   refine ⟨?_, hB⟩
   have hk' : k = val.length := by omega
   have := hz.out
   rw [hk', List.take_length, HL.out, List.take_length] at this
   simp [this]
end Go.Proofs.YtnmgfnpphglphaaGreat
