/-
  A disk in memory: two lists of bytes of its own; what changes, and what stays, where one acts.
  The program's disk, and the reference's: walked.
  A disk loses power: walked, in the program and in the reference.
-/
import Derived.Test.YtnmgfnpphglphaaGreatTornP
import Derived.Test.YtnmgfnpphglphaaGreatAppR
import Derived.Test.YtnmgfnpphglphaaGreatBox
import Derived.Test.YtnmgfnpphglphaaGreatCopyItem
import Derived.Test.YtnmgfnpphglphaaGreatSub
import Derived.Test.YtnmgfnpphglphaaGreatConcat
set_option maxHeartbeats 16000000
set_option maxRecDepth 100000
section
set_option linter.unusedVariables false
set_option linter.unusedSimpArgs false
namespace Go.Proofs.YtnmgfnpphglphaaGreat
open Go.RowKit
abbrev OwnB (w : World) (B : Nat) (v : Value) (l : List UInt8) : Prop := OwnL encByte 1 w B 5 v l
def mine (b : Nat) (vd vl : Value) (k : Nat) : Prop := k = b ∨ vd.ownBlock = some k ∨ vl.ownBlock = some k
structure DiskAt (T : TypeId) (B : Nat) (w : World) (b : Nat) (vd vl : Value) (D L : List UInt8) : Prop where
 box : BoxAt w b T #[vd, vl]
 dur : OwnB w B vd D
 pen : OwnB w B vl L
 nd : vd.ownBlock ≠ some b
 nl : vl.ownBlock ≠ some b
 apart : ∀ g, vd.ownBlock = some g → vl.ownBlock ≠ some g
 low : B ≤ b
structure Moved (b : Nat) (vd vl : Value) (w w' : World) (vd' vl' : Value) : Prop where
 any : Below 0 w w'
 keep : ∀ k, k < w.heap.size → ¬ mine b vd vl k → w'.heap[k]? = w.heap[k]?
 new : ∀ k, mine b vd' vl' k → mine b vd vl k ∨ w.heap.size ≤ k
section
variable {T : TypeId} {B b : Nat} {w w' w1 w2 : World} {vd vl vd' vl' vd2 vl2 : Value} {D L D' L' : List UInt8}
theorem DiskAt.mine (h : DiskAt T B w b vd vl D L) {k : Nat} (hk : mine b vd vl k) : B ≤ k ∧ k < w.heap.size := by
 rcases hk with rfl | hk | hk
 ·exact ⟨h.low, h.box.lt⟩
 ·exact h.dur.block k hk
 ·exact h.pen.block k hk
theorem DiskAt.kept (h : DiskAt T B w b vd vl D L) (hk : ∀ k, Go.Proofs.YtnmgfnpphglphaaGreat.mine b vd vl k → w'.heap[k]? = w.heap[k]?) : DiskAt T B w' b vd vl D L :=
 ⟨h.box.of_block (hk b (.inl rfl)), h.dur.kept fun g hg => hk g (.inr (.inl hg)), h.pen.kept fun g hg => hk g (.inr (.inr hg)), h.nd, h.nl, h.apart, h.low⟩
theorem DiskAt.belowAll (h : DiskAt T B w b vd vl D L) (hb : Below w.heap.size w w') : DiskAt T B w' b vd vl D L := h.kept fun k hk => hb.block k (h.mine hk).2
theorem Moved.refl (b : Nat) (vd vl : Value) (w : World) : Moved b vd vl w w vd vl := ⟨Below.refl _ _, fun _ _ _ => rfl, fun _ h => .inl h⟩
theorem Moved.of_below (hb : Below w.heap.size w w') : Moved b vd vl w w' vd vl := ⟨hb.mono (Nat.zero_le _), fun k hk _ => hb.block k hk, fun _ h => .inl h⟩
theorem Moved.trans (h : Moved b vd vl w w1 vd' vl') (k : Moved b vd' vl' w1 w2 vd2 vl2) : Moved b vd vl w w2 vd2 vl2 := by
 refine ⟨h.any.trans k.any, fun i hi hn => ?_, fun i hi => ?_⟩
 ·rw [k.keep i (Nat.lt_of_lt_of_le hi h.any.size) fun hm => ?_, h.keep i hi hn]
  rcases h.new i hm with h1 | h1
  ·exact hn h1
  ·omega
 ·rcases k.new i hi with h1 | h1
  ·exact h.new i h1
  ·exact .inr (Nat.le_trans h.any.size h1)
theorem Moved.below (h : Moved b vd vl w w' vd' vl') (hd : DiskAt T B w b vd vl D L) : Below B w w' :=
 ⟨h.any.os, h.any.tape, h.any.output, h.any.size, fun k hk => h.keep k (Nat.lt_of_lt_of_le hk (Nat.le_trans hd.low (Nat.le_of_lt hd.box.lt))) fun hm => by have := (hd.mine hm).1; omega⟩
theorem DiskAt.grewL (h : DiskAt T B w b vd vl D L) (ho : OwnB w1 B vl' L') (hg : w.grownBy w1 vl.ownBlock) (hat : vl'.ownBlock = vl.ownBlock ∨ vl'.ownBlock = some w.heap.size)
  (hb : BoxAt w2 b T #[vd, vl']) (hT : Turn b w1 w2) : DiskAt T B w2 b vd vl' D L' ∧ Moved b vd vl w w2 vd vl' := by
 have hb0 := h.box.lt
 have hnl : vl'.ownBlock ≠ some b := by
  rcases hat with e | e <;> rw [e]
  ·exact h.nl
  ·intro e'; have := Option.some.inj e'; omega
 have hdg : ∀ g, vd.ownBlock = some g → g < w.heap.size ∧ some g ≠ vl.ownBlock := fun g hgd => ⟨(h.dur.block g hgd).2, fun e => h.apart g hgd e.symm⟩
 refine ⟨⟨hb, ?_, ho.turn hT hnl, h.nd, hnl, fun g hgd e => ?_, h.low⟩, ⟨⟨hT.os.trans hg.os, hT.tape.trans hg.tape, hT.output.trans hg.output, by rw [hT.size]; exact hg.size, fun k hk => absurd hk (Nat.not_lt_zero _)⟩, fun k hk hn => ?_, fun k hk => ?_⟩⟩
 ·exact (h.dur.kept fun g hgd => hg.block g (hdg g hgd).1 (hdg g hgd).2).turn hT h.nd
 ·rcases hat with e' | e'
  ·exact (hdg g hgd).2 (e ▸ e')
  ·have := (hdg g hgd).1
   rw [e'] at e; have := Option.some.inj e; omega
 ·rw [hT.block k fun e => hn (.inl e)]
  exact hg.block k hk fun e => hn (.inr (.inr e.symm))
 ·rcases hk with hk | hk | hk
  ·exact .inl (.inl hk)
  ·exact .inl (.inr (.inl hk))
  ·rcases hat with e | e
   ·exact .inl (.inr (.inr (e ▸ hk)))
   ·rw [e] at hk; exact .inr (Nat.le_of_eq (Option.some.inj hk))
theorem DiskAt.grewD (h : DiskAt T B w b vd vl D L) (ho : OwnB w1 B vd' D') (hg : w.grownBy w1 vd.ownBlock) (hat : vd'.ownBlock = vd.ownBlock ∨ vd'.ownBlock = some w.heap.size)
  (hb : BoxAt w2 b T #[vd', vl]) (hT : Turn b w1 w2) : DiskAt T B w2 b vd' vl D' L ∧ Moved b vd vl w w2 vd' vl := by
 have hb0 := h.box.lt
 have hnd : vd'.ownBlock ≠ some b := by
  rcases hat with e | e <;> rw [e]
  ·exact h.nd
  ·intro e'; have := Option.some.inj e'; omega
 have hlg : ∀ g, vl.ownBlock = some g → g < w.heap.size ∧ some g ≠ vd.ownBlock := fun g hgl => ⟨(h.pen.block g hgl).2, fun e => h.apart g e.symm hgl⟩
 refine ⟨⟨hb, ho.turn hT hnd, ?_, hnd, h.nl, fun g hgd e => ?_, h.low⟩, ⟨⟨hT.os.trans hg.os, hT.tape.trans hg.tape, hT.output.trans hg.output, by rw [hT.size]; exact hg.size, fun k hk => absurd hk (Nat.not_lt_zero _)⟩, fun k hk hn => ?_, fun k hk => ?_⟩⟩
 ·exact (h.pen.kept fun g hgl => hg.block g (hlg g hgl).1 (hlg g hgl).2).turn hT h.nl
 ·rcases hat with e' | e'
  ·exact (hlg g e).2 (hgd ▸ e')
  ·have := (hlg g e).1
   rw [e'] at hgd; have := Option.some.inj hgd; omega
 ·rw [hT.block k fun e => hn (.inl e)]
  exact hg.block k hk fun e => hn (.inr (.inl e.symm))
 ·rcases hk with hk | hk | hk
  ·exact .inl (.inl hk)
  ·rcases hat with e | e
   ·exact .inl (.inr (.inl (e ▸ hk)))
   ·rw [e] at hk; exact .inr (Nat.le_of_eq (Option.some.inj hk))
  ·exact .inl (.inr (.inr hk))
theorem DiskAt.set (h : DiskAt T B w b vd vl D L) (hb : BoxAt w2 b T #[vd', vl']) (hT : Turn b w w2) (hd : OwnB w B vd' D') (hl : OwnB w B vl' L')
  (ed : vd'.ownBlock = vd.ownBlock ∨ vd'.ownBlock = none) (el : vl'.ownBlock = vl.ownBlock ∨ vl'.ownBlock = none) : DiskAt T B w2 b vd' vl' D' L' ∧ Moved b vd vl w w2 vd' vl' := by
 have hnd : vd'.ownBlock ≠ some b := fun e' => by rcases ed with e | e <;> rw [e] at e'; exact h.nd e'; cases e'
 have hnl : vl'.ownBlock ≠ some b := fun e' => by rcases el with e | e <;> rw [e] at e'; exact h.nl e'; cases e'
 refine ⟨⟨hb, hd.turn hT hnd, hl.turn hT hnl, hnd, hnl, fun g h1 h2 => ?_, h.low⟩, ⟨⟨hT.os, hT.tape, hT.output, Nat.le_of_eq hT.size.symm, fun k hk => absurd hk (Nat.not_lt_zero _)⟩, fun k hk hn => hT.block k fun e => hn (.inl e), fun k hk => .inl ?_⟩⟩
 ·rcases ed with e | e <;> rw [e] at h1
  ·rcases el with e' | e' <;> rw [e'] at h2
   ·exact h.apart g h1 h2
   ·cases h2
  ·cases h1
 ·rcases hk with hk | hk | hk
  ·exact .inl hk
  ·rcases ed with e | e <;> rw [e] at hk
   ·exact .inr (.inl hk)
   ·cases hk
  ·rcases el with e | e <;> rw [e] at hk
   ·exact .inr (.inr hk)
   ·cases hk
theorem DiskAt.setL (h : DiskAt T B w b vd vl D L) {g : Nat} (hg : vl.ownBlock = some g) (hT : Turn g w w2) (hl : OwnB w2 B vl L') : DiskAt T B w2 b vd vl D L' ∧ Moved b vd vl w w2 vd vl := by
 have hgb : g ≠ b := fun e => h.nl (e ▸ hg)
 refine ⟨⟨h.box.turn hT (Ne.symm hgb), h.dur.turn hT fun e => h.apart g e hg, hl, h.nd, h.nl, h.apart, h.low⟩, ⟨⟨hT.os, hT.tape, hT.output, Nat.le_of_eq hT.size.symm, fun k hk => absurd hk (Nat.not_lt_zero _)⟩, fun k hk hn => hT.block k fun e => hn (.inr (.inr (e ▸ hg))), fun k hk => .inl hk⟩⟩
theorem DiskAt.new (hB : B ≤ w.heap.size) : DiskAt T B (w.alloc (.cells #[.slice none 0 0, .slice none 0 0] T)) w.heap.size (.slice none 0 0) (.slice none 0 0) [] [] :=
 ⟨BoxAt.new _ _ _, OwnL.nil _ _ _ _ _, OwnL.nil _ _ _ _ _, by simp [Value.ownBlock], by simp [Value.ownBlock], fun g hg => by simp [Value.ownBlock] at hg, hB⟩
end
theorem OwnB.take {w : World} {B : Nat} {a : Option Addr} {n c : Nat} {l : List UInt8} (h : OwnB w B (.slice a n c) l) {k : Nat} (hk : k ≤ l.length) : OwnB w B (.slice a k c) (l.take k) := by
 rcases h.2 with ⟨h0, h1⟩ | ⟨g, cap, cur, h0, hb, hh, hn, hm, hc, ht⟩
 ·injection h0 with e1 e2 e3
  subst e1 e3
  obtain rfl : k = 0 := by omega
  rw [List.take_zero]
  exact OwnL.nil _ _ _ _ _
 ·injection h0 with e1 e2 e3
  subst e1 e3
  refine ⟨by rw [flat_length (enc := encByte) (sz := 1) (fun _ => rfl)], .inr ⟨g, c, cur, by rw [List.length_take, Nat.min_eq_left hk], hb, hh, by rw [List.length_take]; omega, hm, hc, ?_⟩⟩
  rw [List.length_take, Nat.min_eq_left hk]
  rw [flat_bytes] at ht ⊢
  rw [List.map_take, ← ht, List.take_take]
  congr 1
  omega
theorem lit_bytes {W : World} {base : Nat} (hb : base ≤ W.heap.size) : OwnB (W.alloc (.cells #[] 5)) base (.slice (some ⟨W.heap.size, 0, none⟩) 0 0) [] :=
 ⟨rfl, .inr ⟨W.heap.size, 0, #[], rfl, hb, heap_alloc_new W _, Nat.le_refl _, Nat.zero_le _, rfl, rfl⟩⟩
theorem OwnB.sl' {w : World} {B : Nat} {v : Value} {l : List UInt8} (h : OwnB w B v l) (hl : l.length ≤ 4294967296) : ∃ a c, v = .slice a l.length c ∧ Sl.OK 1 encByte okByte (fun _ => False) w ⟨a, c, l⟩ := by
 obtain ⟨⟨a, c, val⟩, rfl, rfl, h2, _⟩ := h.sl (fun _ => rfl) okByte (fun _ => False) (fun _ _ => trivial) (fun _ _ h => h) hl
 exact ⟨a, c, rfl, h2⟩
theorem OwnB.any {w : World} {B : Nat} {v : Value} {l : List UInt8} (h : OwnB w B v l) : ∃ a n c, v = .slice a n c := by
 obtain ⟨a, c, rfl⟩ := h.shape
 exact ⟨_, _, _, rfl⟩
theorem run_tkB (w : World) (a : Option Addr) (n c k : Nat) (hk : k ≤ n) (hc : n ≤ c) : (Instr.sliceAt 30 (.slice a n c) none (some (.int .i64 k)) none).run Tryz.prog w = .ok (.slice a k c) w := by
 rw [run_sliceAt_slice _ _ _ _ _ _ und_bytes, run_slice_h _ _ _ _ _ und_bytes .i64 (k : Int) (by omega) (by omega), size_byte]
 simp only [Result.andThen, sliced, Int.toNat_natCast, Nat.sub_zero, add_zero_addr, ite_self]
theorem tdiv_8 {x : Int} (h : 0 ≤ x) : x.tdiv 8 = ((x.toNat / 8 : Nat) : Int) := by
 obtain ⟨f, rfl⟩ := Int.eq_ofNat_of_zero_le h
 rfl
theorem tmod_8 {x : Int} (h : 0 ≤ x) : x.tmod 8 = ((x.toNat % 8 : Nat) : Int) := by
 obtain ⟨f, rfl⟩ := Int.eq_ofNat_of_zero_le h
 rfl
def flipAt (L : List UInt8) (flip : Int) : List UInt8 := if flip < 0 then L else L.modify (flip.toNat / 8) (flipB (flip.toNat % 8))
def badCrash (L : List UInt8) (keep flip : Int) : Bool := decide (keep < 0 ∨ (L.length : Int) < keep ∨ flip < -1 ∨ 8 * keep ≤ flip)
theorem flipAt_length (L : List UInt8) (flip : Int) : (flipAt L flip).length = L.length := by unfold flipAt; split <;> simp
end Go.Proofs.YtnmgfnpphglphaaGreat
end
section
set_option linter.unusedVariables false
set_option linter.unusedSimpArgs false
namespace Go.Proofs.YtnmgfnpphglphaaGreat
open Go.RowKit
theorem okB {D : Nat → Prop} {w w' : World} {s : Sl UInt8} (h : Sl.OK 1 encByte okByte D w s) (hb : Below w.heap.size w w') : Sl.OK 1 encByte okByte D w' s := Sl.OK.ext (w := w) (w' := w') (fun _ h => h) h (.of_below hb)
theorem DiskAt.freshL {T : TypeId} {B b : Nat} {w w1 w2 : World} {vd vl vl' : Value} {D L L' : List UInt8} (h : DiskAt T B w b vd vl D L) (hb1 : Below w.heap.size w w1) (ho : OwnB w1 w.heap.size vl' L')
  (hb : BoxAt w2 b T #[vd, vl']) (hT : Turn b w1 w2) : DiskAt T B w2 b vd vl' D L' ∧ Moved b vd vl w w2 vd vl' := by
 have hb0 := h.box.lt
 have hlo : ∀ g, vl'.ownBlock = some g → w.heap.size ≤ g := fun g hg => (ho.block g hg).1
 have hnl : vl'.ownBlock ≠ some b := fun e => by have := hlo b e; omega
 refine ⟨⟨hb, (h.dur.belowAll hb1).turn hT h.nd, (ho.base_le (Nat.le_trans h.low (Nat.le_of_lt hb0))).turn hT hnl, h.nd, hnl, fun g h1 h2 => ?_, h.low⟩, ⟨(hb1.mono (Nat.zero_le _)).trans (hT.below (Nat.zero_le _)), fun k hk hn => ?_, fun k hk => ?_⟩⟩
 ·have := hlo g h2; have := (h.dur.block g h1).2; omega
 ·rw [hT.block k fun e => hn (.inl e), hb1.block k hk]
 ·rcases hk with hk | hk | hk
  ·exact .inl (.inl hk)
  ·exact .inl (.inr (.inl hk))
  ·exact .inr (hlo k hk)
theorem DiskAt.freshD {T : TypeId} {B b : Nat} {w w1 w2 : World} {vd vl vd' : Value} {D L D' : List UInt8} (h : DiskAt T B w b vd vl D L) (hb1 : Below w.heap.size w w1) (ho : OwnB w1 w.heap.size vd' D')
  (hb : BoxAt w2 b T #[vd', vl]) (hT : Turn b w1 w2) : DiskAt T B w2 b vd' vl D' L ∧ Moved b vd vl w w2 vd' vl := by
 have hb0 := h.box.lt
 have hlo : ∀ g, vd'.ownBlock = some g → w.heap.size ≤ g := fun g hg => (ho.block g hg).1
 have hnd : vd'.ownBlock ≠ some b := fun e => by have := hlo b e; omega
 refine ⟨⟨hb, (ho.base_le (Nat.le_trans h.low (Nat.le_of_lt hb0))).turn hT hnd, (h.pen.belowAll hb1).turn hT h.nl, hnd, h.nl, fun g h1 h2 => ?_, h.low⟩, ⟨(hb1.mono (Nat.zero_le _)).trans (hT.below (Nat.zero_le _)), fun k hk hn => ?_, fun k hk => ?_⟩⟩
 ·have := hlo g h1; have := (h.pen.block g h2).2; omega
 ·rw [hT.block k fun e => hn (.inl e), hb1.block k hk]
 ·rcases hk with hk | hk | hk
  ·exact .inl (.inl hk)
  ·exact .inr (hlo k hk)
  ·exact .inl (.inr (.inr hk))
theorem one_slB (a : Option Addr) (n c : Nat) : (Value.slice a n c).cells.all (·.oneCell') = true := by simp [Value.cells, Value.oneCell']
theorem newDisk_prog (w : World) : Calls Tryz.prog 8 #[] w fun e w' => e = .returned (.pointer (some ⟨w.heap.size, 0, none⟩)) ∧ w.alloc (.cells #[.slice none 0 0, .slice none 0 0] 61) = w' := by
 go_enter Tryz.func8, Tryz.ntmps8
 go_wp2
 go_ret
 exact ⟨rfl, rfl⟩
theorem newDisk_ref (w : World) : Calls Tryz.prog 9 #[] w fun e w' => e = .returned (.pointer (some ⟨w.heap.size, 0, none⟩)) ∧ w.alloc (.cells #[.slice none 0 0, .slice none 0 0] 107) = w' := by
 go_enter Tryz.func9, Tryz.ntmps9
 go_wp2
 go_ret
 exact ⟨rfl, rfl⟩
theorem pending_prog {B b : Nat} {w : World} {vd vl : Value} {D L : List UInt8} (h : DiskAt 61 B w b vd vl D L) :
  Calls Tryz.prog 16 #[.pointer (some ⟨b, 0, none⟩)] w fun e w' => e = .returned (.int .i64 L.length) ∧ w = w' := by
 obtain ⟨a, c, rfl⟩ := h.pen.shape
 have hc : w.cell? ⟨b, 1, none⟩ = some (.slice a L.length c) := (h.box.cell 1).trans rfl
 clear h
 go_enter Tryz.func16, Tryz.ntmps16
 go_wp2
 go_ret
 exact ⟨rfl, rfl⟩
theorem pending_ref {B b : Nat} {w : World} {vd vl : Value} {D L : List UInt8} (h : DiskAt 107 B w b vd vl D L) :
  Calls Tryz.prog 17 #[.pointer (some ⟨b, 0, none⟩)] w fun e w' => e = .returned (.int .i64 L.length) ∧ w = w' := by
 obtain ⟨a, c, rfl⟩ := h.pen.shape
 have hc : w.cell? ⟨b, 1, none⟩ = some (.slice a L.length c) := (h.box.cell 1).trans rfl
 clear h
 go_enter Tryz.func17, Tryz.ntmps17
 go_wp2
 go_ret
 exact ⟨rfl, rfl⟩
theorem write_prog {B b : Nat} {w : World} {vd vl : Value} {D L : List UInt8} (h : DiskAt 61 B w b vd vl D L) (x : Sl UInt8) (hx : x.OK 1 encByte okByte (fun _ => False) w) (hlen : D.length + L.length + x.val.length ≤ 4194304) :
  Calls Tryz.prog 10 #[.pointer (some ⟨b, 0, none⟩), .slice x.a x.val.length x.cap] w fun e w' => e = .returned (.int .i64 0) ∧ ∃ vl', DiskAt 61 B w' b vd vl' D (L ++ x.val) ∧ Moved b vd vl w w' vd vl' := by
 obtain ⟨ad, cd, rfl⟩ := h.dur.shape
 obtain ⟨al, cl, rfl, hol⟩ := h.pen.sl' (by omega)
 obtain ⟨nD, hnD⟩ : ∃ n, D.length = n := ⟨_, rfl⟩
 obtain ⟨nL, hnL⟩ : ∃ n, L.length = n := ⟨_, rfl⟩
 obtain ⟨nx, hnx⟩ : ∃ n, x.val.length = n := ⟨_, rfl⟩
 have hc0 : w.cell? ⟨b, 0, none⟩ = some (.slice ad nD cd) := (h.box.cell 0).trans (by rw [← hnD]; rfl)
 have hc1 : w.cell? ⟨b, 1, none⟩ = some (.slice al nL cl) := (h.box.cell 1).trans (by rw [← hnL]; rfl)
 have H := Lib.hid h
 have HX := Lib.hid hx
 have HO := Lib.hid hol
 have HD := Lib.hid hnD
 have HL := Lib.hid hnL
 have HN := Lib.hid hnx
 rw [hnD, hnL, hnx] at hlen
 rw [hnx]
 have k1 : IntKind.i64.wrap ((nD : Int) + nL) = (nD : Int) + nL := IntWalk.i64_in _ (by omega)
 have k2 : IntKind.i64.wrap ((nD : Int) + nL + nx) = (nD : Int) + nL + nx := IntWalk.i64_in _ (by omega)
 have k3 : decide (4194304 < (nD : Int) + nL + nx) = false := decide_eq_false (by omega)
 clear h hx hol hnD hnL hnx
 go_enter Tryz.func10, Tryz.ntmps10
 go_wp2
 go_quiet (fail)
 have hdn : ∀ n, Below w.heap.size w (w.drewN n) := fun n => ⟨rfl, rfl, rfl, Nat.le_refl _, fun _ _ => rfl⟩
 have H2 : Hid (DiskAt 61 B (w.drewN nq) b (.slice ad nD cd) (.slice al nL cl) D L) := Lib.hid (by rw [← HD.out, ← HL.out]; exact H.out.belowAll (hdn nq))
 have HX2 : Hid (x.OK 1 encByte okByte (fun _ => False) (w.drewN nq)) := Lib.hid (okB HX.out (hdn nq))
 clear k1 k2 k3
 go_wp2_with (first
  | ((with_reducible refine at_dst 28 ?_); refine wpList_append_slAt rfl _ _ 30 rfl B einfo_Byte (fun _ => rfl) (by decide) encByte_one (by decide) (.slice al nL cl) L rfl H2.out.pen x (by show _ = Value.slice _ _ _; rw [HN.out]; rfl) HX2.out (by rw [HL.out, HN.out]; omega) (Nat.le_trans H2.out.low (Nat.le_of_lt H2.out.box.lt)) ?_; intro v1 w1 ho1 hg1 hat1; obtain ⟨a1, n1, c1, rfl⟩ := OwnB.any ho1; have HO1 := Lib.hid ho1; have HG1 := Lib.hid hg1; have HA1 := Lib.hid hat1; have hbx := (H2.out.box.of_block (hg1.block b H2.out.box.lt (fun e => H2.out.nl e.symm))); clear ho1 hg1 hat1)
  | ((with_reducible refine at_store ?_); refine wpList_store_box hbx rfl _ _ _ rfl rfl (.slice a1 n1 c1) rfl (by kernel_rfl) rfl (one_slB _ _ _) ?_; intro w2 hb2 hT2))
 go_ret
 have h3 := H2.out.grewL HO1.out HG1.out HA1.out (hb2.eqv (by simp [splice, Value.cells])) hT2
 rw [← HD.out, ← HL.out] at h3
 exact ⟨by simp, _, h3.1, (Moved.of_below (hdn nq)).trans h3.2⟩
theorem write_ref {B b : Nat} {w : World} {vd vl : Value} {D L : List UInt8} (h : DiskAt 107 B w b vd vl D L) (x : Sl UInt8) (hx : x.OK 1 encByte okByte (fun _ => False) w) (hlen : D.length + L.length + x.val.length ≤ 4194304) :
  Calls Tryz.prog 11 #[.pointer (some ⟨b, 0, none⟩), .slice x.a x.val.length x.cap] w fun e w' => e = .returned (.int .i64 0) ∧ ∃ vl', DiskAt 107 B w' b vd vl' D (L ++ x.val) ∧ Moved b vd vl w w' vd vl' := by
 obtain ⟨ad, cd, rfl⟩ := h.dur.shape
 obtain ⟨al, cl, rfl, hol⟩ := h.pen.sl' (by omega)
 obtain ⟨nD, hnD⟩ : ∃ n, D.length = n := ⟨_, rfl⟩
 obtain ⟨nL, hnL⟩ : ∃ n, L.length = n := ⟨_, rfl⟩
 obtain ⟨nx, hnx⟩ : ∃ n, x.val.length = n := ⟨_, rfl⟩
 have hc0 : w.cell? ⟨b, 0, none⟩ = some (.slice ad nD cd) := (h.box.cell 0).trans (by rw [← hnD]; rfl)
 have hc1 : w.cell? ⟨b, 1, none⟩ = some (.slice al nL cl) := (h.box.cell 1).trans (by rw [← hnL]; rfl)
 have H := Lib.hid h
 have HX := Lib.hid hx
 have HO := Lib.hid hol
 have HD := Lib.hid hnD
 have HL := Lib.hid hnL
 have HN := Lib.hid hnx
 rw [hnD, hnL, hnx] at hlen
 rw [hnx]
 have k1 : IntKind.i64.wrap ((nD : Int) + nL) = (nD : Int) + nL := IntWalk.i64_in _ (by omega)
 have k2 : IntKind.i64.wrap ((nD : Int) + nL + nx) = (nD : Int) + nL + nx := IntWalk.i64_in _ (by omega)
 have k3 : decide (4194304 < (nD : Int) + nL + nx) = false := decide_eq_false (by omega)
 clear h hx hol hnD hnL hnx
 go_enter Tryz.func11, Tryz.ntmps11
 go_wp2
 go_quiet (fail)
 have hdn : ∀ n, Below w.heap.size w (w.drewN n) := fun n => ⟨rfl, rfl, rfl, Nat.le_refl _, fun _ _ => rfl⟩
 have H2 : Hid (DiskAt 107 B (w.drewN nq) b (.slice ad nD cd) (.slice al nL cl) D L) := Lib.hid (by rw [← HD.out, ← HL.out]; exact H.out.belowAll (hdn nq))
 have HX2 : Hid (∀ W, Below w.heap.size (w.drewN nq) W → x.OK 1 encByte okByte (fun _ => False) W) := Lib.hid fun W hW => okB HX.out ((hdn nq).trans hW)
 have HO2 : Hid (∀ W, Below w.heap.size (w.drewN nq) W → Sl.OK 1 encByte okByte (fun _ => False) W ⟨al, cl, L⟩) := Lib.hid fun W hW => okB HO.out ((hdn nq).trans hW)
 have hbl := H.out.box.lt
 have hba : Below w.heap.size (w.drewN nq) ((w.drewN nq).alloc (.cells #[] 5)) := (Below.refl w.heap.size (w.drewN nq)).alloc (Nat.le_refl _) _
 have hcl : ((w.drewN nq).alloc (.cells #[] 5)).cell? ⟨b, 1, none⟩ = some (.slice al nL cl) := (((H2.out.box.alloc _).cell 1)).trans rfl
 clear k1 k2 k3
 go_wp2_with (first
  | ((with_reducible refine at_dst 28 ?_); refine wpList_append_slAt rfl _ _ 30 rfl w.heap.size einfo_Byte (fun _ => rfl) (by decide) encByte_one (by decide) _ [] rfl (lit_bytes (W := w.drewN nq) (Nat.le_refl _)) ⟨al, cl, L⟩ (by show _ = Value.slice _ _ _; rw [HL.out]; rfl) (HO2.out _ hba) (by simp only [HL.out, List.length_nil]; omega) (by simp) ?_; intro v1 w1 ho1 hg1 hat1; rw [List.nil_append] at ho1; have hB1 := Lib.hid (hba.trans (Below.appended (lit_bytes (W := w.drewN nq) (Nat.le_refl _)) hg1 (Nat.le_refl _) (by simp))); have HO1 := Lib.hid ho1; clear ho1 hg1 hat1)
  | ((with_reducible refine at_dst 30 ?_); refine wpList_append_slAt rfl _ _ 30 rfl w.heap.size einfo_Byte (fun _ => rfl) (by decide) encByte_one (by decide) v1 L rfl HO1.out x (by show _ = Value.slice _ _ _; rw [HN.out]; rfl) (HX2.out _ hB1.out) (by rw [HL.out, HN.out]; omega) hB1.out.size ?_; intro v2 w2 ho2 hg2 hat2; obtain ⟨a2, n2, c2, rfl⟩ := OwnB.any ho2; have hB2 := Lib.hid (hB1.out.trans (Below.appended HO1.out hg2 (Nat.le_refl _) hB1.out.size)); have HO3 := Lib.hid ho2; have hbx := H2.out.box.below hB2.out H2.out.box.lt; clear ho2 hg2 hat2)
  | ((with_reducible refine at_store ?_); refine wpList_store_box hbx rfl _ _ _ rfl rfl (.slice a2 n2 c2) rfl (by kernel_rfl) rfl (one_slB _ _ _) ?_; intro w3 hb3 hT3))
 go_ret
 have h3 := H2.out.freshL hB2.out HO3.out (hb3.eqv (by simp [splice, Value.cells])) hT3
 rw [← HD.out, ← HL.out] at h3
 exact ⟨by simp, _, h3.1, (Moved.of_below (hdn nq)).trans h3.2⟩
theorem sync_prog {B b : Nat} {w : World} {vd vl : Value} {D L : List UInt8} (h : DiskAt 61 B w b vd vl D L) (hlen : D.length + L.length ≤ 4194304) :
  Calls Tryz.prog 12 #[.pointer (some ⟨b, 0, none⟩)] w fun e w' => e = .returned (.tuple #[]) ∧ ∃ vd', DiskAt 61 B w' b vd' (.slice none 0 0) (D ++ L) [] ∧ Moved b vd vl w w' vd' (.slice none 0 0) := by
 obtain ⟨ad, cd, rfl, hod⟩ := h.dur.sl' (by omega)
 obtain ⟨al, cl, rfl, hol⟩ := h.pen.sl' (by omega)
 obtain ⟨nD, hnD⟩ : ∃ n, D.length = n := ⟨_, rfl⟩
 obtain ⟨nL, hnL⟩ : ∃ n, L.length = n := ⟨_, rfl⟩
 have hdn : Below w.heap.size w w.drew := ⟨rfl, rfl, rfl, Nat.le_refl _, fun _ _ => rfl⟩
 have H := Lib.hid h
 have HE := Lib.hid hod
 have HO := Lib.hid hol
 have HD := Lib.hid hnD
 have HL := Lib.hid hnL
 have H2 : Hid (DiskAt 61 B w.drew b (.slice ad nD cd) (.slice al nL cl) D L) := Lib.hid (by rw [← HD.out, ← HL.out]; exact H.out.belowAll hdn)
 have HO2 : Hid (∀ W, Below w.heap.size w.drew W → Sl.OK 1 encByte okByte (fun _ => False) W ⟨al, cl, L⟩) := Lib.hid fun W hW => okB HO.out (hdn.trans hW)
 have HE2 : Hid (∀ W, Below w.heap.size w.drew W → Sl.OK 1 encByte okByte (fun _ => False) W ⟨ad, cd, D⟩) := Lib.hid fun W hW => okB HE.out (hdn.trans hW)
 have hlo := Nat.le_trans H.out.low (Nat.le_of_lt H.out.box.lt)
 rw [hnD, hnL] at hlen
 rw [hnD, hnL]
 clear h hol hod hnD hnL
 go_enter Tryz.func12, Tryz.ntmps12
 go_wp2
 refine wp_region_mark 9 [(0, none), (1, none), (2, none), (3, none), (5, none), (6, none), (7, none), (4, some true), (8, some true), (9, some false), (10, none), (11, none), (12, some false)] rfl (by kernel_rfl) (by kernel_rfl) (fun d _ _ _ _ h => by cases d <;> exact h) ?_
 iterate 7 (refine wpC_pure rfl rfl (fun W => by go_simp; with_reducible rfl) ?_; simp only [pTs, pTn, pTz, pTc])
 refine wpC_fix (v := .slice ad nD cd) rfl rfl (fun W hW => by have e : W.cell? ⟨b, 0, none⟩ = some (.slice ad nD cd) := ((H2.out.box.belowAll hW).cell 0).trans rfl; go_simp) ?_; simp only [pTs, pTn, pTz, pTc]
 refine wpC_fix (v := .slice al nL cl) rfl rfl (fun W hW => by have e : W.cell? ⟨b, 1, none⟩ = some (.slice al nL cl) := ((H2.out.box.belowAll hW).cell 1).trans rfl; go_simp) ?_; simp only [pTs, pTn, pTz, pTc]
 refine wpC_mark rfl rfl (fun K hK => ?_)
 refine wp_append_slAt _ _ 30 rfl B einfo_Byte (fun _ => rfl) (by decide) encByte_one (by decide) (.slice ad nD cd) D rfl H2.out.dur ⟨al, cl, L⟩ (by show _ = Value.slice _ _ _; rw [HL.out]; rfl) (HO2.out _ (Below.refl _ _)) (by rw [HD.out, HL.out]; omega) hlo ?_
 intro v1 w1 ho1 hg1 hat1
 obtain ⟨a1, n1, c1, rfl⟩ := OwnB.any ho1
 have hbx := H2.out.box.of_block (hg1.block b H2.out.box.lt (fun e => H2.out.nd e.symm))
 refine hK _ _ ?_
 clear hK K
 try simp only [pTs, pTn, pTz, pTc]
 iterate 2 (refine wpC_pure rfl rfl (fun W => by go_simp; with_reducible rfl) ?_; simp only [pTs, pTn, pTz, pTc])
 refine wpC_past rfl rfl (fun K hK => ?_)
 refine wp_store_box hbx _ _ _ rfl rfl (.slice a1 n1 c1) rfl (by kernel_rfl) rfl (one_slB _ _ _) ?_
 intro w4 hb4 hT4
 refine hK _ _ ?_
 clear hK K
 try simp only [pTs, pTn, pTz, pTc]
 simp only [wpC]
 have h3 := H2.out.grewD ho1 hg1 hat1 (hb4.eqv (by simp [splice, Value.cells])) hT4
 have hb2 := h3.1.box
 go_wp2_with ((with_reducible refine at_store ?_); refine wpList_store_box hb2 rfl _ _ _ rfl rfl (.slice none 0 0) rfl (by kernel_rfl) rfl (one_slB _ _ _) ?_; intro w5 hb5 hT5)
 have h4 := h3.1.set (hb5.eqv (by simp [splice, Value.cells])) hT5 h3.1.dur (OwnL.nil _ _ _ _ _) (.inl rfl) (.inr rfl)
 go_end0
 exact ⟨rfl, _, h4.1, ((Moved.of_below hdn).trans h3.2).trans h4.2⟩
theorem sync_ref {B b : Nat} {w : World} {vd vl : Value} {D L : List UInt8} (h : DiskAt 107 B w b vd vl D L) (hlen : D.length + L.length ≤ 4194304) :
  Calls Tryz.prog 13 #[.pointer (some ⟨b, 0, none⟩)] w fun e w' => e = .returned (.tuple #[]) ∧ ∃ vd', DiskAt 107 B w' b vd' (.slice none 0 0) (D ++ L) [] ∧ Moved b vd vl w w' vd' (.slice none 0 0) := by
 obtain ⟨ad, cd, rfl, hod⟩ := h.dur.sl' (by omega)
 obtain ⟨al, cl, rfl, hol⟩ := h.pen.sl' (by omega)
 obtain ⟨nD, hnD⟩ : ∃ n, D.length = n := ⟨_, rfl⟩
 obtain ⟨nL, hnL⟩ : ∃ n, L.length = n := ⟨_, rfl⟩
 have hdn : Below w.heap.size w w.drew := ⟨rfl, rfl, rfl, Nat.le_refl _, fun _ _ => rfl⟩
 have H := Lib.hid h
 have HE := Lib.hid hod
 have HO := Lib.hid hol
 have HD := Lib.hid hnD
 have HL := Lib.hid hnL
 have H2 : Hid (DiskAt 107 B w.drew b (.slice ad nD cd) (.slice al nL cl) D L) := Lib.hid (by rw [← HD.out, ← HL.out]; exact H.out.belowAll hdn)
 have HO2 : Hid (∀ W, Below w.heap.size w.drew W → Sl.OK 1 encByte okByte (fun _ => False) W ⟨al, cl, L⟩) := Lib.hid fun W hW => okB HO.out (hdn.trans hW)
 have HE2 : Hid (∀ W, Below w.heap.size w.drew W → Sl.OK 1 encByte okByte (fun _ => False) W ⟨ad, cd, D⟩) := Lib.hid fun W hW => okB HE.out (hdn.trans hW)
 have hlo := Nat.le_trans H.out.low (Nat.le_of_lt H.out.box.lt)
 rw [hnD, hnL] at hlen
 rw [hnD, hnL]
 clear h hol hod hnD hnL
 go_enter Tryz.func13, Tryz.ntmps13
 go_wp2
 refine wp_region_markS (fun W => Below w.heap.size w.drew W) 14 [(0, none), (2, none), (3, none), (4, none), (7, none), (8, none), (9, none), (5, some true), (10, some true), (1, some false), (6, some false), (11, some false), (12, none), (13, none), (14, some false)] rfl (by kernel_rfl) (by kernel_rfl) (fun d _ _ _ _ h => by cases d <;> exact h) (Below.refl _ _) ?_
 iterate 7 (refine wpE_pure rfl rfl (fun W => by go_simp; with_reducible rfl) ?_; simp only [pTs, pTn, pTz, pTc])
 refine wpE_fix (v := .slice ad nD cd) rfl rfl (fun W hW => by have e : W.cell? ⟨b, 0, none⟩ = some (.slice ad nD cd) := ((H2.out.box.belowAll hW).cell 0).trans rfl; go_simp) ?_; simp only [pTs, pTn, pTz, pTc]
 refine wpE_fix (v := .slice al nL cl) rfl rfl (fun W hW => by have e : W.cell? ⟨b, 1, none⟩ = some (.slice al nL cl) := ((H2.out.box.belowAll hW).cell 1).trans rfl; go_simp) ?_; simp only [pTs, pTn, pTz, pTc]
 refine wpE_act rfl rfl rfl (fun K hK => ?_)
 go_simp
 refine hK _ _ ((Below.refl w.heap.size w.drew).alloc (Nat.le_refl _) (.cells #[] 5)) ?_
 clear hK K
 try simp only [pTs, pTn, pTz, pTc]
 refine wpE_act rfl rfl rfl (fun K hK => ?_)
 refine wp_append_slAt _ _ 30 rfl w.heap.size einfo_Byte (fun _ => rfl) (by decide) encByte_one (by decide) _ [] rfl (lit_bytes (W := w.drew) (Nat.le_refl _)) ⟨ad, cd, D⟩ (by show _ = Value.slice _ _ _; rw [HD.out]; rfl) (HE2.out _ ((Below.refl w.heap.size w.drew).alloc (Nat.le_refl _) (.cells #[] 5))) (by simp only [HD.out, List.length_nil]; omega) (by simp) ?_
 intro v1 w1 ho1 hg1 hat1
 rw [List.nil_append] at ho1
 have hB1 : Below w.heap.size w.drew w1 := ((Below.refl w.heap.size w.drew).alloc (Nat.le_refl _) (.cells #[] 5)).trans (Below.appended (lit_bytes (W := w.drew) (Nat.le_refl _)) hg1 (Nat.le_refl _) (by simp))
 refine hK _ _ hB1 ?_
 clear hK K
 try simp only [pTs, pTn, pTz, pTc]
 refine wpE_act rfl rfl rfl (fun K hK => ?_)
 refine wp_append_slAt _ _ 30 rfl w.heap.size einfo_Byte (fun _ => rfl) (by decide) encByte_one (by decide) v1 D rfl ho1 ⟨al, cl, L⟩ (by show _ = Value.slice _ _ _; rw [HL.out]; rfl) (HO2.out _ hB1) (by simp only [HD.out, HL.out]; omega) hB1.size ?_
 intro v2 w2 ho2 hg2 hat2
 obtain ⟨a1, n1, c1, rfl⟩ := OwnB.any ho2
 have hB2 : Below w.heap.size w.drew w2 := hB1.trans (Below.appended ho1 hg2 (Nat.le_refl _) hB1.size)
 have hbx := H2.out.box.below hB2 H2.out.box.lt
 refine hK _ _ hB2 ?_
 clear hK K
 try simp only [pTs, pTn, pTz, pTc]
 iterate 2 (refine wpE_pure rfl rfl (fun W => by go_simp; with_reducible rfl) ?_; simp only [pTs, pTn, pTz, pTc])
 refine wpE_mark rfl rfl (fun K hK => ?_)
 refine wp_store_box hbx _ _ _ rfl rfl (.slice a1 n1 c1) rfl (by kernel_rfl) rfl (one_slB _ _ _) ?_
 intro w4 hb4 hT4
 refine hK _ _ ?_
 clear hK K
 try simp only [pTs, pTn, pTz, pTc]
 simp only [wpE]
 have h3 := H2.out.freshD hB2 ho2 (hb4.eqv (by simp [splice, Value.cells])) hT4
 have hb2 := h3.1.box
 go_wp2_with ((with_reducible refine at_store ?_); refine wpList_store_box hb2 rfl _ _ _ rfl rfl (.slice none 0 0) rfl (by kernel_rfl) rfl (one_slB _ _ _) ?_; intro w5 hb5 hT5)
 have h4 := h3.1.set (hb5.eqv (by simp [splice, Value.cells])) hT5 h3.1.dur (OwnL.nil _ _ _ _ _) (.inl rfl) (.inr rfl)
 go_end0
 exact ⟨rfl, _, h4.1, ((Moved.of_below hdn).trans h3.2).trans h4.2⟩
theorem read_prog {B b : Nat} {w : World} {vd vl : Value} {D L : List UInt8} (h : DiskAt 61 B w b vd vl D L) (hlen : D.length + L.length ≤ 1000000) :
  Calls Tryz.prog 18 #[.pointer (some ⟨b, 0, none⟩)] w fun e w' => ∃ v, e = .returned v ∧ OwnB w' w.heap.size v (D ++ L) ∧ Below w.heap.size w w' := by
 obtain ⟨ad, cd, rfl, hod⟩ := h.dur.sl' (by omega)
 obtain ⟨al, cl, rfl, hol⟩ := h.pen.sl' (by omega)
 obtain ⟨nD, hnD⟩ : ∃ n, D.length = n := ⟨_, rfl⟩
 obtain ⟨nL, hnL⟩ : ∃ n, L.length = n := ⟨_, rfl⟩
 have hdn : Below w.heap.size w w.drew := ⟨rfl, rfl, rfl, Nat.le_refl _, fun _ _ => rfl⟩
 have H := Lib.hid h
 have HE := Lib.hid hod
 have HO := Lib.hid hol
 have HD := Lib.hid hnD
 have HL := Lib.hid hnL
 have H2 : Hid (DiskAt 61 B w.drew b (.slice ad nD cd) (.slice al nL cl) D L) := Lib.hid (by rw [← HD.out, ← HL.out]; exact H.out.belowAll hdn)
 have HO2 : Hid (∀ W, Below w.heap.size w.drew W → Sl.OK 1 encByte okByte (fun _ => False) W ⟨al, cl, L⟩) := Lib.hid fun W hW => okB HO.out (hdn.trans hW)
 have HE2 : Hid (∀ W, Below w.heap.size w.drew W → Sl.OK 1 encByte okByte (fun _ => False) W ⟨ad, cd, D⟩) := Lib.hid fun W hW => okB HE.out (hdn.trans hW)
 have hlo := Nat.le_trans H.out.low (Nat.le_of_lt H.out.box.lt)
 rw [hnD, hnL] at hlen
 clear h hol hod hnD hnL
 go_enter Tryz.func18, Tryz.ntmps18
 go_wp2
 refine wp_region_ord [(0, true), (1, true), (2, true), (3, true), (4, true), (5, true), (6, true), (7, true), (8, false), (9, false), (10, true)] rfl (by kernel_rfl) (by kernel_rfl) (fun d _ _ _ _ h => by cases d <;> exact h) ?_
 iterate 3 (refine wpB_fix rfl rfl (fun W hW => by go_simp; with_reducible rfl) ?_; simp only [pTs, pTn, pTz, pTc])
 refine wpB_fix (v := .slice ad nD cd) rfl rfl (fun W hW => by have e : W.cell? ⟨b, 0, none⟩ = some (.slice ad nD cd) := ((H2.out.box.belowAll hW).cell 0).trans rfl; go_simp) ?_; simp only [pTs, pTn, pTz, pTc]
 iterate 3 (refine wpB_fix rfl rfl (fun W hW => by go_simp; with_reducible rfl) ?_; simp only [pTs, pTn, pTz, pTc])
 refine wpB_fix (v := .slice al nL cl) rfl rfl (fun W hW => by have e : W.cell? ⟨b, 1, none⟩ = some (.slice al nL cl) := ((H2.out.box.belowAll hW).cell 1).trans rfl; go_simp) ?_; simp only [pTs, pTn, pTz, pTc]
 refine wpB_act rfl rfl (fun K hK => ?_)
 go_simp
 refine hK _ _ ((Below.refl _ _).alloc (Nat.le_refl _) _) ?_
 clear hK K
 try simp only [pTs, pTn, pTz, pTc]
 refine wpB_act rfl rfl (fun K hK => ?_)
 go_simp
 have hbc : BoxAt (w.drew.alloc (.cells #[.slice ad nD cd, .slice al nL cl] 30)) w.heap.size 30 #[.slice ad nD cd, .slice al nL cl] := BoxAt.new w.drew _ _
 refine (concat_Byte (fun _ => False) w.heap.size 0 2 [⟨ad, cd, D⟩, ⟨al, cl, L⟩] (w.drew.alloc (.cells #[.slice ad nD cd, .slice al nL cl] 30)) (by simp) (fun i x hi => by rw [hbc.cell]; rcases i with _ | _ | i <;> simp at hi <;> subst hi; exact congrArg (fun n => some (Value.slice ad n cd)) HD.out.symm; exact congrArg (fun n => some (Value.slice al n cl)) HL.out.symm) (fun x hx => by simp only [List.mem_cons, List.not_mem_nil, or_false] at hx; rcases hx with rfl | rfl; exact HE2.out _ ((Below.refl w.heap.size w.drew).alloc (Nat.le_refl _) (.cells #[.slice ad nD cd, .slice al nL cl] 30)); exact HO2.out _ ((Below.refl w.heap.size w.drew).alloc (Nat.le_refl _) (.cells #[.slice ad nD cd, .slice al nL cl] 30))) (by simp) (by simp only [lens, List.map_cons, List.map_nil, List.sum_cons, List.sum_nil, HD.out, HL.out]; omega)).mono ?_
 rintro e w1 ⟨v, rfl, ho, hb1⟩
 refine hK _ _ hb1 ?_
 clear hK K
 try simp only [pTs, pTn, pTz, pTc]
 refine wpB_fix rfl rfl (fun W hW => by go_simp; with_reducible rfl) ?_; simp only [pTs, pTn, pTz, pTc]
 simp only [wpB]
 go_wp2
 go_ret
 exact ⟨_, rfl, (by simpa using ho.base_le (by simp)), hdn.trans (((Below.refl w.heap.size w.drew).alloc (Nat.le_refl _) (.cells #[.slice ad nD cd, .slice al nL cl] 30)).trans (hb1.mono (by simp)))⟩
theorem read_ref {B b : Nat} {w : World} {vd vl : Value} {D L : List UInt8} (h : DiskAt 107 B w b vd vl D L) (hlen : D.length + L.length ≤ 1000000) :
  Calls Tryz.prog 19 #[.pointer (some ⟨b, 0, none⟩)] w fun e w' => ∃ v, e = .returned v ∧ OwnB w' w.heap.size v (D ++ L) ∧ Below w.heap.size w w' := by
 obtain ⟨ad, cd, rfl, hod⟩ := h.dur.sl' (by omega)
 obtain ⟨al, cl, rfl, hol⟩ := h.pen.sl' (by omega)
 obtain ⟨nD, hnD⟩ : ∃ n, D.length = n := ⟨_, rfl⟩
 obtain ⟨nL, hnL⟩ : ∃ n, L.length = n := ⟨_, rfl⟩
 have hdn : Below w.heap.size w w.drew := ⟨rfl, rfl, rfl, Nat.le_refl _, fun _ _ => rfl⟩
 have H := Lib.hid h
 have HE := Lib.hid hod
 have HO := Lib.hid hol
 have HD := Lib.hid hnD
 have HL := Lib.hid hnL
 have H2 : Hid (DiskAt 107 B w.drew b (.slice ad nD cd) (.slice al nL cl) D L) := Lib.hid (by rw [← HD.out, ← HL.out]; exact H.out.belowAll hdn)
 have HO2 : Hid (∀ W, Below w.heap.size w.drew W → Sl.OK 1 encByte okByte (fun _ => False) W ⟨al, cl, L⟩) := Lib.hid fun W hW => okB HO.out (hdn.trans hW)
 have HE2 : Hid (∀ W, Below w.heap.size w.drew W → Sl.OK 1 encByte okByte (fun _ => False) W ⟨ad, cd, D⟩) := Lib.hid fun W hW => okB HE.out (hdn.trans hW)
 have hlo := Nat.le_trans H.out.low (Nat.le_of_lt H.out.box.lt)
 rw [hnD, hnL] at hlen
 clear h hol hod hnD hnL
 go_enter Tryz.func19, Tryz.ntmps19
 go_wp2
 refine wp_region_S (fun W => Below w.heap.size w.drew W) [(1, true), (2, true), (3, true), (4, true), (6, true), (7, true), (8, true), (9, true), (0, false), (5, false), (10, false), (11, true)] rfl (by kernel_rfl) (by kernel_rfl) (fun d _ _ _ _ h => by cases d <;> exact h) (Below.refl _ _) ?_
 iterate 3 (refine wpS_fix rfl rfl (fun W hW => by go_simp; with_reducible rfl) ?_; simp only [pTs, pTn, pTz, pTc])
 refine wpS_fix (v := .slice ad nD cd) rfl rfl (fun W hW => by have e : W.cell? ⟨b, 0, none⟩ = some (.slice ad nD cd) := ((H2.out.box.belowAll hW).cell 0).trans rfl; go_simp) ?_; simp only [pTs, pTn, pTz, pTc]
 iterate 3 (refine wpS_fix rfl rfl (fun W hW => by go_simp; with_reducible rfl) ?_; simp only [pTs, pTn, pTz, pTc])
 refine wpS_fix (v := .slice al nL cl) rfl rfl (fun W hW => by have e : W.cell? ⟨b, 1, none⟩ = some (.slice al nL cl) := ((H2.out.box.belowAll hW).cell 1).trans rfl; go_simp) ?_; simp only [pTs, pTn, pTz, pTc]
 refine wpS_act rfl rfl (fun K hK => ?_)
 go_simp
 refine hK _ _ ((Below.refl w.heap.size w.drew).alloc (Nat.le_refl _) (.cells #[] 5)) ?_
 clear hK K
 try simp only [pTs, pTn, pTz, pTc]
 refine wpS_act rfl rfl (fun K hK => ?_)
 refine wp_append_slAt _ _ 30 rfl w.heap.size einfo_Byte (fun _ => rfl) (by decide) encByte_one (by decide) _ [] rfl (lit_bytes (W := w.drew) (Nat.le_refl _)) ⟨ad, cd, D⟩ (by show _ = Value.slice _ _ _; rw [HD.out]; rfl) (HE2.out _ ((Below.refl w.heap.size w.drew).alloc (Nat.le_refl _) (.cells #[] 5))) (by simp only [HD.out, List.length_nil]; omega) (by simp) ?_
 intro v1 w1 ho1 hg1 hat1
 rw [List.nil_append] at ho1
 have hB1 : Below w.heap.size w.drew w1 := ((Below.refl w.heap.size w.drew).alloc (Nat.le_refl _) (.cells #[] 5)).trans (Below.appended (lit_bytes (W := w.drew) (Nat.le_refl _)) hg1 (Nat.le_refl _) (by simp))
 refine hK _ _ hB1 ?_
 clear hK K
 try simp only [pTs, pTn, pTz, pTc]
 refine wpS_act rfl rfl (fun K hK => ?_)
 refine wp_append_slAt _ _ 30 rfl w.heap.size einfo_Byte (fun _ => rfl) (by decide) encByte_one (by decide) v1 D rfl ho1 ⟨al, cl, L⟩ (by show _ = Value.slice _ _ _; rw [HL.out]; rfl) (HO2.out _ hB1) (by simp only [HD.out, HL.out]; omega) hB1.size ?_
 intro v2 w2 ho2 hg2 hat2
 obtain ⟨a1, n1, c1, rfl⟩ := OwnB.any ho2
 have hB2 : Below w.heap.size w.drew w2 := hB1.trans (Below.appended ho1 hg2 (Nat.le_refl _) hB1.size)
 have hbx := H2.out.box.below hB2 H2.out.box.lt
 refine hK _ _ hB2 ?_
 clear hK K
 try simp only [pTs, pTn, pTz, pTc]
 refine wpS_fix rfl rfl (fun W hW => by go_simp; with_reducible rfl) ?_; simp only [pTs, pTn, pTz, pTc]
 simp only [wpS]
 go_wp2
 go_ret
 exact ⟨_, rfl, ho2, hdn.trans hB2⟩
end Go.Proofs.YtnmgfnpphglphaaGreat
end
section
set_option linter.unusedVariables false
set_option linter.unusedSimpArgs false
namespace Go.Proofs.YtnmgfnpphglphaaGreat
open Go.RowKit
theorem crash_prog_bad {B b : Nat} {w : World} {vd vl : Value} {D L : List UInt8} (h : DiskAt 61 B w b vd vl D L) (hlen : D.length + L.length ≤ 1000000) (keep flip : Int) (hk : I64 keep) (hf : I64 flip) (hbad : badCrash L keep flip = true) :
  Calls Tryz.prog 14 #[.pointer (some ⟨b, 0, none⟩), .int .i64 keep, .int .i64 flip] w fun e w' => e = .returned (.int .i64 1) ∧ w = w' := by
 obtain ⟨ad, cd, rfl, hod⟩ := h.dur.sl' (by omega)
 obtain ⟨al, cl, rfl, hol⟩ := h.pen.sl' (by omega)
 obtain ⟨nD, hnD⟩ : ∃ n, D.length = n := ⟨_, rfl⟩
 obtain ⟨nL, hnL⟩ : ∃ n, L.length = n := ⟨_, rfl⟩
 have hc1 : w.cell? ⟨b, 1, none⟩ = some (.slice al nL cl) := (h.box.cell 1).trans (by rw [← hnL]; rfl)
 unfold badCrash at hbad
 rw [hnL] at hbad
 rw [hnD, hnL] at hlen
 have hbad := of_decide_eq_true hbad
 clear h hod hol hnD hnL
 by_cases hkk : 0 ≤ keep ∧ keep ≤ nL
 ·have h1 : inB keep 0 nL = true := by simp [inB]; omega
  have h2 : inB flip (-1) (8 * keep - 1) = false := by simp [inB]; omega
  have k1 : IntKind.i64.wrap (8 * keep) = 8 * keep := IntWalk.i64_in _ (by omega)
  have k2 : IntKind.i64.wrap (8 * keep - 1) = 8 * keep - 1 := IntWalk.i64_in _ (by omega)
  obtain ⟨h3, h4⟩ := hkk
  clear hk hf hbad
  go_enter Tryz.func14, Tryz.ntmps14
  go_wp2_with (go_at_call 39; (with_reducible refine (within_any _ _ _ _).mono ?_); rintro e w1 ⟨rfl, rfl⟩)
  go_ret
  exact ⟨rfl, rfl⟩
 ·have h1 : inB keep 0 nL = false := by simp [inB]; omega
  clear hk hf hbad hkk
  go_enter Tryz.func14, Tryz.ntmps14
  go_wp2_with (go_at_call 39; (with_reducible refine (within_any _ _ _ _).mono ?_); rintro e w1 ⟨rfl, rfl⟩)
  go_ret
  exact ⟨rfl, rfl⟩
theorem crash_ref_bad {B b : Nat} {w : World} {vd vl : Value} {D L : List UInt8} (h : DiskAt 107 B w b vd vl D L) (hlen : D.length + L.length ≤ 1000000) (keep flip : Int) (hk : I64 keep) (hf : I64 flip) (hbad : badCrash L keep flip = true) :
  Calls Tryz.prog 15 #[.pointer (some ⟨b, 0, none⟩), .int .i64 keep, .int .i64 flip] w fun e w' => e = .returned (.int .i64 1) ∧ w = w' := by
 obtain ⟨ad, cd, rfl, hod⟩ := h.dur.sl' (by omega)
 obtain ⟨al, cl, rfl, hol⟩ := h.pen.sl' (by omega)
 obtain ⟨nD, hnD⟩ : ∃ n, D.length = n := ⟨_, rfl⟩
 obtain ⟨nL, hnL⟩ : ∃ n, L.length = n := ⟨_, rfl⟩
 have hc1 : w.cell? ⟨b, 1, none⟩ = some (.slice al nL cl) := (h.box.cell 1).trans (by rw [← hnL]; rfl)
 unfold badCrash at hbad
 rw [hnL] at hbad
 rw [hnD, hnL] at hlen
 have hbad := of_decide_eq_true hbad
 clear h hod hol hnD hnL
 by_cases h1 : keep < 0
 ·clear hk hf hbad
  go_enter Tryz.func15, Tryz.ntmps15
  go_wp2
  go_ret
  exact ⟨rfl, rfl⟩
 by_cases h2 : (nL : Int) < keep
 ·clear hk hf hbad
  go_enter Tryz.func15, Tryz.ntmps15
  go_wp2
  go_ret
  exact ⟨rfl, rfl⟩
 by_cases h3 : flip < -1
 ·clear hk hf hbad
  go_enter Tryz.func15, Tryz.ntmps15
  go_wp2
  go_ret
  exact ⟨rfl, rfl⟩
 have h4 : 8 * keep ≤ flip := by omega
 have k1 : IntKind.i64.wrap (8 * keep) = 8 * keep := IntWalk.i64_in _ (by omega)
 have h1' : 0 ≤ keep := by omega
 have h2' : keep ≤ nL := by omega
 clear hk hf hbad
 go_enter Tryz.func15, Tryz.ntmps15
 go_wp2
 go_ret
 exact ⟨rfl, rfl⟩
theorem crash_prog_ok {B b : Nat} {w : World} {vd vl : Value} {D L : List UInt8} (h : DiskAt 61 B w b vd vl D L) (hlen : D.length + L.length ≤ 1000000) (keep flip : Int) (hk : I64 keep) (hf : I64 flip) (hbad : badCrash L keep flip = false) :
  Calls Tryz.prog 14 #[.pointer (some ⟨b, 0, none⟩), .int .i64 keep, .int .i64 flip] w fun e w' => e = .returned (.int .i64 0) ∧ ∃ vd', DiskAt 61 B w' b vd' (.slice none 0 0) (D ++ flipAt (L.take keep.toNat) flip) [] ∧ Moved b vd vl w w' vd' (.slice none 0 0) := by
 obtain ⟨ad, cd, rfl, hod⟩ := h.dur.sl' (by omega)
 obtain ⟨al, cl, rfl, hol⟩ := h.pen.sl' (by omega)
 obtain ⟨nD, hnD⟩ : ∃ n, D.length = n := ⟨_, rfl⟩
 obtain ⟨nL, hnL⟩ : ∃ n, L.length = n := ⟨_, rfl⟩
 have hc1 : w.cell? ⟨b, 1, none⟩ = some (.slice al nL cl) := (h.box.cell 1).trans (by rw [← hnL]; rfl)
 unfold badCrash at hbad
 rw [hnL] at hbad
 rw [hnD, hnL] at hlen
 have hbad := of_decide_eq_false hbad
 obtain ⟨k, rfl⟩ : ∃ k : Nat, keep = k := ⟨keep.toNat, by omega⟩
 rw [Int.toNat_natCast]
 have hkL : k ≤ nL := by omega
 have hfk : flip < 8 * k := by omega
 have hf1 : -1 ≤ flip := by omega
 have hcap := hol.le
 simp only [hnL] at hcap
 have H := Lib.hid h
 have HE := Lib.hid hod
 have HO := Lib.hid hol
 have HD := Lib.hid hnD
 have HL := Lib.hid hnL
 have H2 : Hid (DiskAt 61 B w b (.slice ad nD cd) (.slice al nL cl) D L) := Lib.hid (by rw [← HD.out, ← HL.out]; exact H.out)
 have HTL : Hid ((L.take k).length = k) := Lib.hid (by rw [List.length_take, hnL]; omega)
 rw [hnD, hnL]
 have h1 : inB k 0 nL = true := by simp [inB]; omega
 have h2 : inB flip (-1) (8 * k - 1) = true := by simp [inB]; omega
 have k1 : IntKind.i64.wrap (8 * k) = 8 * k := IntWalk.i64_in _ (by omega)
 have k2 : IntKind.i64.wrap (8 * (k : Int) - 1) = 8 * k - 1 := IntWalk.i64_in _ (by omega)
 by_cases hneg : flip < 0
 ·have hfl : flipAt (L.take k) flip = L.take k := if_pos hneg
  have HFL := Lib.hid hfl
  clear h hod hol hnD hnL hbad hk hf hfk hf1 hfl
  go_enter Tryz.func14, Tryz.ntmps14
  go_wp2_with (first
  | (go_at_call 39; (with_reducible refine (within_any _ _ _ _).mono ?_); rintro e w1 ⟨rfl, rfl⟩)
  | ((with_reducible refine at_dst 33 ?_); refine wpList_slice rfl _ _ _ _ _ rfl (.slice al nL cl) (.slice al k cl) rfl (run_tkB _ al nL cl k hkL hcap) ?_)
  | ((with_reducible refine at_store ?_); refine wpList_store_box H2.out.box rfl _ _ _ rfl rfl (.slice al k cl) rfl (by kernel_rfl) rfl (one_slB _ _ _) ?_; intro w2 hb2 hT2; have H3 := Lib.hid (H2.out.set (vd' := .slice ad nD cd) (vl' := .slice al k cl) (hb2.eqv (by simp [splice, Value.cells])) hT2 H2.out.dur (OwnB.take H2.out.pen (k := k) (by rw [HL.out]; exact hkL)) (.inl rfl) (.inl (by cases al <;> rfl))); clear hb2 hT2)
  | (go_at_call 12; refine (sync_prog H3.out.1 (by rw [HTL.out, HD.out]; omega)).mono ?_; rintro e w5 ⟨rfl, vd5, h5, m5⟩))
  go_ret
  rw [HFL.out]
  exact ⟨rfl, _, h5, H3.out.2.trans m5⟩
 ·have hp0 : 0 ≤ flip := by omega
  have hb0 : 0 < L.length := by omega
  obtain ⟨g, c', cur0, hv, -, -, -, -⟩ := own_byte H2.out.pen hb0
  injection hv with ea eb ec; clear eb
  subst ea ec
  obtain ⟨p, hp⟩ : ∃ p, flip.toNat / 8 = p := ⟨_, rfl⟩
  obtain ⟨j, hj⟩ : ∃ j, flip.toNat % 8 = j := ⟨_, rfl⟩
  have hpk : p < k := by omega
  have hj8 : j < 8 := by omega
  have hq1 : flip.tdiv 8 = (p : Int) := by rw [tdiv_8 hp0, hp]
  have hm1 : flip.tmod 8 = (j : Int) := by rw [tmod_8 hp0, hj]
  have hq2 : IntKind.i64.wrap (p : Int) = (p : Int) := IntWalk.i64_in _ (by omega)
  have hm2 : IntKind.i64.wrap (j : Int) = (j : Int) := IntWalk.i64_in _ (by omega)
  obtain ⟨x, hx⟩ : ∃ x, (L.take k)[p]? = some x := ⟨_, List.getElem?_eq_getElem (by rw [HTL.out]; exact hpk)⟩
  have HX := Lib.hid hx
  have hfl : flipAt (L.take k) flip = (L.take k).modify p (flipB j) := by unfold flipAt; rw [if_neg hneg, hp, hj]
  have HFL := Lib.hid hfl
  have hfx := flip_wrap x j hj8
  have HFX := Lib.hid hfx
  have hneg' : decide (0 ≤ flip) = true := decide_eq_true hp0
  clear h hod hol hnD hnL hbad hk hf hfk hf1 hfl hx hfx hp hj hneg hb0
  go_enter Tryz.func14, Tryz.ntmps14
  go_wp2_with (first
  | (go_at_call 39; (with_reducible refine (within_any _ _ _ _).mono ?_); rintro e w1 ⟨rfl, rfl⟩)
  | ((with_reducible refine at_dst 33 ?_); refine wpList_slice rfl _ _ _ _ _ rfl (.slice (some ⟨g, 0, none⟩) nL cl) (.slice (some ⟨g, 0, none⟩) k cl) rfl (run_tkB _ (some ⟨g, 0, none⟩) nL cl k hkL hcap) ?_)
  | ((with_reducible refine at_store ?_); refine wpList_store_box H2.out.box rfl _ _ _ rfl rfl (.slice (some ⟨g, 0, none⟩) k cl) rfl (by kernel_rfl) rfl (one_slB _ _ _) ?_; intro w2 hb2 hT2; have H3 := Lib.hid (H2.out.set (vd' := .slice ad nD cd) (vl' := .slice (some ⟨g, 0, none⟩) k cl) (hb2.eqv (by simp [splice, Value.cells])) hT2 H2.out.dur (OwnB.take H2.out.pen (k := k) (by rw [HL.out]; exact hkL)) (.inl rfl) (.inl rfl)); clear hb2 hT2))
  have hdn : Below w2.heap.size w2 w2.drew := ⟨rfl, rfl, rfl, Nat.le_refl _, fun _ _ => rfl⟩
  have H4 := Lib.hid (H3.out.1.belowAll hdn)
  obtain ⟨g', cap', cur, hv', hbx, hcz, -, hstore⟩ := own_byte H4.out.pen (by rw [HTL.out]; omega)
  simp only [Value.slice.injEq, Option.some.injEq, Addr.mk.injEq, and_true] at hv'
  obtain ⟨rfl, -, -⟩ := hv'
  have hgl := hbx.lt
  have hcx : w2.drew.cell? ⟨g, p, none⟩ = some (.int .u8 x.toNat) := by
   have h := (H4.out.pen.slOf (fun _ => rfl) okByte (fun _ => False) (fun _ _ => trivial) (fun _ _ h => h) (by rw [HTL.out]; omega)).cell g 0 rfl p x HX.out 0 (by decide)
   simpa [encByte] using h
  have hfit : p + 1 ≤ cur.size := by rw [HTL.out] at hcz; omega
  have HST := Lib.hid hstore
  clear hstore
  refine wp_region_mark 13 [(0, none), (1, none), (2, none), (4, none), (5, none), (8, none), (9, none), (10, none), (3, some true), (6, none), (7, some true), (11, none), (12, none), (13, some false)] rfl (by kernel_rfl) (by kernel_rfl) (fun d _ _ _ _ h => by cases d <;> exact h) ?_
  iterate 8 (refine wpC_pure rfl rfl (fun W => by go_simp; with_reducible rfl) ?_; simp only [pTs, pTn, pTz, pTc])
  refine wpC_fix (v := .slice (some ⟨g, 0, none⟩) k cl) rfl rfl (fun W hW => by have e : W.cell? ⟨b, 1, none⟩ = some (.slice (some ⟨g, 0, none⟩) k cl) := ((H4.out.box.belowAll hW).cell 1).trans rfl; go_simp) ?_; simp only [pTs, pTn, pTz, pTc]
  refine wpC_pure rfl rfl (fun W => by go_simp; with_reducible rfl) ?_; simp only [pTs, pTn, pTz, pTc]
  refine wpC_fix (v := .int .u8 x.toNat) rfl rfl (fun W hW => by have e := (hW.cell (p := ⟨g, p, none⟩) hgl).trans hcx; go_simp) ?_; simp only [pTs, pTn, pTz, pTc]
  iterate 2 (refine wpC_pure rfl rfl (fun W => by go_simp; with_reducible rfl) ?_; simp only [pTs, pTn, pTz, pTc])
  refine wpC_mark rfl rfl (fun K hK => ?_)
  refine wp_store_box hbx _ _ _ rfl rfl (.int .u8 ((flipB j x).toNat : Int)) (congrArg (Value.int .u8) HFX.out) (by kernel_rfl) (Nat.ble_eq_true_of_le hfit) (by simp [Value.cells, Value.oneCell']) ?_
  intro wS hbS hTS
  refine hK _ _ ?_
  clear hK K
  try simp only [pTs, pTn, pTz, pTc]
  simp only [wpC]
  have hJM : (L.take k).set p (flipB j x) = (L.take k).modify p (flipB j) := (modify_set (flipB j) HX.out).symm
  have H5 := Lib.hid (H4.out.setL (g := g) rfl hTS (L' := (L.take k).modify p (flipB j)) (by have h := HST.out wS p (flipB j x) (by rw [HTL.out]; exact hpk) hbS; rw [hJM] at h; exact h))
  clear hJM hTS hbS
  go_wp2_with (go_at_call 12; refine (sync_prog H5.out.1 (by rw [List.length_modify, HTL.out, HD.out]; omega)).mono ?_; rintro e w5 ⟨rfl, vd5, h5, m5⟩)
  go_ret
  rw [HFL.out]
  exact ⟨rfl, _, h5, ((H3.out.2.trans (Moved.of_below hdn)).trans H5.out.2).trans m5⟩
theorem OwnB.sl3 {w : World} {B k : Nat} {v : Value} {l : List UInt8} (h : OwnB w B v l) (hl : l.length = k) (hk : k ≤ 4294967296) : ∃ a c, v = .slice a k c ∧ Sl.OK 1 encByte okByte (fun _ => False) w ⟨a, c, l⟩ := by
 subst hl
 exact h.sl' hk
theorem at_storeK (k : Nat) {P : Program} {ops : Array Oper} {rest : List Oper} {tt : TypeId} {y : Operand} {ty : TypeId} {pos : String} {af : Array Edge} {g : Option (Nat × Bool)} {a : Act} {w : World} {Q : Exit → Act → World → Prop}
  (h : wpList P ops Q (⟨none, .store tt (.tmp k) y, ty, pos, af, g⟩ :: rest) a w) : wpList P ops Q (⟨none, .store tt (.tmp k) y, ty, pos, af, g⟩ :: rest) a w := h
theorem crash_ref_ok {B b : Nat} {w : World} {vd vl : Value} {D L : List UInt8} (h : DiskAt 107 B w b vd vl D L) (hlen : D.length + L.length ≤ 1000000) (keep flip : Int) (hk : I64 keep) (hf : I64 flip) (hbad : badCrash L keep flip = false) :
  Calls Tryz.prog 15 #[.pointer (some ⟨b, 0, none⟩), .int .i64 keep, .int .i64 flip] w fun e w' => e = .returned (.int .i64 0) ∧ ∃ vd', DiskAt 107 B w' b vd' (.slice none 0 0) (D ++ flipAt (L.take keep.toNat) flip) [] ∧ Moved b vd vl w w' vd' (.slice none 0 0) := by
 obtain ⟨ad, cd, rfl, hod⟩ := h.dur.sl' (by omega)
 obtain ⟨al, cl, rfl, hol⟩ := h.pen.sl' (by omega)
 obtain ⟨nD, hnD⟩ : ∃ n, D.length = n := ⟨_, rfl⟩
 obtain ⟨nL, hnL⟩ : ∃ n, L.length = n := ⟨_, rfl⟩
 have hc1 : w.cell? ⟨b, 1, none⟩ = some (.slice al nL cl) := (h.box.cell 1).trans (by rw [← hnL]; rfl)
 unfold badCrash at hbad
 rw [hnL] at hbad
 rw [hnD, hnL] at hlen
 have hbad := of_decide_eq_false hbad
 obtain ⟨k, rfl⟩ : ∃ k : Nat, keep = k := ⟨keep.toNat, by omega⟩
 rw [Int.toNat_natCast]
 have hkL : k ≤ nL := by omega
 have hfk : flip < 8 * k := by omega
 have hf1 : -1 ≤ flip := by omega
 have hcap := hol.le
 simp only [hnL] at hcap
 have H := Lib.hid h
 have HE := Lib.hid hod
 have HO := Lib.hid hol
 have HD := Lib.hid hnD
 have HL := Lib.hid hnL
 have H2 : Hid (DiskAt 107 B w b (.slice ad nD cd) (.slice al nL cl) D L) := Lib.hid (by rw [← HD.out, ← HL.out]; exact H.out)
 have HTL : Hid ((L.take k).length = k) := Lib.hid (by rw [List.length_take, hnL]; omega)
 rw [hnD, hnL]
 have hbl := H.out.box.lt
 have hba : Below w.heap.size w (w.alloc (.cells #[] 5)) := (Below.refl _ _).alloc (Nat.le_refl _) _
 have hcl0 : (w.alloc (.cells #[] 5)).cell? ⟨b, 1, none⟩ = some (.slice al nL cl) := ((H2.out.box.alloc _).cell 1).trans rfl
 have HTO : Hid (Sl.OK 1 encByte okByte (fun _ => False) (w.alloc (.cells #[] 5)) ⟨al, cl, L.take k⟩) := Lib.hid ((okB HO.out hba).tk k)
 have g1 : ¬ (k : Int) < 0 := by omega
 have g2 : ¬ (nL : Int) < k := by omega
 have g3 : ¬ flip < -1 := by omega
 have g4 : ¬ 8 * (k : Int) ≤ flip := by omega
 have k1 : IntKind.i64.wrap (8 * k) = 8 * k := IntWalk.i64_in _ (by omega)
 by_cases hneg : flip < 0
 ·have hfl : flipAt (L.take k) flip = L.take k := if_pos hneg
  have HFL := Lib.hid hfl
  have HKL := HTL
  clear h hod hol hnD hnL hbad hk hf hfk hf1 hfl
  go_enter Tryz.func15, Tryz.ntmps15
  go_wp2_with (first
  | ((with_reducible refine at_dst 39 ?_); refine wpList_slice rfl _ _ _ _ _ rfl (.slice al nL cl) (.slice al k cl) rfl (run_tkB _ al nL cl k hkL hcap) ?_)
  | ((with_reducible refine at_dst 40 ?_); refine wpList_append_slAt rfl _ _ 30 rfl w.heap.size einfo_Byte (fun _ => rfl) (by decide) encByte_one (by decide) _ [] rfl (lit_bytes (W := w) (Nat.le_refl _)) ⟨al, cl, L.take k⟩ (by show _ = Value.slice _ _ _; rw [HTL.out]; rfl) HTO.out (by simp only [HTL.out, List.length_nil]; omega) (by simp) ?_; intro v1 w1 ho1 hg1 hat1; rw [List.nil_append] at ho1; have HB := Lib.hid (hba.trans (Below.appended (lit_bytes (W := w) (Nat.le_refl _)) hg1 (Nat.le_refl _) (by simp))); have HK : Hid (OwnB w1 w.heap.size v1 (L.take k)) := Lib.hid ho1; obtain ⟨a1, c1, rfl, hko⟩ := OwnB.sl3 (l := L.take k) ho1 HTL.out (by omega); have HKO := Lib.hid hko; clear ho1 hg1 hat1 hko; have hcl : (w1.alloc (.cells #[] 5)).cell? ⟨b, 0, none⟩ = some (.slice ad nD cd) := (((H2.out.box.below HB.out H2.out.box.lt).alloc _).cell 0).trans rfl; have hbt : Below w1.heap.size w1 (w1.alloc (.cells #[] 5)) := (Below.refl _ _).alloc (Nat.le_refl _) _)
  | ((with_reducible refine at_dst 62 ?_); refine wpList_append_slAt rfl _ _ 30 rfl w1.heap.size einfo_Byte (fun _ => rfl) (by decide) encByte_one (by decide) _ [] rfl (lit_bytes (W := w1) (Nat.le_refl _)) ⟨ad, cd, D⟩ (by show _ = Value.slice _ _ _; rw [HD.out]; rfl) (okB HE.out (HB.out.trans (hbt.mono HB.out.size))) (by simp only [HD.out, List.length_nil]; omega) (by simp) ?_; intro v5 w5 ho5 hg5 hat5; rw [List.nil_append] at ho5; have hB5 := Lib.hid (hbt.trans (Below.appended (lit_bytes (W := w1) (Nat.le_refl _)) hg5 (Nat.le_refl _) (by simp))); have HO5 := Lib.hid ho5; clear ho5 hg5 hat5)
  | ((with_reducible refine at_dst 64 ?_); refine wpList_append_slAt rfl _ _ 30 rfl w1.heap.size einfo_Byte (fun _ => rfl) (by decide) encByte_one (by decide) v5 D rfl HO5.out ⟨a1, c1, L.take k⟩ (by show _ = Value.slice _ _ _; rw [HKL.out]; rfl) (okB HKO.out hB5.out) (by simp only [HD.out, HKL.out]; omega) hB5.out.size ?_; intro v6 w6 ho6 hg6 hat6; obtain ⟨a6, n6, c6, rfl⟩ := OwnB.any ho6; have hB6 := Lib.hid (HB.out.trans ((hB5.out.trans (Below.appended HO5.out hg6 (Nat.le_refl _) hB5.out.size)).mono HB.out.size)); have HO6 := Lib.hid (ho6.base_le HB.out.size); have hbx := H2.out.box.below hB6.out H2.out.box.lt; clear ho6 hg6 hat6)
  | ((with_reducible refine at_storeK 66 ?_); refine wpList_store_box hbx rfl _ _ _ rfl rfl (.slice a6 n6 c6) rfl (by kernel_rfl) rfl (one_slB _ _ _) ?_; intro w7 hb7 hT7; have H7 := Lib.hid (H2.out.freshD hB6.out HO6.out (hb7.eqv (by simp [splice, Value.cells])) hT7); clear hb7 hT7)
  | ((with_reducible refine at_storeK 69 ?_); refine wpList_store_box H7.out.1.box rfl _ _ _ rfl rfl (.slice none 0 0) rfl (by kernel_rfl) rfl (one_slB _ _ _) ?_; intro w8 hb8 hT8))
  go_ret
  have h8 := H7.out.1.set (hb8.eqv (by simp [splice, Value.cells])) hT8 H7.out.1.dur (OwnL.nil _ _ _ _ _) (.inl rfl) (.inr rfl)
  rw [HFL.out]
  exact ⟨rfl, _, h8.1, H7.out.2.trans h8.2⟩
 ·have hp0 : 0 ≤ flip := by omega
  have hneg' : decide (0 ≤ flip) = true := decide_eq_true hp0
  obtain ⟨p, hp⟩ : ∃ p, flip.toNat / 8 = p := ⟨_, rfl⟩
  obtain ⟨j, hj⟩ : ∃ j, flip.toNat % 8 = j := ⟨_, rfl⟩
  have hpk : p < k := by omega
  have hj8 : j < 8 := by omega
  have hq1 : flip.tdiv 8 = (p : Int) := by rw [tdiv_8 hp0, hp]
  have hm1 : flip.tmod 8 = (j : Int) := by rw [tmod_8 hp0, hj]
  have hq2 : IntKind.i64.wrap (p : Int) = (p : Int) := IntWalk.i64_in _ (by omega)
  have hm2 : IntKind.i64.wrap (j : Int) = (j : Int) := IntWalk.i64_in _ (by omega)
  obtain ⟨x, hx⟩ : ∃ x, (L.take k)[p]? = some x := ⟨_, List.getElem?_eq_getElem (by rw [HTL.out]; exact hpk)⟩
  have HX := Lib.hid hx
  have hfl : flipAt (L.take k) flip = (L.take k).modify p (flipB j) := by unfold flipAt; rw [if_neg hneg, hp, hj]
  have HFL := Lib.hid hfl
  have HKL : Hid (((L.take k).modify p (flipB j)).length = k) := Lib.hid (by rw [List.length_modify]; exact HTL.out)
  have hfx := flip_wrap x j hj8
  have HFX := Lib.hid hfx
  clear h hod hol hnD hnL hbad hk hf hfk hf1 hfl hx hfx hp hj hneg
  go_enter Tryz.func15, Tryz.ntmps15
  go_wp2_with (first
  | ((with_reducible refine at_dst 39 ?_); refine wpList_slice rfl _ _ _ _ _ rfl (.slice al nL cl) (.slice al k cl) rfl (run_tkB _ al nL cl k hkL hcap) ?_)
  | ((with_reducible refine at_dst 40 ?_); refine wpList_append_slAt rfl _ _ 30 rfl w.heap.size einfo_Byte (fun _ => rfl) (by decide) encByte_one (by decide) _ [] rfl (lit_bytes (W := w) (Nat.le_refl _)) ⟨al, cl, L.take k⟩ (by show _ = Value.slice _ _ _; rw [HTL.out]; rfl) HTO.out (by simp only [HTL.out, List.length_nil]; omega) (by simp) ?_; intro v1 w1 ho1 hg1 hat1; rw [List.nil_append] at ho1; have HB := Lib.hid (hba.trans (Below.appended (lit_bytes (W := w) (Nat.le_refl _)) hg1 (Nat.le_refl _) (by simp))); have HK : Hid (OwnB w1 w.heap.size v1 (L.take k)) := Lib.hid ho1; obtain ⟨a1, c1, rfl, hko⟩ := OwnB.sl3 (l := L.take k) ho1 HTL.out (by omega); have HKO := Lib.hid hko; clear ho1 hg1 hat1 hko))
  have hdn : Below w1.heap.size w1 w1.drew := ⟨rfl, rfl, rfl, Nat.le_refl _, fun _ _ => rfl⟩
  have HKD := Lib.hid (HK.out.belowAll hdn)
  obtain ⟨g, cap', cur, hv', hbx, hcz, hbg, hstore⟩ := own_byte HKD.out (by rw [HTL.out]; omega)
  simp only [Value.slice.injEq] at hv'
  obtain ⟨rfl, -, -⟩ := hv'
  have hgl := hbx.lt
  have hcx : w1.drew.cell? ⟨g, p, none⟩ = some (.int .u8 x.toNat) := by
   have h := (HKD.out.slOf (fun _ => rfl) okByte (fun _ => False) (fun _ _ => trivial) (fun _ _ h => h) (by rw [HTL.out]; omega)).cell g 0 rfl p x HX.out 0 (by decide)
   simpa [encByte] using h
  have hfit : p + 1 ≤ cur.size := by rw [HTL.out] at hcz; omega
  have HST := Lib.hid hstore
  clear hstore
  refine wp_region_mark 13 [(0, none), (1, none), (2, none), (3, none), (4, none), (5, none), (6, none), (8, none), (9, none), (10, none), (7, some true), (11, none), (12, none), (13, some false)] rfl (by kernel_rfl) (by kernel_rfl) (fun d _ _ _ _ h => by cases d <;> exact h) ?_
  iterate 10 (refine wpC_pure rfl rfl (fun W => by go_simp; with_reducible rfl) ?_; simp only [pTs, pTn, pTz, pTc])
  refine wpC_fix (v := .int .u8 x.toNat) rfl rfl (fun W hW => by have e := (hW.cell (p := ⟨g, p, none⟩) hgl).trans hcx; go_simp) ?_; simp only [pTs, pTn, pTz, pTc]
  iterate 2 (refine wpC_pure rfl rfl (fun W => by go_simp; with_reducible rfl) ?_; simp only [pTs, pTn, pTz, pTc])
  refine wpC_mark rfl rfl (fun K hK => ?_)
  refine wp_store_box hbx _ _ _ rfl rfl (.int .u8 ((flipB j x).toNat : Int)) (congrArg (Value.int .u8) HFX.out) (by kernel_rfl) (Nat.ble_eq_true_of_le hfit) (by simp [Value.cells, Value.oneCell']) ?_
  intro wS hbS hTS
  refine hK _ _ ?_
  clear hK K
  try simp only [pTs, pTn, pTz, pTc]
  simp only [wpC]
  have hJM : (L.take k).set p (flipB j x) = (L.take k).modify p (flipB j) := (modify_set (flipB j) HX.out).symm
  have HKS : Hid (OwnB wS w.heap.size (.slice (some ⟨g, 0, none⟩) k c1) ((L.take k).modify p (flipB j))) := Lib.hid (by have h := HST.out wS p (flipB j x) (by rw [HTL.out]; exact hpk) hbS; rw [hJM] at h; exact h)
  obtain ⟨aS, cS, heS, hkoS⟩ := OwnB.sl3 HKS.out HKL.out (by omega)
  simp only [Value.slice.injEq] at heS
  obtain ⟨rfl, -, rfl⟩ := heS
  have HKOS := Lib.hid hkoS
  have HBS : Hid (Below w.heap.size w wS) := Lib.hid ((HB.out.trans (hdn.mono HB.out.size)).trans (hTS.below hbg))
  have hcl : (wS.alloc (.cells #[] 5)).cell? ⟨b, 0, none⟩ = some (.slice ad nD cd) := (((H2.out.box.below HBS.out H2.out.box.lt).alloc _).cell 0).trans rfl
  have hbt : Below wS.heap.size wS (wS.alloc (.cells #[] 5)) := (Below.refl _ _).alloc (Nat.le_refl _) _
  clear hJM hTS hbS hkoS hcx hgl hfit hcz hbg hbx
  go_wp2_with (first
  | ((with_reducible refine at_dst 62 ?_); refine wpList_append_slAt rfl _ _ 30 rfl wS.heap.size einfo_Byte (fun _ => rfl) (by decide) encByte_one (by decide) _ [] rfl (lit_bytes (W := wS) (Nat.le_refl _)) ⟨ad, cd, D⟩ (by show _ = Value.slice _ _ _; rw [HD.out]; rfl) (okB HE.out (HBS.out.trans (hbt.mono HBS.out.size))) (by simp only [HD.out, List.length_nil]; omega) (by simp) ?_; intro v5 w5 ho5 hg5 hat5; rw [List.nil_append] at ho5; have hB5 := Lib.hid (hbt.trans (Below.appended (lit_bytes (W := wS) (Nat.le_refl _)) hg5 (Nat.le_refl _) (by simp))); have HO5 := Lib.hid ho5; clear ho5 hg5 hat5)
  | ((with_reducible refine at_dst 64 ?_); refine wpList_append_slAt rfl _ _ 30 rfl wS.heap.size einfo_Byte (fun _ => rfl) (by decide) encByte_one (by decide) v5 D rfl HO5.out ⟨(some ⟨g, 0, none⟩), c1, (L.take k).modify p (flipB j)⟩ (by show _ = Value.slice _ _ _; rw [HKL.out]; rfl) (okB HKOS.out hB5.out) (by simp only [HD.out, HKL.out]; omega) hB5.out.size ?_; intro v6 w6 ho6 hg6 hat6; obtain ⟨a6, n6, c6, rfl⟩ := OwnB.any ho6; have hB6 := Lib.hid (HBS.out.trans ((hB5.out.trans (Below.appended HO5.out hg6 (Nat.le_refl _) hB5.out.size)).mono HBS.out.size)); have HO6 := Lib.hid (ho6.base_le HBS.out.size); have hbx := H2.out.box.below hB6.out H2.out.box.lt; clear ho6 hg6 hat6)
  | ((with_reducible refine at_storeK 66 ?_); refine wpList_store_box hbx rfl _ _ _ rfl rfl (.slice a6 n6 c6) rfl (by kernel_rfl) rfl (one_slB _ _ _) ?_; intro w7 hb7 hT7; have H7 := Lib.hid (H2.out.freshD hB6.out HO6.out (hb7.eqv (by simp [splice, Value.cells])) hT7); clear hb7 hT7)
  | ((with_reducible refine at_storeK 69 ?_); refine wpList_store_box H7.out.1.box rfl _ _ _ rfl rfl (.slice none 0 0) rfl (by kernel_rfl) rfl (one_slB _ _ _) ?_; intro w8 hb8 hT8))
  go_ret
  have h8 := H7.out.1.set (hb8.eqv (by simp [splice, Value.cells])) hT8 H7.out.1.dur (OwnL.nil _ _ _ _ _) (.inl rfl) (.inr rfl)
  rw [HFL.out]
  exact ⟨rfl, _, h8.1, H7.out.2.trans h8.2⟩
end Go.Proofs.YtnmgfnpphglphaaGreat
end
