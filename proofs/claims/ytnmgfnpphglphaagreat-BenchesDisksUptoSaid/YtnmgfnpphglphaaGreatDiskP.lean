/-
  A disk in memory: two lists of bytes of its own; what changes, and what stays, where one acts.
-/
import Derived.Test.YtnmgfnpphglphaaGreatTornP
import Derived.Test.YtnmgfnpphglphaaGreatAppR
import Derived.Test.YtnmgfnpphglphaaGreatBox
import Derived.Test.YtnmgfnpphglphaaGreatCopyItem
import Derived.Test.YtnmgfnpphglphaaGreatSub
set_option maxHeartbeats 16000000
set_option maxRecDepth 100000
set_option linter.unusedVariables false
set_option linter.unusedSimpArgs false
namespace Go.Proofs.YtnmgfnpphglphaaGreat
open Go.RowKit
abbrev OwnB (w : World) (B : Nat) (v : Value) (l : List UInt8) : Prop := OwnL encByte 1 w B 5 v l
def mine (b : Nat) (vd vl : Value) (k : Nat) : Prop := k = b ∨ vd.ownBlock = some k ∨ vl.ownBlock = some k
structure DiskAt (T : TypeId) (B : Nat) (w : World) (b : Nat) (vd vl : Value) (D L : List UInt8) : Prop where
 box : BoxAt w b T #[vd, vl]
 dur : OwnB w B vd D
 pen : OwnB w B vl L
 nd : vd.ownBlock ≠ some b
 nl : vl.ownBlock ≠ some b
 apart : ∀ g, vd.ownBlock = some g → vl.ownBlock ≠ some g
 low : B ≤ b
structure Moved (b : Nat) (vd vl : Value) (w w' : World) (vd' vl' : Value) : Prop where
 any : Below 0 w w'
 keep : ∀ k, k < w.heap.size → ¬ mine b vd vl k → w'.heap[k]? = w.heap[k]?
 new : ∀ k, mine b vd' vl' k → mine b vd vl k ∨ w.heap.size ≤ k
section
variable {T : TypeId} {B b : Nat} {w w' w1 w2 : World} {vd vl vd' vl' vd2 vl2 : Value} {D L D' L' : List UInt8}
theorem DiskAt.mine (h : DiskAt T B w b vd vl D L) {k : Nat} (hk : mine b vd vl k) : B ≤ k ∧ k < w.heap.size := by
 rcases hk with rfl | hk | hk
 ·exact ⟨h.low, h.box.lt⟩
 ·exact h.dur.block k hk
 ·exact h.pen.block k hk
theorem DiskAt.kept (h : DiskAt T B w b vd vl D L) (hk : ∀ k, Go.Proofs.YtnmgfnpphglphaaGreat.mine b vd vl k → w'.heap[k]? = w.heap[k]?) : DiskAt T B w' b vd vl D L :=
 ⟨h.box.of_block (hk b (.inl rfl)), h.dur.kept fun g hg => hk g (.inr (.inl hg)), h.pen.kept fun g hg => hk g (.inr (.inr hg)), h.nd, h.nl, h.apart, h.low⟩
theorem DiskAt.belowAll (h : DiskAt T B w b vd vl D L) (hb : Below w.heap.size w w') : DiskAt T B w' b vd vl D L := h.kept fun k hk => hb.block k (h.mine hk).2
theorem Moved.refl (b : Nat) (vd vl : Value) (w : World) : Moved b vd vl w w vd vl := ⟨Below.refl _ _, fun _ _ _ => rfl, fun _ h => .inl h⟩
theorem Moved.of_below (hb : Below w.heap.size w w') : Moved b vd vl w w' vd vl := ⟨hb.mono (Nat.zero_le _), fun k hk _ => hb.block k hk, fun _ h => .inl h⟩
theorem Moved.trans (h : Moved b vd vl w w1 vd' vl') (k : Moved b vd' vl' w1 w2 vd2 vl2) : Moved b vd vl w w2 vd2 vl2 := by
 refine ⟨h.any.trans k.any, fun i hi hn => ?_, fun i hi => ?_⟩
 ·rw [k.keep i (Nat.lt_of_lt_of_le hi h.any.size) fun hm => ?_, h.keep i hi hn]
  rcases h.new i hm with h1 | h1
  ·exact hn h1
  ·omega
 ·rcases k.new i hi with h1 | h1
  ·exact h.new i h1
  ·exact .inr (Nat.le_trans h.any.size h1)
theorem Moved.below (h : Moved b vd vl w w' vd' vl') (hd : DiskAt T B w b vd vl D L) : Below B w w' :=
 ⟨h.any.os, h.any.tape, h.any.output, h.any.size, fun k hk => h.keep k (Nat.lt_of_lt_of_le hk (Nat.le_trans hd.low (Nat.le_of_lt hd.box.lt))) fun hm => by have := (hd.mine hm).1; omega⟩
theorem DiskAt.grewL (h : DiskAt T B w b vd vl D L) (ho : OwnB w1 B vl' L') (hg : w.grownBy w1 vl.ownBlock) (hat : vl'.ownBlock = vl.ownBlock ∨ vl'.ownBlock = some w.heap.size)
  (hb : BoxAt w2 b T #[vd, vl']) (hT : Turn b w1 w2) : DiskAt T B w2 b vd vl' D L' ∧ Moved b vd vl w w2 vd vl' := by
 have hb0 := h.box.lt
 have hnl : vl'.ownBlock ≠ some b := by
  rcases hat with e | e <;> rw [e]
  ·exact h.nl
  ·intro e'; have := Option.some.inj e'; omega
 have hdg : ∀ g, vd.ownBlock = some g → g < w.heap.size ∧ some g ≠ vl.ownBlock := fun g hgd => ⟨(h.dur.block g hgd).2, fun e => h.apart g hgd e.symm⟩
 refine ⟨⟨hb, ?_, ho.turn hT hnl, h.nd, hnl, fun g hgd e => ?_, h.low⟩, ⟨⟨hT.os.trans hg.os, hT.tape.trans hg.tape, hT.output.trans hg.output, by rw [hT.size]; exact hg.size, fun k hk => absurd hk (Nat.not_lt_zero _)⟩, fun k hk hn => ?_, fun k hk => ?_⟩⟩
 ·exact (h.dur.kept fun g hgd => hg.block g (hdg g hgd).1 (hdg g hgd).2).turn hT h.nd
 ·rcases hat with e' | e'
  ·exact (hdg g hgd).2 (e ▸ e')
  ·have := (hdg g hgd).1
   rw [e'] at e; have := Option.some.inj e; omega
 ·rw [hT.block k fun e => hn (.inl e)]
  exact hg.block k hk fun e => hn (.inr (.inr e.symm))
 ·rcases hk with hk | hk | hk
  ·exact .inl (.inl hk)
  ·exact .inl (.inr (.inl hk))
  ·rcases hat with e | e
   ·exact .inl (.inr (.inr (e ▸ hk)))
   ·rw [e] at hk; exact .inr (Nat.le_of_eq (Option.some.inj hk))
theorem DiskAt.grewD (h : DiskAt T B w b vd vl D L) (ho : OwnB w1 B vd' D') (hg : w.grownBy w1 vd.ownBlock) (hat : vd'.ownBlock = vd.ownBlock ∨ vd'.ownBlock = some w.heap.size)
  (hb : BoxAt w2 b T #[vd', vl]) (hT : Turn b w1 w2) : DiskAt T B w2 b vd' vl D' L ∧ Moved b vd vl w w2 vd' vl := by
 have hb0 := h.box.lt
 have hnd : vd'.ownBlock ≠ some b := by
  rcases hat with e | e <;> rw [e]
  ·exact h.nd
  ·intro e'; have := Option.some.inj e'; omega
 have hlg : ∀ g, vl.ownBlock = some g → g < w.heap.size ∧ some g ≠ vd.ownBlock := fun g hgl => ⟨(h.pen.block g hgl).2, fun e => h.apart g e.symm hgl⟩
 refine ⟨⟨hb, ho.turn hT hnd, ?_, hnd, h.nl, fun g hgd e => ?_, h.low⟩, ⟨⟨hT.os.trans hg.os, hT.tape.trans hg.tape, hT.output.trans hg.output, by rw [hT.size]; exact hg.size, fun k hk => absurd hk (Nat.not_lt_zero _)⟩, fun k hk hn => ?_, fun k hk => ?_⟩⟩
 ·exact (h.pen.kept fun g hgl => hg.block g (hlg g hgl).1 (hlg g hgl).2).turn hT h.nl
 ·rcases hat with e' | e'
  ·exact (hlg g e).2 (hgd ▸ e')
  ·have := (hlg g e).1
   rw [e'] at hgd; have := Option.some.inj hgd; omega
 ·rw [hT.block k fun e => hn (.inl e)]
  exact hg.block k hk fun e => hn (.inr (.inl e.symm))
 ·rcases hk with hk | hk | hk
  ·exact .inl (.inl hk)
  ·rcases hat with e | e
   ·exact .inl (.inr (.inl (e ▸ hk)))
   ·rw [e] at hk; exact .inr (Nat.le_of_eq (Option.some.inj hk))
  ·exact .inl (.inr (.inr hk))
theorem DiskAt.set (h : DiskAt T B w b vd vl D L) (hb : BoxAt w2 b T #[vd', vl']) (hT : Turn b w w2) (hd : OwnB w B vd' D') (hl : OwnB w B vl' L')
  (ed : vd'.ownBlock = vd.ownBlock ∨ vd'.ownBlock = none) (el : vl'.ownBlock = vl.ownBlock ∨ vl'.ownBlock = none) : DiskAt T B w2 b vd' vl' D' L' ∧ Moved b vd vl w w2 vd' vl' := by
 have hnd : vd'.ownBlock ≠ some b := fun e' => by rcases ed with e | e <;> rw [e] at e'; exact h.nd e'; cases e'
 have hnl : vl'.ownBlock ≠ some b := fun e' => by rcases el with e | e <;> rw [e] at e'; exact h.nl e'; cases e'
 refine ⟨⟨hb, hd.turn hT hnd, hl.turn hT hnl, hnd, hnl, fun g h1 h2 => ?_, h.low⟩, ⟨⟨hT.os, hT.tape, hT.output, Nat.le_of_eq hT.size.symm, fun k hk => absurd hk (Nat.not_lt_zero _)⟩, fun k hk hn => hT.block k fun e => hn (.inl e), fun k hk => .inl ?_⟩⟩
 ·rcases ed with e | e <;> rw [e] at h1
  ·rcases el with e' | e' <;> rw [e'] at h2
   ·exact h.apart g h1 h2
   ·cases h2
  ·cases h1
 ·rcases hk with hk | hk | hk
  ·exact .inl hk
  ·rcases ed with e | e <;> rw [e] at hk
   ·exact .inr (.inl hk)
   ·cases hk
  ·rcases el with e | e <;> rw [e] at hk
   ·exact .inr (.inr hk)
   ·cases hk
theorem DiskAt.setL (h : DiskAt T B w b vd vl D L) {g : Nat} (hg : vl.ownBlock = some g) (hT : Turn g w w2) (hl : OwnB w2 B vl L') : DiskAt T B w2 b vd vl D L' ∧ Moved b vd vl w w2 vd vl := by
 have hgb : g ≠ b := fun e => h.nl (e ▸ hg)
 refine ⟨⟨h.box.turn hT (Ne.symm hgb), h.dur.turn hT fun e => h.apart g e hg, hl, h.nd, h.nl, h.apart, h.low⟩, ⟨⟨hT.os, hT.tape, hT.output, Nat.le_of_eq hT.size.symm, fun k hk => absurd hk (Nat.not_lt_zero _)⟩, fun k hk hn => hT.block k fun e => hn (.inr (.inr (e ▸ hg))), fun k hk => .inl hk⟩⟩
theorem DiskAt.new (hB : B ≤ w.heap.size) : DiskAt T B (w.alloc (.cells #[.slice none 0 0, .slice none 0 0] T)) w.heap.size (.slice none 0 0) (.slice none 0 0) [] [] :=
 ⟨BoxAt.new _ _ _, OwnL.nil _ _ _ _ _, OwnL.nil _ _ _ _ _, by simp [Value.ownBlock], by simp [Value.ownBlock], fun g hg => by simp [Value.ownBlock] at hg, hB⟩
end
theorem OwnB.take {w : World} {B : Nat} {a : Option Addr} {n c : Nat} {l : List UInt8} (h : OwnB w B (.slice a n c) l) {k : Nat} (hk : k ≤ l.length) : OwnB w B (.slice a k c) (l.take k) := by
 rcases h.2 with ⟨h0, h1⟩ | ⟨g, cap, cur, h0, hb, hh, hn, hm, hc, ht⟩
 ·injection h0 with e1 e2 e3
  subst e1 e3
  obtain rfl : k = 0 := by omega
  rw [List.take_zero]
  exact OwnL.nil _ _ _ _ _
 ·injection h0 with e1 e2 e3
  subst e1 e3
  refine ⟨by rw [flat_length (enc := encByte) (sz := 1) (fun _ => rfl)], .inr ⟨g, c, cur, by rw [List.length_take, Nat.min_eq_left hk], hb, hh, by rw [List.length_take]; omega, hm, hc, ?_⟩⟩
  rw [List.length_take, Nat.min_eq_left hk]
  rw [flat_bytes] at ht ⊢
  rw [List.map_take, ← ht, List.take_take]
  congr 1
  omega
theorem lit_bytes {W : World} {base : Nat} (hb : base ≤ W.heap.size) : OwnB (W.alloc (.cells #[] 5)) base (.slice (some ⟨W.heap.size, 0, none⟩) 0 0) [] :=
 ⟨rfl, .inr ⟨W.heap.size, 0, #[], rfl, hb, heap_alloc_new W _, Nat.le_refl _, Nat.zero_le _, rfl, rfl⟩⟩
theorem OwnB.sl' {w : World} {B : Nat} {v : Value} {l : List UInt8} (h : OwnB w B v l) (hl : l.length ≤ 4294967296) : ∃ a c, v = .slice a l.length c ∧ Sl.OK 1 encByte okByte (fun _ => False) w ⟨a, c, l⟩ := by
 obtain ⟨⟨a, c, val⟩, rfl, rfl, h2, _⟩ := h.sl (fun _ => rfl) okByte (fun _ => False) (fun _ _ => trivial) (fun _ _ h => h) hl
 exact ⟨a, c, rfl, h2⟩
theorem OwnB.any {w : World} {B : Nat} {v : Value} {l : List UInt8} (h : OwnB w B v l) : ∃ a n c, v = .slice a n c := by
 obtain ⟨a, c, rfl⟩ := h.shape
 exact ⟨_, _, _, rfl⟩
theorem run_tkB (w : World) (a : Option Addr) (n c k : Nat) (hk : k ≤ n) (hc : n ≤ c) : (Instr.sliceAt 30 (.slice a n c) none (some (.int .i64 k)) none).run Tryz.prog w = .ok (.slice a k c) w := by
 rw [run_sliceAt_slice _ _ _ _ _ _ und_bytes, run_slice_h _ _ _ _ _ und_bytes .i64 (k : Int) (by omega) (by omega), size_byte]
 simp only [Result.andThen, sliced, Int.toNat_natCast, Nat.sub_zero, add_zero_addr, ite_self]
theorem tdiv_8 {x : Int} (h : 0 ≤ x) : x.tdiv 8 = ((x.toNat / 8 : Nat) : Int) := by
 obtain ⟨f, rfl⟩ := Int.eq_ofNat_of_zero_le h
 rfl
theorem tmod_8 {x : Int} (h : 0 ≤ x) : x.tmod 8 = ((x.toNat % 8 : Nat) : Int) := by
 obtain ⟨f, rfl⟩ := Int.eq_ofNat_of_zero_le h
 rfl
def flipAt (L : List UInt8) (flip : Int) : List UInt8 := if flip < 0 then L else L.modify (flip.toNat / 8) (flipB (flip.toNat % 8))
def badCrash (L : List UInt8) (keep flip : Int) : Bool := decide (keep < 0 ∨ (L.length : Int) < keep ∨ flip < -1 ∨ 8 * keep ≤ flip)
theorem flipAt_length (L : List UInt8) (flip : Int) : (flipAt L flip).length = L.length := by unfold flipAt; split <;> simp
end Go.Proofs.YtnmgfnpphglphaaGreat
