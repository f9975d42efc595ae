/-
  Parts of bytes: s[l:h]; and journals' scans, step by step.
-/
import Derived.Test.YtjmgnnpddbganaaGreatBytes0
set_option maxHeartbeats 16000000
set_option maxRecDepth 100000
set_option linter.unusedVariables false
set_option linter.unusedSimpArgs false
namespace Go.Proofs.YtjmgnnpddbganaaGreat
open Go.RowKit
def Sl.sub (s : Sl UInt8) (l h : Nat) : Sl UInt8 := ⟨if s.cap = l then s.a else s.a.map (·.add (l * 1)), s.cap - l, (s.val.drop l).take (h - l)⟩
theorem sub_length (s : Sl UInt8) (l h : Nat) (hh : h ≤ s.val.length) : (s.sub l h).val.length = h - l := by
 simp only [Sl.sub, List.length_take, List.length_drop]; omega
theorem sub_v (s : Sl UInt8) (l h : Nat) (hh : h ≤ s.val.length) : (s.sub l h).v = sliced s.a l h s.cap 1 := by
 unfold Sl.v sliced
 rw [sub_length s l h hh]; rfl
theorem Sl.OK.sub {D : Nat → Prop} {w : World} {s : Sl UInt8} (hs : s.OK 1 encByte okByte D w) {l h : Nat} (hl : l ≤ h) (hh : h ≤ s.val.length) : (s.sub l h).OK 1 encByte okByte D w := by
 have hle := hs.le
 have hlen := sub_length s l h hh
 have hat : ∀ p, (s.sub l h).a = some p → 0 < (s.sub l h).val.length → ∃ b o, s.a = some ⟨b, o, none⟩ ∧ p = ⟨b, o + l, none⟩ ∧ ¬ D b ∧ b < w.heap.size := by
  intro p hp hpos
  rw [hlen] at hpos
  have hne : ¬ s.cap = l := by omega
  simp only [Sl.sub, if_neg hne] at hp
  obtain ⟨q, hq, rfl⟩ := Option.map_eq_some_iff.1 hp
  obtain ⟨h1, h2, h3⟩ := hs.place q hq (by omega)
  obtain ⟨b, o, sp⟩ := q
  simp only at h1 h2 h3
  subst h1
  refine ⟨b, o, hq, ?_, h2, h3⟩
  unfold Addr.add
  split <;> simp_all
 refine ⟨?_, ?_, fun hn => ?_, fun p hp hpos => ?_, fun _ _ => trivial, fun b o ha i x hi j hj => ?_⟩
 ·rw [hlen]; simp only [Sl.sub]; omega
 ·rw [hlen]; have := hs.room; omega
 ·have ha : s.a = none := by
   simp only [Sl.sub] at hn
   split at hn
   ·exact hn
   ·simpa using hn
  obtain ⟨h1, h2⟩ := hs.isNil ha
  exact ⟨by simp [Sl.sub, h1], by simp [Sl.sub, h2]⟩
 ·obtain ⟨b, o, _, rfl, h2, h3⟩ := hat p hp hpos
  exact ⟨rfl, h2, h3⟩
 ·obtain ⟨b', o', hq, he, _, _⟩ := hat _ ha (pos_of hi)
  simp only [Addr.mk.injEq, and_true] at he
  obtain ⟨rfl, rfl⟩ := he
  have hil : i < h - l := by rw [← hlen]; exact (List.getElem?_eq_some_iff.1 hi).1
  have hi2 : s.val[l + i]? = some x := by
   simp only [Sl.sub] at hi
   rw [List.getElem?_take_of_lt hil, List.getElem?_drop] at hi
   exact hi
  have := hs.cell b o' hq (l + i) x hi2 j hj
  rw [show o' + l + i * 1 + j = o' + (l + i) * 1 + j by omega]
  exact this
def okSl (D : Nat → Prop) (w : World) (s : Sl UInt8) : Prop := s.OK 1 encByte okByte D w
theorem okSl.ext {D : Nat → Prop} {w w' : World} {s : Sl UInt8} (h : okSl D w s) (hx : Ext D w w') : okSl D w' s := Sl.OK.ext (w := w) (w' := w') (fun _ h => h) h hx
theorem okSl.mono {D D' : Nat → Prop} {w : World} {s : Sl UInt8} (h : okSl D w s) (hx : ∀ k, D' k → D k) : okSl D' w s := Sl.OK.mono (D := D) (D' := D') (w := w) (fun _ h => h) h hx
theorem sub_drop (s : Sl UInt8) (l : Nat) : (s.sub l s.val.length).val = s.val.drop l := by
 simp only [Sl.sub]; rw [List.take_of_length_le]; rw [List.length_drop]; omega
theorem sub_take (s : Sl UInt8) (h : Nat) : (s.sub 0 h).val = s.val.take h := by simp [Sl.sub]
theorem sub_mid (s : Sl UInt8) (l n : Nat) : (s.sub l (l + n)).val = (s.val.drop l).take n := by simp [Sl.sub]
theorem okSl.re {D D' : Nat → Prop} {w w' : World} {s : Sl UInt8} (h : okSl D w s) (hx : Ext D w w') (hD : ∀ k, ¬ D k → k < w.heap.size → ¬ D' k) : okSl D' w' s := by
 have h2 := okSl.ext h hx
 exact ⟨h2.le, h2.room, h2.isNil, fun p hp hl => let ⟨a, b, c⟩ := h.place p hp hl; ⟨a, hD _ b c, (h2.place p hp hl).2.2⟩, h2.elem, h2.cell⟩
section
theorem size_byte (w : World) : (sizeOf (Tryz.prog.elem 24)).run Tryz.prog w = .ok 1 w := by
 have e : Tryz.prog.elem 24 = 5 := by kernel_rfl
 have i : (Tryz.prog.info? 5).map (·.size) = some 1 := by kernel_rfl
 rw [e]
 cases h : Tryz.prog.info? 5 with
 | none => rw [h] at i; cases i
 | some j =>
  rw [h] at i
  have i' : j.size = 1 := by simpa using i
  simp [sizeOf, typeInfo, h, i']
theorem und_bytes : Tryz.prog.underlying 24 = some (.slice (Tryz.prog.elem 24)) := by kernel_rfl
theorem run_sub_l (w : World) (s : Sl UInt8) (k : Nat) (hk : k ≤ s.val.length) : (Instr.sliceAt 24 (.slice s.a s.val.length s.cap) (some (.int .i64 k)) none none).run Tryz.prog w = .ok (s.sub k s.val.length).v w := by
 rw [run_sliceAt_slice _ _ _ _ _ _ und_bytes, run_slice_l _ _ _ _ _ und_bytes .i64 (k : Int) (by omega) (by omega), size_byte, sub_v s _ _ (Nat.le_refl _)]
 rfl
theorem run_sub_h (w : World) (s : Sl UInt8) (k : Nat) (hk : k ≤ s.val.length) (hc : s.val.length ≤ s.cap) : (Instr.sliceAt 24 (.slice s.a s.val.length s.cap) none (some (.int .i64 k)) none).run Tryz.prog w = .ok (s.sub 0 k).v w := by
 rw [run_sliceAt_slice _ _ _ _ _ _ und_bytes, run_slice_h _ _ _ _ _ und_bytes .i64 (k : Int) (by omega) (by omega), size_byte, sub_v s _ _ hk]
 rfl
theorem run_sub_lh (w : World) (s : Sl UInt8) (l h : Nat) (hl : l ≤ h) (hk : h ≤ s.val.length) (hc : s.val.length ≤ s.cap) : (Instr.sliceAt 24 (.slice s.a s.val.length s.cap) (some (.int .i64 l)) (some (.int .i64 h)) none).run Tryz.prog w = .ok (s.sub l h).v w := by
 rw [run_sliceAt_slice _ _ _ _ _ _ und_bytes, run_slice_lh _ _ _ _ _ und_bytes .i64 .i64 (l : Int) (h : Int) (by omega) (by omega) (by omega), size_byte, sub_v s _ _ hk]
 rfl
theorem exec_slice {P : Program} {W : World} {ρ : Operand → Value} {dst : Option Tmp} {t : TypeId} {x : Operand} {lo hi mx : Option Operand} {ty : TypeId} {pos : String} {af : Array Edge} {g : Option (Nat × Bool)} {r : Value}
  (hr : (Instr.sliceAt t (ρ x) (lo.map ρ) (hi.map ρ) (mx.map ρ)).run P W = .ok r W) : (execOp ρ ⟨dst, .slice t x lo hi mx, ty, pos, af, g⟩).run P W = .ok (.value r) W := by
 unfold execOp
 simp [hr, Result.andThen]
theorem wpList_slice {P : Program} {w : World} {ops : Array Oper} {rest : List Oper} {o : Oper} {a : Act} {Q : Exit → Act → World → Prop} (hgd : o.guard = none) (t : TypeId) (x : Operand) (lo hi mx : Option Operand) (ho : o.op = .slice t x lo hi mx) (v r : Value)
  (hx : a.eval x = v) (hr : (Instr.sliceAt t v (lo.map a.eval) (hi.map a.eval) (mx.map a.eval)).run P w = .ok r w) (h : wpList P ops Q rest (a.put o.dst r) w) : wpList P ops Q (o :: rest) a w :=
 wpList_plain hgd fun K hK => by
  unfold Oper.wp execOp
  simp only [ho, hx, Sem.run_bind, hr, Result.andThen_ok, Sem.run_pure]
  exact hK _ _ h
end
theorem scanA_none {k : Nat} {b : List UInt8} (h : oneA b = none) : scanA k b = ([], 0) := by
 cases k with
 | zero => rfl
 | succ k => simp [scanA, h]
theorem one_length {b x : List UInt8} (h : oneA b = some x) : x.length + 6 ≤ b.length ∧ x.length ≤ 8192 ∧ longA b = x.length := by
 unfold oneA at h
 split at h
 ·exact absurd h (by simp)
 split at h
 ·exact absurd h (by simp)
 split at h
 ·exact absurd h (by simp)
 split at h
 ·exact absurd h (by simp)
 split at h
 ·exact absurd h (by simp)
 ·simp only [Option.some.injEq] at h
  subst h
  rw [List.length_take, List.length_drop]
  omega
structure ScanAt (val : List UInt8) (at_ : Nat) (l : List (List UInt8)) : Prop where
 le : at_ ≤ val.length
 size : l.length + at_ ≤ 2 * at_
 is : scanA (val.length + 1) val = (l ++ (scanA (val.length + 1 - l.length) (val.drop at_)).1, at_ + (scanA (val.length + 1 - l.length) (val.drop at_)).2)
theorem ScanAt.start (val : List UInt8) : ScanAt val 0 [] := ⟨Nat.zero_le _, by simp, by simp⟩
theorem ScanAt.done {val : List UInt8} {p : Nat} {l : List (List UInt8)} (h : ScanAt val p l) (hn : oneA (val.drop p) = none) : scanA (val.length + 1) val = (l, p) := by
 have h1 := h.is; rw [scanA_none hn] at h1; simpa using h1
theorem ScanAt.next {val x : List UInt8} {p : Nat} {l : List (List UInt8)} (h : ScanAt val p l) (hn : oneA (val.drop p) = some x) : ScanAt val (p + (x.length + 6)) (l ++ [x]) := by
 have h1 := one_length hn
 rw [List.length_drop] at h1
 have h2 := h.le
 have h3 := h.size
 refine ⟨by omega, by simp only [List.length_append, List.length_singleton]; omega, ?_⟩
 obtain ⟨k, hk⟩ : ∃ k, val.length + 1 - l.length = k + 1 := ⟨val.length - l.length, by omega⟩
 have hk2 : val.length + 1 - (l ++ [x]).length = k := by simp only [List.length_append, List.length_singleton]; omega
 have h4 := h.is
 have h5 : scanA (k + 1) (val.drop p) = (x :: (scanA k ((val.drop p).drop (x.length + 6))).1, x.length + 6 + (scanA k ((val.drop p).drop (x.length + 6))).2) := by rw [scanA, hn]
 rw [hk, h5, List.drop_drop] at h4
 rw [hk2, h4]
 simp only [List.append_assoc, List.cons_append, List.nil_append, Nat.add_assoc]
theorem long_drop (l : List UInt8) (h : 2 ≤ l.length) : ∃ x y, l[0]? = some x ∧ l[1]? = some y ∧ longA l = x.toNat + 256 * y.toNat := by
 match l, h with
 | x :: y :: l, _ => exact ⟨x, y, rfl, rfl, rfl⟩
end Go.Proofs.YtjmgnnpddbganaaGreat
