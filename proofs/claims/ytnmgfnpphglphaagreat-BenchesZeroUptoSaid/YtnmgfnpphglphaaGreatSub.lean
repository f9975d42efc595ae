/-
  Parts of bytes: s[l:h]; and journals' scans, step by step.
-/
import Derived.Test.YtnmgfnpphglphaaGreatBytes0
set_option maxHeartbeats 16000000
set_option maxRecDepth 100000
set_option linter.unusedVariables false
set_option linter.unusedSimpArgs false
namespace Go.Proofs.YtnmgfnpphglphaaGreat
open Go.RowKit
def okSl (D : Nat → Prop) (w : World) (s : Sl UInt8) : Prop := s.OK 1 encByte okByte D w
theorem okSl.ext {D : Nat → Prop} {w w' : World} {s : Sl UInt8} (h : okSl D w s) (hx : Ext D w w') : okSl D w' s := Sl.OK.ext (w := w) (w' := w') (fun _ h => h) h hx
theorem okSl.mono {D D' : Nat → Prop} {w : World} {s : Sl UInt8} (h : okSl D w s) (hx : ∀ k, D' k → D k) : okSl D' w s := Sl.OK.mono (D := D) (D' := D') (w := w) (fun _ h => h) h hx
section
theorem size_byte (w : World) : (sizeOf (Tryz.prog.elem 30)).run Tryz.prog w = .ok 1 w := by
 have e : Tryz.prog.elem 30 = 5 := by kernel_rfl
 have i : (Tryz.prog.info? 5).map (·.size) = some 1 := by kernel_rfl
 rw [e]
 cases h : Tryz.prog.info? 5 with
 | none => rw [h] at i; cases i
 | some j =>
  rw [h] at i
  have i' : j.size = 1 := by simpa using i
  simp [sizeOf, typeInfo, h, i']
theorem und_bytes : Tryz.prog.underlying 30 = some (.slice (Tryz.prog.elem 30)) := by kernel_rfl
theorem wpList_slice {P : Program} {w : World} {ops : Array Oper} {rest : List Oper} {o : Oper} {a : Act} {Q : Exit → Act → World → Prop} (hgd : o.guard = none) (t : TypeId) (x : Operand) (lo hi mx : Option Operand) (ho : o.op = .slice t x lo hi mx) (v r : Value)
  (hx : a.eval x = v) (hr : (Instr.sliceAt t v (lo.map a.eval) (hi.map a.eval) (mx.map a.eval)).run P w = .ok r w) (h : wpList P ops Q rest (a.put o.dst r) w) : wpList P ops Q (o :: rest) a w :=
 wpList_plain hgd fun K hK => by
  unfold Oper.wp execOp
  simp only [ho, hx, Sem.run_bind, hr, Result.andThen_ok, Sem.run_pure]
  exact hK _ _ h
end
theorem scanA_none {k : Nat} {b : List UInt8} (h : oneA b = none) : scanA k b = ([], 0) := by
 cases k with
 | zero => rfl
 | succ k => simp [scanA, h]
structure ScanAt (val : List UInt8) (at_ : Nat) (l : List (List UInt8)) : Prop where
 le : at_ ≤ val.length
 size : l.length + at_ ≤ 2 * at_
 is : scanA (val.length + 1) val = (l ++ (scanA (val.length + 1 - l.length) (val.drop at_)).1, at_ + (scanA (val.length + 1 - l.length) (val.drop at_)).2)
theorem ScanAt.start (val : List UInt8) : ScanAt val 0 [] := ⟨Nat.zero_le _, by simp, by simp⟩
theorem ScanAt.done {val : List UInt8} {p : Nat} {l : List (List UInt8)} (h : ScanAt val p l) (hn : oneA (val.drop p) = none) : scanA (val.length + 1) val = (l, p) := by
 have h1 := h.is; rw [scanA_none hn] at h1; simpa using h1
end Go.Proofs.YtnmgfnpphglphaaGreat
