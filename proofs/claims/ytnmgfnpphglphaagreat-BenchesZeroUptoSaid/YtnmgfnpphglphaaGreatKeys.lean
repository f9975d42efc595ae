/-
  Names and ints as keys of maps.
-/
import Derived.Test.YtnmgfnpphglphaaGreatMaps
import Derived.Test.YtnmgfnpphglphaaGreatEq
set_option maxHeartbeats 16000000
set_option maxRecDepth 100000
set_option linter.unusedVariables false
set_option linter.unusedSimpArgs false
namespace Go.Proofs.YtnmgfnpphglphaaGreat
open Go.RowKit
def vRef (r : Ref) : Value := .agg (encRef r)
def gRef (r : Ref) : Prop := I64 r.bench ∧ I64 r.num
theorem intKey : KeyOK Tryz.prog 3 vi I64 := KeyOK.of_keyed (Maps.int_keyed Tryz.underlying3) (fun {a b} h => by simpa using h) (fun a ha => ⟨_, Maps.keyOf_int_mk Tryz.underlying3 (by unfold I64 at ha; simp [Lit.wf, IntKind.min, IntKind.max, IntKind.bits, IntKind.signed]; omega)⟩)
theorem check_int (n : Nat) (em : Bool) (x : Int) (w : World) : (Instr.checkKey em (n + 1) 3 (vi x)).run Tryz.prog w = .ok () w := by
 simp [Instr.checkKey, Sem.run_bind, run_underlying Tryz.underlying3]
theorem refCheck (em : Bool) (r : Ref) (w : World) : (Instr.checkKey em 10000 34 (vRef r)).run Tryz.prog w = .ok () w := by
 rw [show (10000 : Nat) = 9998 + 1 + 1 from rfl]
 unfold vRef encRef
 rw [Instr.checkKey]
 simp [Sem.run_bind, run_underlying Tryz.underlying34, check_int, go_sem]
theorem refStays (r : Ref) (w : World) : (Instr.keyThatStays (vRef r) (vRef r)).run Tryz.prog w = .ok (vRef r) w := by
 have : Instr.sameBits 10000 (vRef r) (vRef r) = true := by
  rw [show (10000 : Nat) = 9998 + 1 + 1 from rfl]
  simp [vRef, encRef, Instr.sameBits]
 simp [Instr.keyThatStays, this]
theorem refAsk (r : Ref) (w : World) : ∀ (es : List MapEntry) (i : Nat), (∀ e ∈ es, ∃ x, e.key = vRef x ∧ gRef x) →
  ((Instr.findAsking 34 (vRef r) es i).run Tryz.prog w = .ok none w ∧ ∀ e ∈ es, e.key ≠ vRef r) ∨
   ∃ j e, (Instr.findAsking 34 (vRef r) es i).run Tryz.prog w = .ok (some (i + j, e.val)) w ∧ es[j]? = some e ∧ e.key = vRef r
 | [], i, _ => .inl ⟨by simp [Instr.findAsking], by simp⟩
 | e :: es, i, h => by
  obtain ⟨x, hx, _⟩ := h e (by simp)
  have he : (Op.equal 34 (vRef r) e.key).run Tryz.prog w = .ok (decide (r = x)) w := by
   rw [hx]; unfold Op.equal vRef; rw [show Op.maxDepth = 9996 + 4 from rfl]; exact equalIn_Ref 9996 r x w
  by_cases hrx : r = x
  ·subst hrx
   refine .inr ⟨0, e, ?_, rfl, hx⟩
   simp [Instr.findAsking, Sem.run_bind, he]
  ·have hne : e.key ≠ vRef r := fun e1 => hrx (by
    rw [hx] at e1
    obtain ⟨r1, r2⟩ := r; obtain ⟨x1, x2⟩ := x
    simp [vRef, encRef] at e1; rw [e1.1, e1.2])
   rcases refAsk r w es (i + 1) (fun e he => h e (by simp [he])) with ⟨h1, h2⟩ | ⟨j, e', h1, h2, h3⟩
   ·refine .inl ⟨?_, fun e1 h1 => ?_⟩
    ·simp [Instr.findAsking, Sem.run_bind, he, hrx, h1]
    ·rcases List.mem_cons.1 h1 with rfl | h1
     ·exact hne
     ·exact h2 e1 h1
   ·refine .inr ⟨j + 1, e', ?_, by simpa using h2, h3⟩
    simp [Instr.findAsking, Sem.run_bind, he, hrx, h1]; omega
theorem refKey : KeyOK Tryz.prog 34 vRef gRef where
 inj {a b} h := by
  obtain ⟨r1, r2⟩ := a; obtain ⟨x1, x2⟩ := b
  simp [vRef, encRef] at h; rw [h.1, h.2]
 check {a} _ w em := refCheck em a w
 stays {a} _ w := refStays a w
 find {a} ha w es hes := by
  have hnow : ∀ (l : List MapEntry), (∀ e ∈ l, ∃ x, e.key = vRef x ∧ gRef x) → ∀ d i, (l = [] → Instr.findNow d (vRef a) l i = some none) ∧ (l ≠ [] → Instr.findNow d (vRef a) l i = none) := by
   intro l hl d i
   cases l with
   | nil => simp [Instr.findNow]
   | cons e l =>
    obtain ⟨x, hx, _⟩ := hl e (by simp)
    refine ⟨by simp, fun _ => ?_⟩
    have : Instr.sameNow d (vRef a) e.key = none := by rw [hx]; cases d <;> simp [Instr.sameNow, vRef]
    simp [Instr.findNow, this]
  by_cases h0 : es = []
  ·subst h0
   refine .inl ⟨?_, by simp⟩
   simp [Instr.findKey, Sem.run_bind, run_underlying Tryz.underlying34, Instr.findNow]
  ·have h1 := (hnow es hes (Tryz.prog.underlying 34 |>.getD .bool) 0).2 h0
   have h1' : ∀ d, Instr.findNow d (vRef a) es 0 = none := fun d => (hnow es hes d 0).2 h0
   have hrun : (Instr.findKey 34 (vRef a) es).run Tryz.prog w = (Instr.findAsking 34 (vRef a) es).run Tryz.prog w := by
    simp [Instr.findKey, Sem.run_bind, run_underlying Tryz.underlying34, h1']
   rw [hrun]
   rcases refAsk a w es 0 hes with ⟨h2, h3⟩ | ⟨j, e, h2, h3, h4⟩
   ·exact .inl ⟨h2, h3⟩
   ·exact .inr ⟨j, e, by simpa using h2, h3, h4⟩
end Go.Proofs.YtnmgfnpphglphaaGreat
