/-A store into a box.-/
import Derived.Test.YtbbblemfodpmaaaGreatBox
import Derived.Test.YtbbblemfodpmaaaGreatOrd
set_option linter.unusedVariables false
set_option linter.unusedSimpArgs false
set_option maxHeartbeats 16000000
set_option maxRecDepth 100000
namespace Go.Proofs.YtbbblemfodpmaaaGreat
open Go.RowKit
theorem zAr {P : Program} {w : World} {o : Oper} {a : Act} {K : Act→World→Prop} {Q : Exit→Act→World→Prop} {b off : Nat} {T : TypeId} {cs : Array Value} (hb : zAe w b T cs)
  (ty : TypeId) (x y : Operand) (ho : o.op = .store ty x y) (hx : a.eval x = .pointer (some ⟨b,off,none⟩)) (v : Value) (hy : a.eval y = v)
  (hi : (P.info? ty).map (·.size) = some v.cells.size) (hfit : Nat.ble (off + v.cells.size) cs.size = true) (h1 : v.cells.all (·.oneCell') = true)
  (h : ∀ w',zAe w' b T (zAx cs off v.cells.toList)→Turn b w w'→K (a.put o.dst undef) w') : o.wp P a w K Q:=by
 have hfit':=Nat.le_of_ble_eq_true hfit;have hst:=run_storeCells_cells (P:=P) b off v.cells.toList 0 w (fun j hj=>by
   rw [Nat.add_zero,hb.cell,Array.getElem?_eq_getElem (by simp at hj;omega)];rfl)
  (fun j _=>hb.frozen _) (fun u hu=>(Array.all_eq_true_iff_forall_mem.1 h1) u (by simpa using hu))
 obtain ⟨h2,h3⟩:=zCZ v.cells.toList off cs w hb;unfold Oper.wp execOp
 cases hq : P.info? ty with
 | none=>simp [hq] at hi
 | some i=>
  have hs : i.size = v.cells.size:=by simpa [hq] using hi
  simp only [Nat.add_zero] at hst;simp [ho,hx,hy,Instr.storeAt,Instr.sureAddr,storeVar,Sem.run_bind,sizeOf,typeInfo,hq,hs,hst,Oper.upon];exact h _ h2 h3
end Go.Proofs.YtbbblemfodpmaaaGreat
