/-One call behind.-/
import Derived.Test.YtbbblemfodpmaaaGreatBase
import Derived.Deep.QuietTactic
import Derived.BigQuiet
set_option linter.unusedVariables false
set_option linter.unusedSimpArgs false
set_option maxHeartbeats 16000000
set_option maxRecDepth 100000
section
namespace Go.Proofs.YtbbblemfodpmaaaGreat
open Go.RowKit
end Go.Proofs.YtbbblemfodpmaaaGreat
end
section
namespace Go.Proofs.YtbbblemfodpmaaaGreat
open Go.RowKit
theorem zAm (n : Nat) {P : Program} {ops : Array Oper} {rest : List Oper} {op : Op} {ty : TypeId} {pos : String} {af : Array Edge} {g : Option (Nat × Bool)} {a : Act} {w : World} {Q : Exit→Act→World→Prop}
  (h : wpList P ops Q (⟨some n,op,ty,pos,af,g⟩ :: rest) a w) : wpList P ops Q (⟨some n,op,ty,pos,af,g⟩ :: rest) a w:=h
theorem zDy {P : Program} {ops : Array Oper} {rest : List Oper} {tt : TypeId} {x y : Operand} {ty : TypeId} {pos : String} {af : Array Edge} {g : Option (Nat × Bool)} {a : Act} {w : World} {Q : Exit→Act→World→Prop}
  (h : wpList P ops Q (⟨none, .store tt x y,ty,pos,af,g⟩ :: rest) a w) : wpList P ops Q (⟨none, .store tt x y,ty,pos,af,g⟩ :: rest) a w:=h
theorem zAk {P : Program} {ops : Array Oper} {rest : List Oper} {o : Oper} {a : Act} {Q : Exit→Act→World→Prop} (hgd : o.guard = none) (ty : TypeId) (x y : Operand) (ho : o.op = .store ty x y)
  {W : World} {old cs : Array Value} {n : Nat} (hn : n = W.heap.size) (hx : a.eval x = .pointer (some ⟨n,0,none⟩)) (hy : a.eval y = .agg cs)
  (hi : (P.info? ty).map (·.size) = some cs.size) (ho2 : old.size = cs.size) (h1 : cs.all (·.oneCell') = true)
  (h : wpList P ops Q rest (a.put o.dst undef) (W.alloc (.cells cs ty))) : wpList P ops Q (o :: rest) a (W.alloc (.cells old ty)):=by
 subst hn;exact zFP hgd ty x y ho W old cs hx hy hi ho2 h1 h
end Go.Proofs.YtbbblemfodpmaaaGreat
end
