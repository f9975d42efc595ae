/-A struct in a block of its own, the world a variable: what a store leaves, and a load reads.-/
import Derived.Test.YtbbblemfodpmaaaGreatSame
import Derived.Test.YtbbblemfodpmaaaGreatMaps
import Derived.BigFrame
set_option linter.unusedVariables false
set_option linter.unusedSimpArgs false
set_option maxHeartbeats 16000000
set_option maxRecDepth 100000
namespace Go.Proofs.YtbbblemfodpmaaaGreat
open Go.RowKit
def zAe (w : World) (b : Nat) (T : TypeId) (cs : Array Value) : Prop:=w.heap[b]? = some (.cells cs T (0,0))
section
variable {w w' : World} {b : Nat} {T : TypeId} {cs : Array Value}
theorem zAe.cell (h : zAe w b T cs) (o : Nat) : w.cell? ⟨b,o,none⟩ = cs[o]?:=by
 unfold zAe at h;simp [World.cell?,h]
theorem zAe.cells (h : zAe w b T cs) : ∀ j,j < cs.size→w.cell? ⟨b,0 + j,none⟩ = cs[j]?:=fun j _=>by rw [h.cell,Nat.zero_add]
theorem zAe.eqv {cs' : Array Value} (h : zAe w b T cs) (e : cs = cs') : zAe w b T cs':=e ▸ h
theorem zAe.cellsAt (h : zAe w b T cs) (o : Nat) (ds : Array Value) (hd : ∀ j,j < ds.size→cs[o + j]? = ds[j]?) : ∀ j,j < ds.size→w.cell? ⟨b,o + j,none⟩ = ds[j]?:=fun j hj=>by rw [h.cell,hd j hj]
theorem zAe.frozen (h : zAe w b T cs) (o : Nat) : w.frozen? ⟨b,o,none⟩ = false:=by
 unfold zAe at h;simp [World.frozen?,h]
theorem zAe.lt (h : zAe w b T cs) : b < w.heap.size:=(Array.getElem?_eq_some_iff.1 h).1
theorem zAe.of_block (h : zAe w b T cs) (hb : w'.heap[b]? = w.heap[b]?) : zAe w' b T cs:=hb.trans h
theorem zAe.below {n : Nat} (h : zAe w b T cs) (hb : Below n w w') (hn : b < n) : zAe w' b T cs:=h.of_block (hb.block b hn)
theorem zAe.belowAll (h : zAe w b T cs) (hb : Below w.heap.size w w') : zAe w' b T cs:=h.below hb h.lt
theorem zAe.turn {c : Nat} (h : zAe w b T cs) (hb : Turn c w w') (hn : b ≠ c) : zAe w' b T cs:=h.of_block (hb.block b hn)
theorem zAe.new (w : World) (T : TypeId) (cs : Array Value) : zAe (w.alloc (.cells cs T)) w.heap.size T cs:=(MapKept.heap_alloc w _).1
theorem zAe.alloc (h : zAe w b T cs) (o : Obj) : zAe (w.alloc o) b T cs:=h.of_block ((MapKept.heap_alloc w _).2 b h.lt)
theorem zAe.drew (h : zAe w b T cs) : zAe w.drew b T cs:=h
end
def zAx (cs : Array Value) (o : Nat) : List Value→Array Value
 | []=>cs
 | v :: r=>zAx (cs.setIfInBounds o v) (o + 1) r
theorem Turn.setCell (w : World) (b o : Nat) (v : Value) : Turn b w (w.setCell ⟨b,o,none⟩ v):=
 ⟨rfl,rfl,rfl,by simp [World.setCell],fun k hk=>Below.heap_setCell _ _ _ k hk⟩
theorem zCZ {b : Nat} {T : TypeId} : ∀ (vs : List Value) (o : Nat) (cs : Array Value) (w : World),zAe w b T cs→zAe (w.setCells b o vs) b T (zAx cs o vs)∧Turn b w (w.setCells b o vs)
 | [],_,_,w,h=>⟨h,Turn.refl _ _⟩
 | v :: r,o,cs,w,h=>by
  have h1 : zAe (w.setCell ⟨b,o,none⟩ v) b T (cs.setIfInBounds o v):=heap_setCell_same w b o cs T v h;obtain ⟨h2,h3⟩:=zCZ r (o + 1) _ _ h1;exact ⟨h2,(Turn.setCell w b o v).trans h3⟩
theorem zAv (tt : TypeId) {P : Program} {ops : Array Oper} {rest : List Oper} {x y : Operand} {ty : TypeId} {pos : String} {af : Array Edge} {g : Option (Nat × Bool)} {a : Act} {w : World} {Q : Exit→Act→World→Prop}
  (h : wpList P ops Q (⟨none, .store tt x y,ty,pos,af,g⟩ :: rest) a w) : wpList P ops Q (⟨none, .store tt x y,ty,pos,af,g⟩ :: rest) a w:=h
theorem zAS {P : Program} {w : World} {ops : Array Oper} {rest : List Oper} {o : Oper} {a : Act} {Q : Exit→Act→World→Prop} {b off : Nat} {T : TypeId} {cs : Array Value} (hb : zAe w b T cs)
  (hgd : o.guard = none) (ty : TypeId) (x y : Operand) (ho : o.op = .store ty x y) (hx : a.eval x = .pointer (some ⟨b,off,none⟩)) (v : Value) (hy : a.eval y = v)
  (hi : (P.info? ty).map (·.size) = some v.cells.size) (hfit : Nat.ble (off + v.cells.size) cs.size = true) (h1 : v.cells.all (·.oneCell') = true)
  (h : ∀ w',zAe w' b T (zAx cs off v.cells.toList)→Turn b w w'→wpList P ops Q rest (a.put o.dst undef) w') : wpList P ops Q (o :: rest) a w:=by
 refine wpList_plain hgd fun K' hK'=>?_;have hfit':=Nat.le_of_ble_eq_true hfit;have hst:=run_storeCells_cells (P:=P) b off v.cells.toList 0 w (fun j hj=>by
   rw [Nat.add_zero,hb.cell,Array.getElem?_eq_getElem (by simp at hj;omega)];rfl)
  (fun j _=>hb.frozen _) (fun u hu=>(Array.all_eq_true_iff_forall_mem.1 h1) u (by simpa using hu))
 obtain ⟨h2,h3⟩:=zCZ v.cells.toList off cs w hb;unfold Oper.wp execOp
 cases hq : P.info? ty with
 | none=>simp [hq] at hi
 | some i=>
  have hs : i.size = v.cells.size:=by simpa [hq] using hi
  simp only [Nat.add_zero] at hst;simp [ho,hx,hy,Instr.storeAt,Instr.sureAddr,storeVar,Sem.run_bind,sizeOf,typeInfo,hq,hs,hst];exact hK' _ _ (h _ h2 h3)
theorem zAc {P : Program} {W : World} {ev : Operand→Value} {dst : Option Tmp} {ty ty0 : TypeId} {x : Operand} {pos : String} {af : Array Edge} {g : Option (Nat × Bool)} {b off : Nat} {T : TypeId} {cs : Array Value} (ds : Array Value) {d : TypeDesc}
  (hb : zAe W b T cs) (hx : ev x = .pointer (some ⟨b,off,none⟩)) (hds : ∀ j,j < ds.size→cs[off + j]? = ds[j]?) (hu : P.underlying ty = some d) (hd : (match d with | .struct _ | .array _ _=>true | _=>false) = true:=by rfl)
  (hi : (P.info? ty).map (·.size) = some ds.size:=by kernel_rfl) : (execOp ev ⟨dst, .load ty x,ty0,pos,af,g⟩).run P W = .ok (.value (.agg ds)) W:=by
 have hl:=zCn (P:=P) W b off ty ds d (hb.cellsAt off ds hds) hu hd hi;unfold execOp;simp only [hx,Instr.loadAt,Instr.sureAddr,Sem.run_bind,Sem.run_pure,Result.andThen_ok,hl]
theorem zA4 {P : Program} {w : World} {ops : Array Oper} {rest : List Oper} {o : Oper} {a : Act} {Q : Exit→Act→World→Prop} {b off : Nat} {T : TypeId} {cs : Array Value} (hb : zAe w b T cs)
  (hw : Region.wanted o (yielded ops a.tmps) = true) (ty : TypeId) (x : Operand) (ho : o.op = .load ty x) (hx : a.eval x = .pointer (some ⟨b,off,none⟩)) (ds : Array Value) {d : TypeDesc} (hds : ∀ j,j < ds.size→cs[off + j]? = ds[j]?)
  (hu : P.underlying ty = some d) (h : wpList P ops Q rest (a.put o.dst (.agg ds)) w) (hd : (match d with | .struct _ | .array _ _=>true | _=>false) = true:=by rfl) (hi : (P.info? ty).map (·.size) = some ds.size:=by kernel_rfl) : wpList P ops Q (o :: rest) a w:=
 Go.BigFrame.wpList_want hw fun _ hK=>zFW ty x ho b off hx ds d (hb.cellsAt off ds hds) hu hd hi (hK _ _ h)
theorem zAg (cs : Array Value) : ∀ j,j < cs.size→cs[0 + j]? = cs[j]?:=fun j _=>by rw [Nat.zero_add]
theorem zLd {P : Program} {w : World} {ops : Array Oper} {rest : List Oper} {a : Act} {Q : Exit→Act→World→Prop} (n : Nat) {b off : Nat} {T : TypeId} {cs : Array Value} {ty ty0 : TypeId} {x : Operand} {pos : String} {af : Array Edge} {g : Option (Nat × Bool)} (hb : zAe w b T cs) (ds : Array Value) {d : TypeDesc}
  (hu : P.underlying ty = some d) (h : wpList P ops Q rest (a.put (some n) (.agg ds)) w) (hw : Region.wanted ⟨some n, .load ty x,ty0,pos,af,g⟩ (yielded ops a.tmps) = true:=by exact rfl) (hx : a.eval x = .pointer (some ⟨b,off,none⟩):=by exact rfl) (hds : ∀ j,j < ds.size→cs[off + j]? = ds[j]?:=by exact zAg _)
  (hd : (match d with | .struct _ | .array _ _=>true | _=>false) = true:=by rfl) (hi : (P.info? ty).map (·.size) = some ds.size:=by kernel_rfl) : wpList P ops Q (⟨some n, .load ty x,ty0,pos,af,g⟩ :: rest) a w:=
 zA4 hb hw ty x rfl hx ds hds hu h hd hi
theorem zLe {P : Program} {ops : Array Oper} {rest : List Oper} {a : Act} {w : World} {Q : Exit→Act→World→Prop} (n : Nat) {ty ty0 : TypeId} {x : Operand} {pos : String} {af : Array Edge} (b off : Nat) (cs : Array Value) {d : TypeDesc} (hc : ∀ j,j < cs.size→w.cell? ⟨b,off + j,none⟩ = cs[j]?) (hu : P.underlying ty = some d)
  (h : wpList P ops Q rest (a.put (some n) (.agg cs)) w) (hx : a.eval x = .pointer (some ⟨b,off,none⟩):=by exact rfl) (hd : (match d with | .struct _ | .array _ _=>true | _=>false) = true:=by rfl) (hi : (P.info? ty).map (·.size) = some cs.size:=by kernel_rfl) : wpList P ops Q (⟨some n, .load ty x,ty0,pos,af,none⟩ :: rest) a w:=
 zBY rfl ty x rfl b off hx cs d hc hu h hd hi
theorem zP1 (w : World) (c : Array Value) (T : TypeId) : Hid (Below w.heap.size w (w.alloc (.cells c T)))∧Hid (zAe (w.alloc (.cells c T)) (w.heap.size) T c):=⟨zz ((Below.refl _ _).alloc (Nat.le_refl _) _),zz (zAe.new w T c)⟩
theorem zP2 (w : World) (c : Array Value) (T : TypeId) (c' : Array Value) (T' : TypeId) : Hid (Below w.heap.size w ((w.alloc (.cells c T)).alloc (.cells c' T')))∧Hid (zAe ((w.alloc (.cells c T)).alloc (.cells c' T')) (w.heap.size) T c)∧Hid (zAe ((w.alloc (.cells c T)).alloc (.cells c' T')) (w.heap.size + 1) T' c'):=⟨zz (((Below.refl _ _).alloc (Nat.le_refl _) _).alloc (by rw [World.size_alloc];omega) _),zz ((zAe.new w T c).alloc _),zz (by have:=zAe.new (w.alloc (.cells c T)) T' c';simpa only [World.size_alloc] using this)⟩
theorem zP3 (w : World) (c : Array Value) (T : TypeId) (c' : Array Value) (T' : TypeId) (c2 : Array Value) (T2 : TypeId) : Hid (Below w.heap.size w (((w.alloc (.cells c T)).alloc (.cells c' T')).alloc (.cells c2 T2)))∧Hid (zAe (((w.alloc (.cells c T)).alloc (.cells c' T')).alloc (.cells c2 T2)) (w.heap.size) T c)∧Hid (zAe (((w.alloc (.cells c T)).alloc (.cells c' T')).alloc (.cells c2 T2)) (w.heap.size + 1) T' c')∧Hid (zAe (((w.alloc (.cells c T)).alloc (.cells c' T')).alloc (.cells c2 T2)) (w.heap.size + 1 + 1) T2 c2):=⟨zz ((((Below.refl _ _).alloc (Nat.le_refl _) _).alloc (by rw [World.size_alloc];omega) _).alloc (by rw [World.size_alloc,World.size_alloc];omega) _),zz (((zAe.new w T c).alloc _).alloc _),zz ((by have:=zAe.new (w.alloc (.cells c T)) T' c';simpa only [World.size_alloc] using this : zAe _ _ _ _).alloc _),zz (by have:=zAe.new ((w.alloc (.cells c T)).alloc (.cells c' T')) T2 c2;simpa only [World.size_alloc] using this)⟩
end Go.Proofs.YtbbblemfodpmaaaGreat
