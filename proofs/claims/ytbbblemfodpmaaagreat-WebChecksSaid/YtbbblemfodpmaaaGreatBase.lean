/-Words that all walks of this seat share: Go's structs as Lean structures with their cells, slices with what they hold,-/
import Derived.Test.YtbbblemfodpmaaaGreatProg
import Derived.Test.YtbbblemfodpmaaaGreatWebGa
import Derived.WalkKit
import Derived.Deep.RegionHeld3
import Derived.Lib.Hide
import Derived.Deep.WholeRow
import Derived.Deep.QuietTactic
import Derived.BigQuiet
set_option linter.unusedVariables false
set_option linter.unusedSimpArgs false
set_option maxHeartbeats 16000000
set_option maxRecDepth 100000
namespace Go.Proofs.YtbbblemfodpmaaaGreat
open Go.RowKit
abbrev vi (x : Int) : Value:=.int .i64 x
def I64 (x : Int) : Prop:=-9223372036854775808 ≤ x∧x ≤ 9223372036854775807
structure Sl (α : Type) where
 a : Option Addr
 cap : Nat
 val : List α
 deriving Inhabited
def Sl.nil {α : Type} : Sl α:=⟨none,0,[]⟩
theorem zz {p : Prop} (h : p) : Hid p:=h
theorem hTr {a b c : World} (h : Hid (Below a.heap.size a b)) (k : Below b.heap.size b c) : Hid (Below a.heap.size a c):=zz (h.out.trans (k.mono h.out.size))
@[go_sem] def Sl.v {α : Type} (s : Sl α) : Value:=.slice s.a s.val.length s.cap
structure Sl.OK {α : Type} (sz : Nat) (e : α→Array Value) (ok : (Nat→Prop)→World→α→Prop) (D : Nat→Prop) (w : World) (s : Sl α) : Prop where
 le : s.val.length ≤ s.cap
 room : s.val.length ≤ 4294967296
 isNil : s.a = none→s.val = []∧s.cap = 0
 place : ∀ p,s.a = some p→0 < s.val.length→p.spot = none∧¬ D p.block∧p.block < w.heap.size
 elem : ∀ x ∈ s.val,ok D w x
 cell : ∀ b o,s.a = some ⟨b,o,none⟩→∀ i x,s.val[i]? = some x→∀ j,j < sz→w.cell? ⟨b,o + i * sz + j,none⟩ = (e x)[j]?
theorem pos_of {α : Type} {l : List α} {i : Nat} {x : α} (h : l[i]? = some x) : 0 < l.length:=Nat.lt_of_le_of_lt (Nat.zero_le _) (List.getElem?_eq_some_iff.1 h).1
structure Ext (D : Nat→Prop) (w w' : World) : Prop where
 size : w.heap.size ≤ w'.heap.size
 block : ∀ k,k < w.heap.size→¬ D k→w'.heap[k]? = w.heap[k]?
theorem Ext.of_below {D : Nat→Prop} {w w' : World} (h : Below w.heap.size w w') : Ext D w w':=⟨h.size,fun i hi _=>h.block i hi⟩
theorem Ext.cell {D : Nat→Prop} {w w' : World} (h : Ext D w w') {b : Nat} (hb : b < w.heap.size) (hd : ¬ D b) (o : Nat) : w'.cell? ⟨b,o,none⟩ = w.cell? ⟨b,o,none⟩:=
 World.cell?_of_block (w:=w) (h.block b hb hd)
theorem Sl.OK.ext {α : Type} {sz : Nat} {e : α→Array Value} {ok : (Nat→Prop)→World→α→Prop} {D : Nat→Prop} {w w' : World} {s : Sl α}
  (hok : ∀ x,ok D w x→ok D w' x) (h : Sl.OK sz e ok D w s) (hx : Ext D w w') : Sl.OK sz e ok D w' s:=by
 refine ⟨h.le,h.room,h.isNil,fun p hp hl=>?_,fun x hm=>hok x (h.elem x hm),fun b o ha i x hi j hj=>?_⟩
 ·obtain ⟨h1,h2,h3⟩:=h.place p hp hl;exact ⟨h1,h2,Nat.lt_of_lt_of_le h3 hx.size⟩
 ·obtain ⟨_,h2,h3⟩:=h.place _ ha (pos_of hi);rw [hx.cell h3 h2];exact h.cell b o ha i x hi j hj
theorem Sl.OK.nil {α : Type} (sz : Nat) (e : α→Array Value) (ok : (Nat→Prop)→World→α→Prop) (D : Nat→Prop) (w : World) : Sl.OK sz e ok D w Sl.nil:=
 ⟨by simp [Sl.nil],by simp [Sl.nil],fun _=>⟨rfl,rfl⟩,fun p hp _=>by simp [Sl.nil] at hp,fun x hx=>by simp [Sl.nil] at hx,fun b o h=>by simp [Sl.nil] at h⟩
theorem Sl.OK.at {α : Type} {sz : Nat} {e : α→Array Value} {ok : (Nat→Prop)→World→α→Prop} {D : Nat→Prop} {w : World} {s : Sl α}
  (h : Sl.OK sz e ok D w s) {i : Nat} {x : α} (hi : s.val[i]? = some x) :
  ∃ b o,s.a = some ⟨b,o,none⟩∧b < w.heap.size∧¬ D b∧ok D w x∧∀ j,j < sz→w.cell? ⟨b,o + i * sz + j,none⟩ = (e x)[j]?:=by
 cases ha : s.a with
 | none=>
  have:=(h.isNil ha).1;simp [this] at hi
 | some p=>
  obtain ⟨b,o,sp⟩:=p;obtain ⟨h1,h2,h3⟩:=h.place _ ha (pos_of hi);simp only at h1 h2 h3;subst h1;exact ⟨b,o,rfl,h3,h2,h.elem x (List.mem_of_getElem? hi),h.cell b o ha i x hi⟩
theorem zCn {P : Program} (w : World) (b o : Nat) (ty : TypeId) (cs : Array Value) (d : TypeDesc) (hc : ∀ j,j < cs.size→w.cell? ⟨b,o + j,none⟩ = cs[j]?)
  (hu : P.underlying ty = some d) (hd : (match d with | .struct _ | .array _ _=>true | _=>false) = true) (hi : (P.info? ty).map (·.size) = some cs.size) :
  (loadVar ty ⟨b,o,none⟩).run P w = .ok (.agg cs) w:=by
 have hl : (loadCells ⟨b,o,none⟩ cs.toList.length).run P w = .ok cs.toList.toArray w:=
  run_loadCells_list (P:=P) w ⟨b,o,none⟩ cs.toList (fun j v hv=>by
   have hadd : (⟨b,o,none⟩ : Addr).add j = ⟨b,o + j,none⟩:=by unfold Addr.add;split <;> simp_all
   have hj : j < cs.size:=by have:=(List.getElem?_eq_some_iff.1 hv).1;simpa using this
   rw [hadd,hc j hj];simpa using hv)
 cases hq : P.info? ty with
 | none=>simp [hq] at hi
 | some i=>
  have hs : i.size = cs.size:=by simpa [hq] using hi
  have hagg : (isAgg ty).run P w = .ok true w:=by
   unfold isAgg;rw [Sem.run_bind,run_underlying hu w]
   cases d <;> simp_all
  simp only [Array.length_toList,Array.toArray_toList] at hl;simp [loadVar,Sem.run_bind,hagg,sizeOf,typeInfo,hq,hs,hl]
theorem zFW {P : Program} {o : Oper} {a : Act} {w : World} {K : Act→World→Prop} {Q : Exit→Act→World→Prop} (ty : TypeId) (x : Operand) (ho : o.op = .load ty x)
  (b off : Nat) (hx : a.eval x = .pointer (some ⟨b,off,none⟩)) (cs : Array Value) (d : TypeDesc) (hc : ∀ j,j < cs.size→w.cell? ⟨b,off + j,none⟩ = cs[j]?)
  (hu : P.underlying ty = some d) (hd : (match d with | .struct _ | .array _ _=>true | _=>false) = true) (hi : (P.info? ty).map (·.size) = some cs.size)
  (h : K (a.put o.dst (.agg cs)) w) : o.wp P a w K Q:=by
 unfold Oper.wp execOp;simp only [ho,hx,Instr.loadAt,Instr.sureAddr,Sem.run_bind,Sem.run_pure,Result.andThen_ok,zCn w b off ty cs d hc hu hd hi];exact h
theorem zBY {P : Program} {ops : Array Oper} {rest : List Oper} {o : Oper} {a : Act} {w : World} {Q : Exit→Act→World→Prop} (hgd : o.guard = none) (ty : TypeId) (x : Operand) (ho : o.op = .load ty x)
  (b off : Nat) (hx : a.eval x = .pointer (some ⟨b,off,none⟩)) (cs : Array Value) (d : TypeDesc) (hc : ∀ j,j < cs.size→w.cell? ⟨b,off + j,none⟩ = cs[j]?)
  (hu : P.underlying ty = some d) (h : wpList P ops Q rest (a.put o.dst (.agg cs)) w) (hd : (match d with | .struct _ | .array _ _=>true | _=>false) = true:=by rfl) (hi : (P.info? ty).map (·.size) = some cs.size:=by kernel_rfl) : wpList P ops Q (o :: rest) a w:=
 wpList_plain hgd fun _ hK=>zFW ty x ho b off hx cs d hc hu hd hi (hK _ _ h)
theorem zFP {P : Program} {ops : Array Oper} {rest : List Oper} {o : Oper} {a : Act} {Q : Exit→Act→World→Prop} (hgd : o.guard = none) (ty : TypeId) (x y : Operand) (ho : o.op = .store ty x y)
  (W : World) (old cs : Array Value) (hx : a.eval x = .pointer (some ⟨W.heap.size,0,none⟩)) (hy : a.eval y = .agg cs)
  (hi : (P.info? ty).map (·.size) = some cs.size) (ho2 : old.size = cs.size) (h1 : cs.all (·.oneCell') = true)
  (h : wpList P ops Q rest (a.put o.dst undef) (W.alloc (.cells cs ty))) : wpList P ops Q (o :: rest) a (W.alloc (.cells old ty)):=
 wpList_plain hgd fun K hK=>by
  unfold Oper.wp execOp;simp only [ho,hx,hy,Sem.run_bind,run_storeAt_new W ty old cs hi ho2 h1,Result.andThen_ok,Sem.run_pure];exact hK _ _ h
theorem behind {n K : Nat} {w W w1 : World} (h0 : Below n w W) (hK : n + K ≤ W.heap.size) (hb : Below W.heap.size W w1) :
  Below n w w1∧(∀ b o,b < W.heap.size→w1.cell? ⟨b,o,none⟩ = W.cell? ⟨b,o,none⟩)∧(∀ b o,b < W.heap.size→w1.frozen? ⟨b,o,none⟩ = W.frozen? ⟨b,o,none⟩)∧
   n + K ≤ w1.heap.size∧(∀ i,i < K→n + i < w1.heap.size)∧(0 < K→n < w1.heap.size):=
 ⟨h0.trans (hb.mono (by omega)),fun b o h=>hb.cell (p:=⟨b,o,none⟩) h,fun b o h=>hb.frozen (p:=⟨b,o,none⟩) h,
  Nat.le_trans hK hb.size,fun i hi=>by have:=hb.size;omega,fun h=>by have:=hb.size;omega⟩
def zAC (x : Int) : Array Value:=#[vi x]
@[go_sem] theorem encInt_0 (x : Int) : (zAC x)[0]? = some (vi x):=rfl
@[go_sem] theorem encInt_size (x : Int) : (zAC x).size = 1:=rfl
def encByte (x : UInt8) : Array Value:=#[.int .u8 x.toNat]
@[go_sem] theorem encByte_0 (x : UInt8) : (encByte x)[0]? = some (.int .u8 x.toNat):=rfl
def zAb (x : Point) : Array Value:=#[vi x.x,vi x.y]
@[go_sem] theorem encPoint_size (x : Point) : (zAb x).size = 2:=rfl
@[go_sem] theorem encPoint_0 (x : Point) : (zAb x)[0]? = some (vi x.x):=rfl
@[go_sem] theorem encPoint_1 (x : Point) : (zAb x)[1]? = some (vi x.y):=rfl
theorem zAD (x : Point) : (zAb x).all (·.oneCell') = true:=by simp [zAb,Sl.v,Value.oneCell']
def okPoint (D : Nat→Prop) (w : World) (x : Point) : Prop:=
 I64 x.x∧I64 x.y
def zAh (x : Joint) : Array Value:=#[vi x.id,vi x.at_.x,vi x.at_.y]
@[go_sem] theorem encJoint_size (x : Joint) : (zAh x).size = 3:=rfl
@[go_sem] theorem zCi (x : Joint) : (zAh x)[0]? = some (vi x.id):=rfl
@[go_sem] theorem encJoint_1 (x : Joint) : (zAh x)[1]? = some (vi x.at_.x):=rfl
@[go_sem] theorem encJoint_2 (x : Joint) : (zAh x)[2]? = some (vi x.at_.y):=rfl
theorem zBj (x : Joint) : (zAh x).all (·.oneCell') = true:=by simp [zAh,Sl.v,Value.oneCell']
def zAs (D : Nat→Prop) (w : World) (x : Joint) : Prop:=
 I64 x.id∧I64 x.at_.x∧I64 x.at_.y
theorem zAs.ext {D : Nat→Prop} {w w' : World} {x : Joint} (h : zAs D w x) (hx : Ext D w w') : zAs D w' x:=by
 obtain ⟨h0,h1,h2⟩:=h;exact ⟨h0,h1,h2⟩
def zAd (x : Lead) : Array Value:=#[vi x.id,vi x.a,vi x.b,vi x.heart,vi x.left,vi x.right,vi x.give,vi x.cost]
@[go_sem] theorem encLead_size (x : Lead) : (zAd x).size = 8:=rfl
@[go_sem] theorem zCY (x : Lead) : (zAd x)[0]? = some (vi x.id):=rfl
@[go_sem] theorem encLead_1 (x : Lead) : (zAd x)[1]? = some (vi x.a):=rfl
@[go_sem] theorem encLead_2 (x : Lead) : (zAd x)[2]? = some (vi x.b):=rfl
@[go_sem] theorem encLead_3 (x : Lead) : (zAd x)[3]? = some (vi x.heart):=rfl
@[go_sem] theorem encLead_4 (x : Lead) : (zAd x)[4]? = some (vi x.left):=rfl
@[go_sem] theorem encLead_5 (x : Lead) : (zAd x)[5]? = some (vi x.right):=rfl
@[go_sem] theorem encLead_6 (x : Lead) : (zAd x)[6]? = some (vi x.give):=rfl
@[go_sem] theorem encLead_7 (x : Lead) : (zAd x)[7]? = some (vi x.cost):=rfl
theorem zA9 (x : Lead) : (zAd x).all (·.oneCell') = true:=by simp [zAd,Sl.v,Value.oneCell']
def zAA (D : Nat→Prop) (w : World) (x : Lead) : Prop:=
 I64 x.id∧I64 x.a∧I64 x.b∧I64 x.heart∧I64 x.left∧I64 x.right∧I64 x.give∧I64 x.cost
theorem zAA.ext {D : Nat→Prop} {w w' : World} {x : Lead} (h : zAA D w x) (hx : Ext D w w') : zAA D w' x:=by
 obtain ⟨h0,h1,h2,h3,h4,h5,h6,h7⟩:=h;exact ⟨h0,h1,h2,h3,h4,h5,h6,h7⟩
def zAa (x : Side) : Array Value:=#[vi x.lead, .bool x.back]
@[go_sem] theorem encSide_size (x : Side) : (zAa x).size = 2:=rfl
@[go_sem] theorem encSide_0 (x : Side) : (zAa x)[0]? = some (vi x.lead):=rfl
@[go_sem] theorem encSide_1 (x : Side) : (zAa x)[1]? = some (.bool x.back):=rfl
theorem zAn (x : Side) : (zAa x).all (·.oneCell') = true:=by simp [zAa,Sl.v,Value.oneCell']
def zAR (x : Edit) : Array Value:=#[vi x.kind,vi x.joint.id,vi x.joint.at_.x,vi x.joint.at_.y,vi x.lead.id,vi x.lead.a,vi x.lead.b,vi x.lead.heart,vi x.lead.left,vi x.lead.right,vi x.lead.give,vi x.lead.cost,vi x.other]
@[go_sem] theorem encEdit_size (x : Edit) : (zAR x).size = 13:=rfl
@[go_sem] theorem encEdit_0 (x : Edit) : (zAR x)[0]? = some (vi x.kind):=rfl
@[go_sem] theorem encEdit_1 (x : Edit) : (zAR x)[1]? = some (vi x.joint.id):=rfl
@[go_sem] theorem encEdit_2 (x : Edit) : (zAR x)[2]? = some (vi x.joint.at_.x):=rfl
@[go_sem] theorem encEdit_3 (x : Edit) : (zAR x)[3]? = some (vi x.joint.at_.y):=rfl
@[go_sem] theorem encEdit_4 (x : Edit) : (zAR x)[4]? = some (vi x.lead.id):=rfl
@[go_sem] theorem encEdit_5 (x : Edit) : (zAR x)[5]? = some (vi x.lead.a):=rfl
@[go_sem] theorem encEdit_6 (x : Edit) : (zAR x)[6]? = some (vi x.lead.b):=rfl
@[go_sem] theorem encEdit_7 (x : Edit) : (zAR x)[7]? = some (vi x.lead.heart):=rfl
@[go_sem] theorem encEdit_8 (x : Edit) : (zAR x)[8]? = some (vi x.lead.left):=rfl
@[go_sem] theorem encEdit_9 (x : Edit) : (zAR x)[9]? = some (vi x.lead.right):=rfl
@[go_sem] theorem encEdit_10 (x : Edit) : (zAR x)[10]? = some (vi x.lead.give):=rfl
@[go_sem] theorem encEdit_11 (x : Edit) : (zAR x)[11]? = some (vi x.lead.cost):=rfl
@[go_sem] theorem encEdit_12 (x : Edit) : (zAR x)[12]? = some (vi x.other):=rfl
def zBD (x : Count) : Array Value:=#[vi x.joints,vi x.leads,vi x.faces,vi x.components]
@[go_sem] theorem encCount_size (x : Count) : (zBD x).size = 4:=rfl
@[go_sem] theorem encCount_0 (x : Count) : (zBD x)[0]? = some (vi x.joints):=rfl
@[go_sem] theorem encCount_1 (x : Count) : (zBD x)[1]? = some (vi x.leads):=rfl
@[go_sem] theorem encCount_2 (x : Count) : (zBD x)[2]? = some (vi x.faces):=rfl
@[go_sem] theorem encCount_3 (x : Count) : (zBD x)[3]? = some (vi x.components):=rfl
def encSpot (x : Spot) : Array Value:=#[vi x.kind,vi x.id]
@[go_sem] theorem encSpot_size (x : Spot) : (encSpot x).size = 2:=rfl
@[go_sem] theorem encSpot_0 (x : Spot) : (encSpot x)[0]? = some (vi x.kind):=rfl
@[go_sem] theorem encSpot_1 (x : Spot) : (encSpot x)[1]? = some (vi x.id):=rfl
def encPin (x : Pin) : Array Value:=#[vi x.joint,vi x.play]
@[go_sem] theorem encPin_size (x : Pin) : (encPin x).size = 2:=rfl
@[go_sem] theorem encPin_0 (x : Pin) : (encPin x)[0]? = some (vi x.joint):=rfl
@[go_sem] theorem encPin_1 (x : Pin) : (encPin x)[1]? = some (vi x.play):=rfl
abbrev zuA:=Tryz.underlying59
abbrev zuB:=Tryz.underlying27
abbrev zuC:=Tryz.underlying25
abbrev zuD:=Tryz.underlying31
abbrev zuE:=Tryz.underlying168
abbrev zuF:=Tryz.underlying120
abbrev zuG:=Tryz.underlying29
abbrev zuH:=Tryz.underlying123
end Go.Proofs.YtbbblemfodpmaaaGreat
