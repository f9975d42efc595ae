/-
  Words that all walks of this seat share: Go's structs as Lean structures with their cells, slices with what they hold,
  what it is for a value to lie whole in memory, and laws of the walk that go with them.
-/
import Derived.Test.YtnmgfnpphglphaaGreatProg
import Derived.WalkKit
import Derived.Deep.RegionHeld3
import Derived.Lib.Hide
import Derived.Deep.WholeRow
import Derived.Deep.QuietTactic
import Derived.BigQuiet
set_option maxHeartbeats 16000000
set_option maxRecDepth 100000
set_option linter.unusedVariables false
set_option linter.unusedSimpArgs false
namespace Go.Proofs.YtnmgfnpphglphaaGreat
open Go.RowKit
abbrev vi (x : Int) : Value := .int .i64 x
def I64 (x : Int) : Prop := -9223372036854775808 ≤ x ∧ x ≤ 9223372036854775807
structure Sl (α : Type) where
 a : Option Addr
 cap : Nat
 val : List α
 deriving Inhabited
def Sl.nil {α : Type} : Sl α := ⟨none, 0, []⟩
@[go_sem] def Sl.v {α : Type} (s : Sl α) : Value := .slice s.a s.val.length s.cap
structure Sl.OK {α : Type} (sz : Nat) (e : α → Array Value) (ok : (Nat → Prop) → World → α → Prop) (D : Nat → Prop) (w : World) (s : Sl α) : Prop where
 le : s.val.length ≤ s.cap
 room : s.val.length ≤ 4294967296
 isNil : s.a = none → s.val = [] ∧ s.cap = 0
 place : ∀ p, s.a = some p → 0 < s.val.length → p.spot = none ∧ ¬ D p.block ∧ p.block < w.heap.size
 elem : ∀ x ∈ s.val, ok D w x
 cell : ∀ b o, s.a = some ⟨b, o, none⟩ → ∀ i x, s.val[i]? = some x → ∀ j, j < sz → w.cell? ⟨b, o + i * sz + j, none⟩ = (e x)[j]?
theorem pos_of {α : Type} {l : List α} {i : Nat} {x : α} (h : l[i]? = some x) : 0 < l.length := Nat.lt_of_le_of_lt (Nat.zero_le _) (List.getElem?_eq_some_iff.1 h).1
structure Ext (D : Nat → Prop) (w w' : World) : Prop where
 size : w.heap.size ≤ w'.heap.size
 block : ∀ k, k < w.heap.size → ¬ D k → w'.heap[k]? = w.heap[k]?
theorem Ext.refl (D : Nat → Prop) (w : World) : Ext D w w := ⟨Nat.le_refl _, fun _ _ _ => rfl⟩
theorem Ext.trans {D : Nat → Prop} {a b c : World} (h : Ext D a b) (k : Ext D b c) : Ext D a c :=
 ⟨Nat.le_trans h.size k.size, fun i hi hd => (k.block i (Nat.lt_of_lt_of_le hi h.size) hd).trans (h.block i hi hd)⟩
theorem Ext.mono {D D' : Nat → Prop} {w w' : World} (h : Ext D w w') (hd : ∀ k, D k → D' k) : Ext D' w w' :=
 ⟨h.size, fun i hi hn => h.block i hi (fun x => hn (hd i x))⟩
theorem Ext.of_below {D : Nat → Prop} {w w' : World} (h : Below w.heap.size w w') : Ext D w w' := ⟨h.size, fun i hi _ => h.block i hi⟩
theorem Ext.cell {D : Nat → Prop} {w w' : World} (h : Ext D w w') {b : Nat} (hb : b < w.heap.size) (hd : ¬ D b) (o : Nat) : w'.cell? ⟨b, o, none⟩ = w.cell? ⟨b, o, none⟩ :=
 World.cell?_of_block (w := w) (h.block b hb hd)
theorem Ext.frozen {D : Nat → Prop} {w w' : World} (h : Ext D w w') {b : Nat} (hb : b < w.heap.size) (hd : ¬ D b) (o : Nat) : w'.frozen? ⟨b, o, none⟩ = w.frozen? ⟨b, o, none⟩ :=
 World.frozen?_of_block (w := w) (h.block b hb hd)
theorem Sl.OK.ext {α : Type} {sz : Nat} {e : α → Array Value} {ok : (Nat → Prop) → World → α → Prop} {D : Nat → Prop} {w w' : World} {s : Sl α}
  (hok : ∀ x, ok D w x → ok D w' x) (h : Sl.OK sz e ok D w s) (hx : Ext D w w') : Sl.OK sz e ok D w' s := by
 refine ⟨h.le, h.room, h.isNil, fun p hp hl => ?_, fun x hm => hok x (h.elem x hm), fun b o ha i x hi j hj => ?_⟩
 ·obtain ⟨h1, h2, h3⟩ := h.place p hp hl
  exact ⟨h1, h2, Nat.lt_of_lt_of_le h3 hx.size⟩
 ·obtain ⟨_, h2, h3⟩ := h.place _ ha (pos_of hi)
  rw [hx.cell h3 h2]
  exact h.cell b o ha i x hi j hj
theorem Sl.OK.mono {α : Type} {sz : Nat} {e : α → Array Value} {ok : (Nat → Prop) → World → α → Prop} {D D' : Nat → Prop} {w : World} {s : Sl α}
  (hok : ∀ x, ok D w x → ok D' w x) (h : Sl.OK sz e ok D w s) (hd : ∀ k, D' k → D k) : Sl.OK sz e ok D' w s :=
 ⟨h.le, h.room, h.isNil, fun p hp hl => let ⟨h1, h2, h3⟩ := h.place p hp hl; ⟨h1, fun x => h2 (hd _ x), h3⟩, fun x hm => hok x (h.elem x hm), h.cell⟩
theorem Sl.OK.nil {α : Type} (sz : Nat) (e : α → Array Value) (ok : (Nat → Prop) → World → α → Prop) (D : Nat → Prop) (w : World) : Sl.OK sz e ok D w Sl.nil :=
 ⟨by simp [Sl.nil], by simp [Sl.nil], fun _ => ⟨rfl, rfl⟩, fun p hp _ => by simp [Sl.nil] at hp, fun x hx => by simp [Sl.nil] at hx, fun b o h => by simp [Sl.nil] at h⟩
theorem Sl.OK.at {α : Type} {sz : Nat} {e : α → Array Value} {ok : (Nat → Prop) → World → α → Prop} {D : Nat → Prop} {w : World} {s : Sl α}
  (h : Sl.OK sz e ok D w s) {i : Nat} {x : α} (hi : s.val[i]? = some x) :
  ∃ b o, s.a = some ⟨b, o, none⟩ ∧ b < w.heap.size ∧ ¬ D b ∧ ok D w x ∧ ∀ j, j < sz → w.cell? ⟨b, o + i * sz + j, none⟩ = (e x)[j]? := by
 cases ha : s.a with
 | none =>
  have := (h.isNil ha).1
  simp [this] at hi
 | some p =>
  obtain ⟨b, o, sp⟩ := p
  obtain ⟨h1, h2, h3⟩ := h.place _ ha (pos_of hi)
  simp only at h1 h2 h3
  subst h1
  exact ⟨b, o, rfl, h3, h2, h.elem x (List.mem_of_getElem? hi), h.cell b o ha i x hi⟩
theorem run_loadVar_at {P : Program} (w : World) (b o : Nat) (ty : TypeId) (cs : Array Value) (d : TypeDesc) (hc : ∀ j, j < cs.size → w.cell? ⟨b, o + j, none⟩ = cs[j]?)
  (hu : P.underlying ty = some d) (hd : (match d with | .struct _ | .array _ _ => true | _ => false) = true) (hi : (P.info? ty).map (·.size) = some cs.size) :
  (loadVar ty ⟨b, o, none⟩).run P w = .ok (.agg cs) w := by
 have hl : (loadCells ⟨b, o, none⟩ cs.toList.length).run P w = .ok cs.toList.toArray w :=
  run_loadCells_list (P := P) w ⟨b, o, none⟩ cs.toList (fun j v hv => by
   have hadd : (⟨b, o, none⟩ : Addr).add j = ⟨b, o + j, none⟩ := by unfold Addr.add; split <;> simp_all
   have hj : j < cs.size := by have := (List.getElem?_eq_some_iff.1 hv).1; simpa using this
   rw [hadd, hc j hj]
   simpa using hv)
 cases hq : P.info? ty with
 | none => simp [hq] at hi
 | some i =>
  have hs : i.size = cs.size := by simpa [hq] using hi
  have hagg : (isAgg ty).run P w = .ok true w := by
   unfold isAgg
   rw [Sem.run_bind, run_underlying hu w]
   cases d <;> simp_all
  simp only [Array.length_toList, Array.toArray_toList] at hl
  simp [loadVar, Sem.run_bind, hagg, sizeOf, typeInfo, hq, hs, hl]
theorem wp_load_at {P : Program} {o : Oper} {a : Act} {w : World} {K : Act → World → Prop} {Q : Exit → Act → World → Prop} (ty : TypeId) (x : Operand) (ho : o.op = .load ty x)
  (b off : Nat) (hx : a.eval x = .pointer (some ⟨b, off, none⟩)) (cs : Array Value) (d : TypeDesc) (hc : ∀ j, j < cs.size → w.cell? ⟨b, off + j, none⟩ = cs[j]?)
  (hu : P.underlying ty = some d) (hd : (match d with | .struct _ | .array _ _ => true | _ => false) = true) (hi : (P.info? ty).map (·.size) = some cs.size)
  (h : K (a.put o.dst (.agg cs)) w) : o.wp P a w K Q := by
 unfold Oper.wp execOp
 simp only [ho, hx, Instr.loadAt, Instr.sureAddr, Sem.run_bind, Sem.run_pure, Result.andThen_ok, run_loadVar_at w b off ty cs d hc hu hd hi]
 exact h
theorem wpList_load_at {P : Program} {ops : Array Oper} {rest : List Oper} {o : Oper} {a : Act} {w : World} {Q : Exit → Act → World → Prop} (hgd : o.guard = none) (ty : TypeId) (x : Operand) (ho : o.op = .load ty x)
  (b off : Nat) (hx : a.eval x = .pointer (some ⟨b, off, none⟩)) (cs : Array Value) (d : TypeDesc) (hc : ∀ j, j < cs.size → w.cell? ⟨b, off + j, none⟩ = cs[j]?)
  (hu : P.underlying ty = some d) (hd : (match d with | .struct _ | .array _ _ => true | _ => false) = true) (hi : (P.info? ty).map (·.size) = some cs.size)
  (h : wpList P ops Q rest (a.put o.dst (.agg cs)) w) : wpList P ops Q (o :: rest) a w :=
 wpList_plain hgd fun _ hK => wp_load_at ty x ho b off hx cs d hc hu hd hi (hK _ _ h)
theorem wpList_store_new {P : Program} {ops : Array Oper} {rest : List Oper} {o : Oper} {a : Act} {Q : Exit → Act → World → Prop} (hgd : o.guard = none) (ty : TypeId) (x y : Operand) (ho : o.op = .store ty x y)
  (W : World) (old cs : Array Value) (hx : a.eval x = .pointer (some ⟨W.heap.size, 0, none⟩)) (hy : a.eval y = .agg cs)
  (hi : (P.info? ty).map (·.size) = some cs.size) (ho2 : old.size = cs.size) (h1 : cs.all (·.oneCell') = true)
  (h : wpList P ops Q rest (a.put o.dst undef) (W.alloc (.cells cs ty))) : wpList P ops Q (o :: rest) a (W.alloc (.cells old ty)) :=
 wpList_plain hgd fun K hK => by
  unfold Oper.wp execOp
  simp only [ho, hx, hy, Sem.run_bind, run_storeAt_new W ty old cs hi ho2 h1, Result.andThen_ok, Sem.run_pure]
  exact hK _ _ h
theorem behind {n K : Nat} {w W w1 : World} (h0 : Below n w W) (hK : n + K ≤ W.heap.size) (hb : Below W.heap.size W w1) :
  Below n w w1 ∧ (∀ b o, b < W.heap.size → w1.cell? ⟨b, o, none⟩ = W.cell? ⟨b, o, none⟩) ∧ (∀ b o, b < W.heap.size → w1.frozen? ⟨b, o, none⟩ = W.frozen? ⟨b, o, none⟩) ∧
   n + K ≤ w1.heap.size ∧ (∀ i, i < K → n + i < w1.heap.size) ∧ (0 < K → n < w1.heap.size) :=
 ⟨h0.trans (hb.mono (by omega)), fun b o h => hb.cell (p := ⟨b, o, none⟩) h, fun b o h => hb.frozen (p := ⟨b, o, none⟩) h,
  Nat.le_trans hK hb.size, fun i hi => by have := hb.size; omega, fun h => by have := hb.size; omega⟩
def encInt (x : Int) : Array Value := #[vi x]
@[go_sem] theorem encInt_0 (x : Int) : (encInt x)[0]? = some (vi x) := rfl
@[go_sem] theorem encInt_size (x : Int) : (encInt x).size = 1 := rfl
def okInt (_ : Nat → Prop) (_ : World) (x : Int) : Prop := I64 x
def encByte (x : UInt8) : Array Value := #[.int .u8 x.toNat]
@[go_sem] theorem encByte_0 (x : UInt8) : (encByte x)[0]? = some (.int .u8 x.toNat) := rfl
def okByte (_ : Nat → Prop) (_ : World) (_ : UInt8) : Prop := True
theorem okInt.ext {D : Nat → Prop} {w w' : World} {x : Int} (h : okInt D w x) (_ : Ext D w w') : okInt D w' x := h
theorem okInt.mono {D D' : Nat → Prop} {w : World} {x : Int} (h : okInt D w x) (_ : ∀ k, D' k → D k) : okInt D' w x := h
theorem okByte.ext {D : Nat → Prop} {w w' : World} {x : UInt8} (_ : okByte D w x) (_ : Ext D w w') : okByte D w' x := trivial
theorem okByte.mono {D D' : Nat → Prop} {w : World} {x : UInt8} (_ : okByte D w x) (_ : ∀ k, D' k → D k) : okByte D' w x := trivial
structure Span where
 lo : Int
 hi : Int
 deriving Inhabited, DecidableEq
def encSpan (x : Span) : Array Value := #[vi x.lo, vi x.hi]
@[go_sem] theorem encSpan_size (x : Span) : (encSpan x).size = 2 := rfl
@[go_sem] theorem encSpan_0 (x : Span) : (encSpan x)[0]? = some (vi x.lo) := rfl
@[go_sem] theorem encSpan_1 (x : Span) : (encSpan x)[1]? = some (vi x.hi) := rfl
def okSpan (D : Nat → Prop) (w : World) (x : Span) : Prop :=
 I64 x.lo ∧ I64 x.hi
theorem okSpan.ext {D : Nat → Prop} {w w' : World} {x : Span} (h : okSpan D w x) (hx : Ext D w w') : okSpan D w' x := by
 obtain ⟨h0, h1⟩ := h; exact ⟨h0, h1⟩
theorem okSpan.mono {D D' : Nat → Prop} {w : World} {x : Span} (h : okSpan D w x) (hx : ∀ k, D' k → D k) : okSpan D' w x := by
 obtain ⟨h0, h1⟩ := h; exact ⟨h0, h1⟩
structure Gauge where
 edge : Span
 across : Span
 bend : Int
 deriving Inhabited, DecidableEq
def encGauge (x : Gauge) : Array Value := #[vi x.edge.lo, vi x.edge.hi, vi x.across.lo, vi x.across.hi, vi x.bend]
@[go_sem] theorem encGauge_size (x : Gauge) : (encGauge x).size = 5 := rfl
@[go_sem] theorem encGauge_0 (x : Gauge) : (encGauge x)[0]? = some (vi x.edge.lo) := rfl
@[go_sem] theorem encGauge_1 (x : Gauge) : (encGauge x)[1]? = some (vi x.edge.hi) := rfl
@[go_sem] theorem encGauge_2 (x : Gauge) : (encGauge x)[2]? = some (vi x.across.lo) := rfl
@[go_sem] theorem encGauge_3 (x : Gauge) : (encGauge x)[3]? = some (vi x.across.hi) := rfl
@[go_sem] theorem encGauge_4 (x : Gauge) : (encGauge x)[4]? = some (vi x.bend) := rfl
theorem encGauge_one (x : Gauge) : (encGauge x).all (·.oneCell') = true := by simp [encGauge, Sl.v, Value.oneCell']
def okGauge (D : Nat → Prop) (w : World) (x : Gauge) : Prop :=
 I64 x.edge.lo ∧ I64 x.edge.hi ∧ I64 x.across.lo ∧ I64 x.across.hi ∧ I64 x.bend
theorem okGauge.ext {D : Nat → Prop} {w w' : World} {x : Gauge} (h : okGauge D w x) (hx : Ext D w w') : okGauge D w' x := by
 obtain ⟨h0, h1, h2, h3, h4⟩ := h; exact ⟨h0, h1, h2, h3, h4⟩
theorem okGauge.mono {D D' : Nat → Prop} {w : World} {x : Gauge} (h : okGauge D w x) (hx : ∀ k, D' k → D k) : okGauge D' w x := by
 obtain ⟨h0, h1, h2, h3, h4⟩ := h; exact ⟨h0, h1, h2, h3, h4⟩
structure Mark where
 edge : Int
 at_ : Int
 tone : Int
 deriving Inhabited, DecidableEq
def encMark (x : Mark) : Array Value := #[vi x.edge, vi x.at_, vi x.tone]
@[go_sem] theorem encMark_size (x : Mark) : (encMark x).size = 3 := rfl
@[go_sem] theorem encMark_0 (x : Mark) : (encMark x)[0]? = some (vi x.edge) := rfl
@[go_sem] theorem encMark_1 (x : Mark) : (encMark x)[1]? = some (vi x.at_) := rfl
@[go_sem] theorem encMark_2 (x : Mark) : (encMark x)[2]? = some (vi x.tone) := rfl
theorem encMark_one (x : Mark) : (encMark x).all (·.oneCell') = true := by simp [encMark, Sl.v, Value.oneCell']
def okMark (D : Nat → Prop) (w : World) (x : Mark) : Prop :=
 I64 x.edge ∧ I64 x.at_ ∧ I64 x.tone
theorem okMark.ext {D : Nat → Prop} {w w' : World} {x : Mark} (h : okMark D w x) (hx : Ext D w w') : okMark D w' x := by
 obtain ⟨h0, h1, h2⟩ := h; exact ⟨h0, h1, h2⟩
theorem okMark.mono {D D' : Nat → Prop} {w : World} {x : Mark} (h : okMark D w x) (hx : ∀ k, D' k → D k) : okMark D' w x := by
 obtain ⟨h0, h1, h2⟩ := h; exact ⟨h0, h1, h2⟩
structure Piece where
 id : Int
 colour : Int
 reverse : Int
 made : Int
 swell : Int
 gauges : Sl Gauge
 marks : Sl Mark
 deriving Inhabited
def encPiece (x : Piece) : Array Value := #[vi x.id, vi x.colour, vi x.reverse, vi x.made, vi x.swell, x.gauges.v, x.marks.v]
@[go_sem] theorem encPiece_size (x : Piece) : (encPiece x).size = 7 := rfl
@[go_sem] theorem encPiece_0 (x : Piece) : (encPiece x)[0]? = some (vi x.id) := rfl
@[go_sem] theorem encPiece_1 (x : Piece) : (encPiece x)[1]? = some (vi x.colour) := rfl
@[go_sem] theorem encPiece_2 (x : Piece) : (encPiece x)[2]? = some (vi x.reverse) := rfl
@[go_sem] theorem encPiece_3 (x : Piece) : (encPiece x)[3]? = some (vi x.made) := rfl
@[go_sem] theorem encPiece_4 (x : Piece) : (encPiece x)[4]? = some (vi x.swell) := rfl
@[go_sem] theorem encPiece_5 (x : Piece) : (encPiece x)[5]? = some (x.gauges.v) := rfl
@[go_sem] theorem encPiece_6 (x : Piece) : (encPiece x)[6]? = some (x.marks.v) := rfl
theorem encPiece_one (x : Piece) : (encPiece x).all (·.oneCell') = true := by simp [encPiece, Sl.v, Value.oneCell']
def okPiece (D : Nat → Prop) (w : World) (x : Piece) : Prop :=
 I64 x.id ∧ I64 x.colour ∧ I64 x.reverse ∧ I64 x.made ∧ I64 x.swell ∧ Sl.OK 5 encGauge okGauge D w x.gauges ∧ Sl.OK 3 encMark okMark D w x.marks
structure PieceA where
 id : Int
 colour : Int
 reverse : Int
 made : Int
 swell : Int
 gauges : List Gauge
 marks : List Mark
 deriving Inhabited, DecidableEq
def Piece.abs (x : Piece) : PieceA := ⟨x.id, x.colour, x.reverse, x.made, x.swell, x.gauges.val, x.marks.val⟩
theorem okPiece.ext {D : Nat → Prop} {w w' : World} {x : Piece} (h : okPiece D w x) (hx : Ext D w w') : okPiece D w' x := by
 obtain ⟨h0, h1, h2, h3, h4, h5, h6⟩ := h; exact ⟨h0, h1, h2, h3, h4, h5.ext (fun _ k => okGauge.ext k hx) hx, h6.ext (fun _ k => okMark.ext k hx) hx⟩
theorem okPiece.mono {D D' : Nat → Prop} {w : World} {x : Piece} (h : okPiece D w x) (hx : ∀ k, D' k → D k) : okPiece D' w x := by
 obtain ⟨h0, h1, h2, h3, h4, h5, h6⟩ := h; exact ⟨h0, h1, h2, h3, h4, h5.mono (fun _ k => okGauge.mono k hx) hx, h6.mono (fun _ k => okMark.mono k hx) hx⟩
structure Sight where
 pane : Int
 edge : Int
 grey : Span
 at_ : Span
 count : Span
 deriving Inhabited, DecidableEq
def encSight (x : Sight) : Array Value := #[vi x.pane, vi x.edge, vi x.grey.lo, vi x.grey.hi, vi x.at_.lo, vi x.at_.hi, vi x.count.lo, vi x.count.hi]
@[go_sem] theorem encSight_size (x : Sight) : (encSight x).size = 8 := rfl
@[go_sem] theorem encSight_0 (x : Sight) : (encSight x)[0]? = some (vi x.pane) := rfl
@[go_sem] theorem encSight_1 (x : Sight) : (encSight x)[1]? = some (vi x.edge) := rfl
@[go_sem] theorem encSight_2 (x : Sight) : (encSight x)[2]? = some (vi x.grey.lo) := rfl
@[go_sem] theorem encSight_3 (x : Sight) : (encSight x)[3]? = some (vi x.grey.hi) := rfl
@[go_sem] theorem encSight_4 (x : Sight) : (encSight x)[4]? = some (vi x.at_.lo) := rfl
@[go_sem] theorem encSight_5 (x : Sight) : (encSight x)[5]? = some (vi x.at_.hi) := rfl
@[go_sem] theorem encSight_6 (x : Sight) : (encSight x)[6]? = some (vi x.count.lo) := rfl
@[go_sem] theorem encSight_7 (x : Sight) : (encSight x)[7]? = some (vi x.count.hi) := rfl
theorem encSight_one (x : Sight) : (encSight x).all (·.oneCell') = true := by simp [encSight, Sl.v, Value.oneCell']
def okSight (D : Nat → Prop) (w : World) (x : Sight) : Prop :=
 I64 x.pane ∧ I64 x.edge ∧ I64 x.grey.lo ∧ I64 x.grey.hi ∧ I64 x.at_.lo ∧ I64 x.at_.hi ∧ I64 x.count.lo ∧ I64 x.count.hi
theorem okSight.ext {D : Nat → Prop} {w w' : World} {x : Sight} (h : okSight D w x) (hx : Ext D w w') : okSight D w' x := by
 obtain ⟨h0, h1, h2, h3, h4, h5, h6, h7⟩ := h; exact ⟨h0, h1, h2, h3, h4, h5, h6, h7⟩
theorem okSight.mono {D D' : Nat → Prop} {w : World} {x : Sight} (h : okSight D w x) (hx : ∀ k, D' k → D k) : okSight D' w x := by
 obtain ⟨h0, h1, h2, h3, h4, h5, h6, h7⟩ := h; exact ⟨h0, h1, h2, h3, h4, h5, h6, h7⟩
structure Item where
 id : Int
 kind : Int
 year : Int
 film : Int
 piece : Int
 lead : Int
 slack : Int
 panes : Sl Int
 colours : Sl Int
 count : Span
 sights : Sl Sight
 deriving Inhabited
def encItem (x : Item) : Array Value := #[vi x.id, vi x.kind, vi x.year, vi x.film, vi x.piece, vi x.lead, vi x.slack, x.panes.v, x.colours.v, vi x.count.lo, vi x.count.hi, x.sights.v]
@[go_sem] theorem encItem_size (x : Item) : (encItem x).size = 12 := rfl
@[go_sem] theorem encItem_0 (x : Item) : (encItem x)[0]? = some (vi x.id) := rfl
@[go_sem] theorem encItem_1 (x : Item) : (encItem x)[1]? = some (vi x.kind) := rfl
@[go_sem] theorem encItem_2 (x : Item) : (encItem x)[2]? = some (vi x.year) := rfl
@[go_sem] theorem encItem_3 (x : Item) : (encItem x)[3]? = some (vi x.film) := rfl
@[go_sem] theorem encItem_4 (x : Item) : (encItem x)[4]? = some (vi x.piece) := rfl
@[go_sem] theorem encItem_5 (x : Item) : (encItem x)[5]? = some (vi x.lead) := rfl
@[go_sem] theorem encItem_6 (x : Item) : (encItem x)[6]? = some (vi x.slack) := rfl
@[go_sem] theorem encItem_7 (x : Item) : (encItem x)[7]? = some (x.panes.v) := rfl
@[go_sem] theorem encItem_8 (x : Item) : (encItem x)[8]? = some (x.colours.v) := rfl
@[go_sem] theorem encItem_9 (x : Item) : (encItem x)[9]? = some (vi x.count.lo) := rfl
@[go_sem] theorem encItem_10 (x : Item) : (encItem x)[10]? = some (vi x.count.hi) := rfl
@[go_sem] theorem encItem_11 (x : Item) : (encItem x)[11]? = some (x.sights.v) := rfl
theorem encItem_one (x : Item) : (encItem x).all (·.oneCell') = true := by simp [encItem, Sl.v, Value.oneCell']
def okItem (D : Nat → Prop) (w : World) (x : Item) : Prop :=
 I64 x.id ∧ I64 x.kind ∧ I64 x.year ∧ I64 x.film ∧ I64 x.piece ∧ I64 x.lead ∧ I64 x.slack ∧ I64 x.count.lo ∧ I64 x.count.hi ∧ Sl.OK 1 encInt okInt D w x.panes ∧ Sl.OK 1 encInt okInt D w x.colours ∧ Sl.OK 8 encSight okSight D w x.sights
structure ItemA where
 id : Int
 kind : Int
 year : Int
 film : Int
 piece : Int
 lead : Int
 slack : Int
 panes : List Int
 colours : List Int
 count : Span
 sights : List Sight
 deriving Inhabited, DecidableEq
def Item.abs (x : Item) : ItemA := ⟨x.id, x.kind, x.year, x.film, x.piece, x.lead, x.slack, x.panes.val, x.colours.val, x.count, x.sights.val⟩
theorem okItem.ext {D : Nat → Prop} {w w' : World} {x : Item} (h : okItem D w x) (hx : Ext D w w') : okItem D w' x := by
 obtain ⟨h0, h1, h2, h3, h4, h5, h6, h7, h8, h9, h10, h11⟩ := h; exact ⟨h0, h1, h2, h3, h4, h5, h6, h7, h8, h9.ext (fun _ k => okInt.ext k hx) hx, h10.ext (fun _ k => okInt.ext k hx) hx, h11.ext (fun _ k => okSight.ext k hx) hx⟩
theorem okItem.mono {D D' : Nat → Prop} {w : World} {x : Item} (h : okItem D w x) (hx : ∀ k, D' k → D k) : okItem D' w x := by
 obtain ⟨h0, h1, h2, h3, h4, h5, h6, h7, h8, h9, h10, h11⟩ := h; exact ⟨h0, h1, h2, h3, h4, h5, h6, h7, h8, h9.mono (fun _ k => okInt.mono k hx) hx, h10.mono (fun _ k => okInt.mono k hx) hx, h11.mono (fun _ k => okSight.mono k hx) hx⟩
structure Setting where
 shift : Int
 back : Bool
 deriving Inhabited, DecidableEq
def encSetting (x : Setting) : Array Value := #[vi x.shift, .bool x.back]
@[go_sem] theorem encSetting_size (x : Setting) : (encSetting x).size = 2 := rfl
@[go_sem] theorem encSetting_0 (x : Setting) : (encSetting x)[0]? = some (vi x.shift) := rfl
@[go_sem] theorem encSetting_1 (x : Setting) : (encSetting x)[1]? = some (.bool x.back) := rfl
theorem encSetting_one (x : Setting) : (encSetting x).all (·.oneCell') = true := by simp [encSetting, Sl.v, Value.oneCell']
def okSetting (D : Nat → Prop) (w : World) (x : Setting) : Prop :=
 I64 x.shift
theorem okSetting.ext {D : Nat → Prop} {w w' : World} {x : Setting} (h : okSetting D w x) (hx : Ext D w w') : okSetting D w' x := by
 have h0 := h; exact h0
theorem okSetting.mono {D D' : Nat → Prop} {w : World} {x : Setting} (h : okSetting D w x) (hx : ∀ k, D' k → D k) : okSetting D' w x := by
 have h0 := h; exact h0
structure Ref where
 bench : Int
 num : Int
 deriving Inhabited, DecidableEq
def encRef (x : Ref) : Array Value := #[vi x.bench, vi x.num]
@[go_sem] theorem encRef_size (x : Ref) : (encRef x).size = 2 := rfl
@[go_sem] theorem encRef_0 (x : Ref) : (encRef x)[0]? = some (vi x.bench) := rfl
@[go_sem] theorem encRef_1 (x : Ref) : (encRef x)[1]? = some (vi x.num) := rfl
theorem encRef_one (x : Ref) : (encRef x).all (·.oneCell') = true := by simp [encRef, Sl.v, Value.oneCell']
def okRef (D : Nat → Prop) (w : World) (x : Ref) : Prop :=
 I64 x.bench ∧ I64 x.num
theorem okRef.ext {D : Nat → Prop} {w w' : World} {x : Ref} (h : okRef D w x) (hx : Ext D w w') : okRef D w' x := by
 obtain ⟨h0, h1⟩ := h; exact ⟨h0, h1⟩
theorem okRef.mono {D D' : Nat → Prop} {w : World} {x : Ref} (h : okRef D w x) (hx : ∀ k, D' k → D k) : okRef D' w x := by
 obtain ⟨h0, h1⟩ := h; exact ⟨h0, h1⟩
structure Note where
 bench : Int
 num : Int
 clock : Int
 year : Int
 kind : Int
 fix : Int
 piece : Int
 pane : Int
 colour : Int
 to : Int
 setting : Setting
 ref : Ref
 pieces : Sl Int
 panes : Sl Int
 data : Sl Piece
 item : Item
 deriving Inhabited
def encNote (x : Note) : Array Value := #[vi x.bench, vi x.num, vi x.clock, vi x.year, vi x.kind, vi x.fix, vi x.piece, vi x.pane, vi x.colour, vi x.to, vi x.setting.shift, .bool x.setting.back, vi x.ref.bench, vi x.ref.num, x.pieces.v, x.panes.v, x.data.v, vi x.item.id, vi x.item.kind, vi x.item.year, vi x.item.film, vi x.item.piece, vi x.item.lead, vi x.item.slack, x.item.panes.v, x.item.colours.v, vi x.item.count.lo, vi x.item.count.hi, x.item.sights.v]
@[go_sem] theorem encNote_size (x : Note) : (encNote x).size = 29 := rfl
@[go_sem] theorem encNote_0 (x : Note) : (encNote x)[0]? = some (vi x.bench) := rfl
@[go_sem] theorem encNote_1 (x : Note) : (encNote x)[1]? = some (vi x.num) := rfl
@[go_sem] theorem encNote_2 (x : Note) : (encNote x)[2]? = some (vi x.clock) := rfl
@[go_sem] theorem encNote_3 (x : Note) : (encNote x)[3]? = some (vi x.year) := rfl
@[go_sem] theorem encNote_4 (x : Note) : (encNote x)[4]? = some (vi x.kind) := rfl
@[go_sem] theorem encNote_5 (x : Note) : (encNote x)[5]? = some (vi x.fix) := rfl
@[go_sem] theorem encNote_6 (x : Note) : (encNote x)[6]? = some (vi x.piece) := rfl
@[go_sem] theorem encNote_7 (x : Note) : (encNote x)[7]? = some (vi x.pane) := rfl
@[go_sem] theorem encNote_8 (x : Note) : (encNote x)[8]? = some (vi x.colour) := rfl
@[go_sem] theorem encNote_9 (x : Note) : (encNote x)[9]? = some (vi x.to) := rfl
@[go_sem] theorem encNote_10 (x : Note) : (encNote x)[10]? = some (vi x.setting.shift) := rfl
@[go_sem] theorem encNote_11 (x : Note) : (encNote x)[11]? = some (.bool x.setting.back) := rfl
@[go_sem] theorem encNote_12 (x : Note) : (encNote x)[12]? = some (vi x.ref.bench) := rfl
@[go_sem] theorem encNote_13 (x : Note) : (encNote x)[13]? = some (vi x.ref.num) := rfl
@[go_sem] theorem encNote_14 (x : Note) : (encNote x)[14]? = some (x.pieces.v) := rfl
@[go_sem] theorem encNote_15 (x : Note) : (encNote x)[15]? = some (x.panes.v) := rfl
@[go_sem] theorem encNote_16 (x : Note) : (encNote x)[16]? = some (x.data.v) := rfl
@[go_sem] theorem encNote_17 (x : Note) : (encNote x)[17]? = some (vi x.item.id) := rfl
@[go_sem] theorem encNote_18 (x : Note) : (encNote x)[18]? = some (vi x.item.kind) := rfl
@[go_sem] theorem encNote_19 (x : Note) : (encNote x)[19]? = some (vi x.item.year) := rfl
@[go_sem] theorem encNote_20 (x : Note) : (encNote x)[20]? = some (vi x.item.film) := rfl
@[go_sem] theorem encNote_21 (x : Note) : (encNote x)[21]? = some (vi x.item.piece) := rfl
@[go_sem] theorem encNote_22 (x : Note) : (encNote x)[22]? = some (vi x.item.lead) := rfl
@[go_sem] theorem encNote_23 (x : Note) : (encNote x)[23]? = some (vi x.item.slack) := rfl
@[go_sem] theorem encNote_24 (x : Note) : (encNote x)[24]? = some (x.item.panes.v) := rfl
@[go_sem] theorem encNote_25 (x : Note) : (encNote x)[25]? = some (x.item.colours.v) := rfl
@[go_sem] theorem encNote_26 (x : Note) : (encNote x)[26]? = some (vi x.item.count.lo) := rfl
@[go_sem] theorem encNote_27 (x : Note) : (encNote x)[27]? = some (vi x.item.count.hi) := rfl
@[go_sem] theorem encNote_28 (x : Note) : (encNote x)[28]? = some (x.item.sights.v) := rfl
theorem encNote_one (x : Note) : (encNote x).all (·.oneCell') = true := by simp [encNote, Sl.v, Value.oneCell']
def okNote (D : Nat → Prop) (w : World) (x : Note) : Prop :=
 I64 x.bench ∧ I64 x.num ∧ I64 x.clock ∧ I64 x.year ∧ I64 x.kind ∧ I64 x.fix ∧ I64 x.piece ∧ I64 x.pane ∧ I64 x.colour ∧ I64 x.to ∧ I64 x.setting.shift ∧ I64 x.ref.bench ∧ I64 x.ref.num ∧ I64 x.item.id ∧ I64 x.item.kind ∧ I64 x.item.year ∧ I64 x.item.film ∧ I64 x.item.piece ∧ I64 x.item.lead ∧ I64 x.item.slack ∧ I64 x.item.count.lo ∧ I64 x.item.count.hi ∧ Sl.OK 1 encInt okInt D w x.pieces ∧ Sl.OK 1 encInt okInt D w x.panes ∧ Sl.OK 7 encPiece okPiece D w x.data ∧ Sl.OK 1 encInt okInt D w x.item.panes ∧ Sl.OK 1 encInt okInt D w x.item.colours ∧ Sl.OK 8 encSight okSight D w x.item.sights
structure NoteA where
 bench : Int
 num : Int
 clock : Int
 year : Int
 kind : Int
 fix : Int
 piece : Int
 pane : Int
 colour : Int
 to : Int
 setting : Setting
 ref : Ref
 pieces : List Int
 panes : List Int
 data : List PieceA
 item : ItemA
 deriving Inhabited, DecidableEq
def Note.abs (x : Note) : NoteA := ⟨x.bench, x.num, x.clock, x.year, x.kind, x.fix, x.piece, x.pane, x.colour, x.to, x.setting, x.ref, x.pieces.val, x.panes.val, x.data.val.map Piece.abs, x.item.abs⟩
theorem okNote.ext {D : Nat → Prop} {w w' : World} {x : Note} (h : okNote D w x) (hx : Ext D w w') : okNote D w' x := by
 obtain ⟨h0, h1, h2, h3, h4, h5, h6, h7, h8, h9, h10, h11, h12, h13, h14, h15, h16, h17, h18, h19, h20, h21, h22, h23, h24, h25, h26, h27⟩ := h; exact ⟨h0, h1, h2, h3, h4, h5, h6, h7, h8, h9, h10, h11, h12, h13, h14, h15, h16, h17, h18, h19, h20, h21, h22.ext (fun _ k => okInt.ext k hx) hx, h23.ext (fun _ k => okInt.ext k hx) hx, h24.ext (fun _ k => okPiece.ext k hx) hx, h25.ext (fun _ k => okInt.ext k hx) hx, h26.ext (fun _ k => okInt.ext k hx) hx, h27.ext (fun _ k => okSight.ext k hx) hx⟩
theorem okNote.mono {D D' : Nat → Prop} {w : World} {x : Note} (h : okNote D w x) (hx : ∀ k, D' k → D k) : okNote D' w x := by
 obtain ⟨h0, h1, h2, h3, h4, h5, h6, h7, h8, h9, h10, h11, h12, h13, h14, h15, h16, h17, h18, h19, h20, h21, h22, h23, h24, h25, h26, h27⟩ := h; exact ⟨h0, h1, h2, h3, h4, h5, h6, h7, h8, h9, h10, h11, h12, h13, h14, h15, h16, h17, h18, h19, h20, h21, h22.mono (fun _ k => okInt.mono k hx) hx, h23.mono (fun _ k => okInt.mono k hx) hx, h24.mono (fun _ k => okPiece.mono k hx) hx, h25.mono (fun _ k => okInt.mono k hx) hx, h26.mono (fun _ k => okInt.mono k hx) hx, h27.mono (fun _ k => okSight.mono k hx) hx⟩
structure Where where
 piece : Int
 kind : Int
 at_ : Int
 setting : Setting
 tray : Ref
 deriving Inhabited, DecidableEq
def encWhere (x : Where) : Array Value := #[vi x.piece, vi x.kind, vi x.at_, vi x.setting.shift, .bool x.setting.back, vi x.tray.bench, vi x.tray.num]
@[go_sem] theorem encWhere_size (x : Where) : (encWhere x).size = 7 := rfl
@[go_sem] theorem encWhere_0 (x : Where) : (encWhere x)[0]? = some (vi x.piece) := rfl
@[go_sem] theorem encWhere_1 (x : Where) : (encWhere x)[1]? = some (vi x.kind) := rfl
@[go_sem] theorem encWhere_2 (x : Where) : (encWhere x)[2]? = some (vi x.at_) := rfl
@[go_sem] theorem encWhere_3 (x : Where) : (encWhere x)[3]? = some (vi x.setting.shift) := rfl
@[go_sem] theorem encWhere_4 (x : Where) : (encWhere x)[4]? = some (.bool x.setting.back) := rfl
@[go_sem] theorem encWhere_5 (x : Where) : (encWhere x)[5]? = some (vi x.tray.bench) := rfl
@[go_sem] theorem encWhere_6 (x : Where) : (encWhere x)[6]? = some (vi x.tray.num) := rfl
theorem encWhere_one (x : Where) : (encWhere x).all (·.oneCell') = true := by simp [encWhere, Sl.v, Value.oneCell']
def okWhere (D : Nat → Prop) (w : World) (x : Where) : Prop :=
 I64 x.piece ∧ I64 x.kind ∧ I64 x.at_ ∧ I64 x.setting.shift ∧ I64 x.tray.bench ∧ I64 x.tray.num
theorem okWhere.ext {D : Nat → Prop} {w w' : World} {x : Where} (h : okWhere D w x) (hx : Ext D w w') : okWhere D w' x := by
 obtain ⟨h0, h1, h2, h3, h4, h5⟩ := h; exact ⟨h0, h1, h2, h3, h4, h5⟩
theorem okWhere.mono {D D' : Nat → Prop} {w : World} {x : Where} (h : okWhere D w x) (hx : ∀ k, D' k → D k) : okWhere D' w x := by
 obtain ⟨h0, h1, h2, h3, h4, h5⟩ := h; exact ⟨h0, h1, h2, h3, h4, h5⟩
structure Held where
 pane : Int
 piece : Int
 colour : Int
 setting : Setting
 deriving Inhabited, DecidableEq
def encHeld (x : Held) : Array Value := #[vi x.pane, vi x.piece, vi x.colour, vi x.setting.shift, .bool x.setting.back]
@[go_sem] theorem encHeld_size (x : Held) : (encHeld x).size = 5 := rfl
@[go_sem] theorem encHeld_0 (x : Held) : (encHeld x)[0]? = some (vi x.pane) := rfl
@[go_sem] theorem encHeld_1 (x : Held) : (encHeld x)[1]? = some (vi x.piece) := rfl
@[go_sem] theorem encHeld_2 (x : Held) : (encHeld x)[2]? = some (vi x.colour) := rfl
@[go_sem] theorem encHeld_3 (x : Held) : (encHeld x)[3]? = some (vi x.setting.shift) := rfl
@[go_sem] theorem encHeld_4 (x : Held) : (encHeld x)[4]? = some (.bool x.setting.back) := rfl
theorem encHeld_one (x : Held) : (encHeld x).all (·.oneCell') = true := by simp [encHeld, Sl.v, Value.oneCell']
def okHeld (D : Nat → Prop) (w : World) (x : Held) : Prop :=
 I64 x.pane ∧ I64 x.piece ∧ I64 x.colour ∧ I64 x.setting.shift
theorem okHeld.ext {D : Nat → Prop} {w w' : World} {x : Held} (h : okHeld D w x) (hx : Ext D w w') : okHeld D w' x := by
 obtain ⟨h0, h1, h2, h3⟩ := h; exact ⟨h0, h1, h2, h3⟩
theorem okHeld.mono {D D' : Nat → Prop} {w : World} {x : Held} (h : okHeld D w x) (hx : ∀ k, D' k → D k) : okHeld D' w x := by
 obtain ⟨h0, h1, h2, h3⟩ := h; exact ⟨h0, h1, h2, h3⟩
structure Relead where
 year : Int
 panes : Sl Int
 deriving Inhabited
def encRelead (x : Relead) : Array Value := #[vi x.year, x.panes.v]
@[go_sem] theorem encRelead_size (x : Relead) : (encRelead x).size = 2 := rfl
@[go_sem] theorem encRelead_0 (x : Relead) : (encRelead x)[0]? = some (vi x.year) := rfl
@[go_sem] theorem encRelead_1 (x : Relead) : (encRelead x)[1]? = some (x.panes.v) := rfl
theorem encRelead_one (x : Relead) : (encRelead x).all (·.oneCell') = true := by simp [encRelead, Sl.v, Value.oneCell']
def okRelead (D : Nat → Prop) (w : World) (x : Relead) : Prop :=
 I64 x.year ∧ Sl.OK 1 encInt okInt D w x.panes
structure ReleadA where
 year : Int
 panes : List Int
 deriving Inhabited, DecidableEq
def Relead.abs (x : Relead) : ReleadA := ⟨x.year, x.panes.val⟩
theorem okRelead.ext {D : Nat → Prop} {w w' : World} {x : Relead} (h : okRelead D w x) (hx : Ext D w w') : okRelead D w' x := by
 obtain ⟨h0, h1⟩ := h; exact ⟨h0, h1.ext (fun _ k => okInt.ext k hx) hx⟩
theorem okRelead.mono {D D' : Nat → Prop} {w : World} {x : Relead} (h : okRelead D w x) (hx : ∀ k, D' k → D k) : okRelead D' w x := by
 obtain ⟨h0, h1⟩ := h; exact ⟨h0, h1.mono (fun _ k => okInt.mono k hx) hx⟩
structure Stay where
 year : Int
 ref : Ref
 where_ : Where
 deriving Inhabited, DecidableEq
def encStay (x : Stay) : Array Value := #[vi x.year, vi x.ref.bench, vi x.ref.num, vi x.where_.piece, vi x.where_.kind, vi x.where_.at_, vi x.where_.setting.shift, .bool x.where_.setting.back, vi x.where_.tray.bench, vi x.where_.tray.num]
@[go_sem] theorem encStay_size (x : Stay) : (encStay x).size = 10 := rfl
@[go_sem] theorem encStay_0 (x : Stay) : (encStay x)[0]? = some (vi x.year) := rfl
@[go_sem] theorem encStay_1 (x : Stay) : (encStay x)[1]? = some (vi x.ref.bench) := rfl
@[go_sem] theorem encStay_2 (x : Stay) : (encStay x)[2]? = some (vi x.ref.num) := rfl
@[go_sem] theorem encStay_3 (x : Stay) : (encStay x)[3]? = some (vi x.where_.piece) := rfl
@[go_sem] theorem encStay_4 (x : Stay) : (encStay x)[4]? = some (vi x.where_.kind) := rfl
@[go_sem] theorem encStay_5 (x : Stay) : (encStay x)[5]? = some (vi x.where_.at_) := rfl
@[go_sem] theorem encStay_6 (x : Stay) : (encStay x)[6]? = some (vi x.where_.setting.shift) := rfl
@[go_sem] theorem encStay_7 (x : Stay) : (encStay x)[7]? = some (.bool x.where_.setting.back) := rfl
@[go_sem] theorem encStay_8 (x : Stay) : (encStay x)[8]? = some (vi x.where_.tray.bench) := rfl
@[go_sem] theorem encStay_9 (x : Stay) : (encStay x)[9]? = some (vi x.where_.tray.num) := rfl
def okStay (D : Nat → Prop) (w : World) (x : Stay) : Prop :=
 I64 x.year ∧ I64 x.ref.bench ∧ I64 x.ref.num ∧ I64 x.where_.piece ∧ I64 x.where_.kind ∧ I64 x.where_.at_ ∧ I64 x.where_.setting.shift ∧ I64 x.where_.tray.bench ∧ I64 x.where_.tray.num
theorem okStay.ext {D : Nat → Prop} {w w' : World} {x : Stay} (h : okStay D w x) (hx : Ext D w w') : okStay D w' x := by
 obtain ⟨h0, h1, h2, h3, h4, h5, h6, h7, h8⟩ := h; exact ⟨h0, h1, h2, h3, h4, h5, h6, h7, h8⟩
theorem okStay.mono {D D' : Nat → Prop} {w : World} {x : Stay} (h : okStay D w x) (hx : ∀ k, D' k → D k) : okStay D' w x := by
 obtain ⟨h0, h1, h2, h3, h4, h5, h6, h7, h8⟩ := h; exact ⟨h0, h1, h2, h3, h4, h5, h6, h7, h8⟩
structure Tray where
 ref : Ref
 to : Int
 arrived : Bool
 deriving Inhabited, DecidableEq
def encTray (x : Tray) : Array Value := #[vi x.ref.bench, vi x.ref.num, vi x.to, .bool x.arrived]
@[go_sem] theorem encTray_size (x : Tray) : (encTray x).size = 4 := rfl
@[go_sem] theorem encTray_0 (x : Tray) : (encTray x)[0]? = some (vi x.ref.bench) := rfl
@[go_sem] theorem encTray_1 (x : Tray) : (encTray x)[1]? = some (vi x.ref.num) := rfl
@[go_sem] theorem encTray_2 (x : Tray) : (encTray x)[2]? = some (vi x.to) := rfl
@[go_sem] theorem encTray_3 (x : Tray) : (encTray x)[3]? = some (.bool x.arrived) := rfl
def okTray (D : Nat → Prop) (w : World) (x : Tray) : Prop :=
 I64 x.ref.bench ∧ I64 x.ref.num ∧ I64 x.to
theorem okTray.ext {D : Nat → Prop} {w w' : World} {x : Tray} (h : okTray D w x) (hx : Ext D w w') : okTray D w' x := by
 obtain ⟨h0, h1, h2⟩ := h; exact ⟨h0, h1, h2⟩
theorem okTray.mono {D D' : Nat → Prop} {w : World} {x : Tray} (h : okTray D w x) (hx : ∀ k, D' k → D k) : okTray D' w x := by
 obtain ⟨h0, h1, h2⟩ := h; exact ⟨h0, h1, h2⟩
structure Mail where
 frm : Int
 to : Int
 body : Sl UInt8
 deriving Inhabited
def encMail (x : Mail) : Array Value := #[vi x.frm, vi x.to, x.body.v]
@[go_sem] theorem encMail_size (x : Mail) : (encMail x).size = 3 := rfl
@[go_sem] theorem encMail_0 (x : Mail) : (encMail x)[0]? = some (vi x.frm) := rfl
@[go_sem] theorem encMail_1 (x : Mail) : (encMail x)[1]? = some (vi x.to) := rfl
@[go_sem] theorem encMail_2 (x : Mail) : (encMail x)[2]? = some (x.body.v) := rfl
def okMail (D : Nat → Prop) (w : World) (x : Mail) : Prop :=
 I64 x.frm ∧ I64 x.to ∧ Sl.OK 1 encByte okByte D w x.body
structure MailA where
 frm : Int
 to : Int
 body : List UInt8
 deriving Inhabited, DecidableEq
def Mail.abs (x : Mail) : MailA := ⟨x.frm, x.to, x.body.val⟩
theorem okMail.ext {D : Nat → Prop} {w w' : World} {x : Mail} (h : okMail D w x) (hx : Ext D w w') : okMail D w' x := by
 obtain ⟨h0, h1, h2⟩ := h; exact ⟨h0, h1, h2.ext (fun _ k => okByte.ext k hx) hx⟩
theorem okMail.mono {D D' : Nat → Prop} {w : World} {x : Mail} (h : okMail D w x) (hx : ∀ k, D' k → D k) : okMail D' w x := by
 obtain ⟨h0, h1, h2⟩ := h; exact ⟨h0, h1, h2.mono (fun _ k => okByte.mono k hx) hx⟩
structure Register where
 pieces : Sl Piece
 wher : Sl Where
 new_ : Sl Held
 items : Sl Item
 releads : Sl Relead
 conflicts : Sl Ref
 deriving Inhabited
def encRegister (x : Register) : Array Value := #[x.pieces.v, x.wher.v, x.new_.v, x.items.v, x.releads.v, x.conflicts.v]
@[go_sem] theorem encRegister_size (x : Register) : (encRegister x).size = 6 := rfl
@[go_sem] theorem encRegister_0 (x : Register) : (encRegister x)[0]? = some (x.pieces.v) := rfl
@[go_sem] theorem encRegister_1 (x : Register) : (encRegister x)[1]? = some (x.wher.v) := rfl
@[go_sem] theorem encRegister_2 (x : Register) : (encRegister x)[2]? = some (x.new_.v) := rfl
@[go_sem] theorem encRegister_3 (x : Register) : (encRegister x)[3]? = some (x.items.v) := rfl
@[go_sem] theorem encRegister_4 (x : Register) : (encRegister x)[4]? = some (x.releads.v) := rfl
@[go_sem] theorem encRegister_5 (x : Register) : (encRegister x)[5]? = some (x.conflicts.v) := rfl
theorem encRegister_one (x : Register) : (encRegister x).all (·.oneCell') = true := by simp [encRegister, Sl.v, Value.oneCell']
def okRegister (D : Nat → Prop) (w : World) (x : Register) : Prop :=
 Sl.OK 7 encPiece okPiece D w x.pieces ∧ Sl.OK 7 encWhere okWhere D w x.wher ∧ Sl.OK 5 encHeld okHeld D w x.new_ ∧ Sl.OK 12 encItem okItem D w x.items ∧ Sl.OK 2 encRelead okRelead D w x.releads ∧ Sl.OK 2 encRef okRef D w x.conflicts
structure RegisterA where
 pieces : List PieceA
 wher : List Where
 new_ : List Held
 items : List ItemA
 releads : List ReleadA
 conflicts : List Ref
 deriving Inhabited, DecidableEq
def Register.abs (x : Register) : RegisterA := ⟨x.pieces.val.map Piece.abs, x.wher.val, x.new_.val, x.items.val.map Item.abs, x.releads.val.map Relead.abs, x.conflicts.val⟩
theorem okRegister.ext {D : Nat → Prop} {w w' : World} {x : Register} (h : okRegister D w x) (hx : Ext D w w') : okRegister D w' x := by
 obtain ⟨h0, h1, h2, h3, h4, h5⟩ := h; exact ⟨h0.ext (fun _ k => okPiece.ext k hx) hx, h1.ext (fun _ k => okWhere.ext k hx) hx, h2.ext (fun _ k => okHeld.ext k hx) hx, h3.ext (fun _ k => okItem.ext k hx) hx, h4.ext (fun _ k => okRelead.ext k hx) hx, h5.ext (fun _ k => okRef.ext k hx) hx⟩
theorem okRegister.mono {D D' : Nat → Prop} {w : World} {x : Register} (h : okRegister D w x) (hx : ∀ k, D' k → D k) : okRegister D' w x := by
 obtain ⟨h0, h1, h2, h3, h4, h5⟩ := h; exact ⟨h0.mono (fun _ k => okPiece.mono k hx) hx, h1.mono (fun _ k => okWhere.mono k hx) hx, h2.mono (fun _ k => okHeld.mono k hx) hx, h3.mono (fun _ k => okItem.mono k hx) hx, h4.mono (fun _ k => okRelead.mono k hx) hx, h5.mono (fun _ k => okRef.mono k hx) hx⟩
end Go.Proofs.YtnmgfnpphglphaaGreat
