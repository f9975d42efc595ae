/-
  Go's '==' on structs of numbers, and on arrays of them: what it comes to.
-/
import Derived.Test.YtnmgfnpphglphaaGreatBase
set_option maxHeartbeats 16000000
set_option maxRecDepth 100000
set_option linter.unusedVariables false
set_option linter.unusedSimpArgs false
namespace Go.Proofs.YtnmgfnpphglphaaGreat
open Go.RowKit
section
variable {P : Program}
theorem run_equalIn_ints (w : World) (d : Nat) (t e : TypeId) (xs ys : List Int) (n : Nat) (ht : P.underlying t = some (.array n e)) (he : P.underlying e = some (.int .i64))
  (hs : (P.info? e).map (·.size) = some 1) (hx : xs.length = n) (hy : ys.length = n) :
  (Op.equalIn (d + 2) t (.agg (xs.map vi).toArray) (.agg (ys.map vi).toArray)).run P w = .ok (decide (xs = ys)) w := by
 have hsz : (sizeOf e).run P w = .ok 1 w := by
  cases hq : P.info? e with
  | none => simp [hq] at hs
  | some i =>
   have : i.size = 1 := by simpa [hq] using hs
   simp [sizeOf, typeInfo, hq, this, Sem.run_bind, run_program]
 have hna : (isAgg e).run P w = .ok false w := by
  unfold isAgg
  rw [Sem.run_bind, run_underlying he w]
  simp
 rw [show d + 2 = (d + 1) + 1 from rfl, Op.equalIn]
 simp only [Sem.run_bind, run_underlying ht, Result.andThen_ok, hsz]
 rw [Std.Legacy.Range.forIn_eq_forIn_range']
 simp only [Std.Legacy.Range.size, Nat.sub_zero, Nat.add_sub_cancel, Nat.div_one]
 have key : ∀ (m k : Nat), k + m = n → xs.take k = ys.take k →
   (forIn (m := Sem) (List.range' k m) ((none, ()) : Option Bool × Unit) (fun i r => do
     if (!(← Op.equalIn (d + 1) e (← part e (xs.map vi).toArray (i * 1)) (← part e (ys.map vi).toArray (i * 1)))) = true then pure (ForInStep.done (some false, ()))
     else pure (ForInStep.yield (none, ())))).run P w = .ok (if xs = ys then (none, ()) else (some false, ())) w := by
  intro m
  induction m with
  | zero =>
   intro k hk ht
   have : xs = ys := by
    rw [List.take_of_length_le (by omega), List.take_of_length_le (by omega)] at ht; exact ht
   simp [this, List.range'_zero]
  | succ m ih =>
   intro k hk ht
   have hkx : k < xs.length := by omega
   have hky : k < ys.length := by omega
   have hpx : ∀ (zs : List Int) (h : k < zs.length), (part e (zs.map vi).toArray (k * 1)).run P w = .ok (vi zs[k]) w := by
    intro zs h
    simp [part, Sem.run_bind, hna, h]
   have heq : (Op.equalIn (d + 1) e (vi xs[k]) (vi ys[k])).run P w = .ok (xs[k] == ys[k]) w := by
    simp [Op.equalIn, Sem.run_bind, run_underlying he]
   rw [List.range'_succ, List.forIn_cons]
   simp only [Sem.run_bind, hpx xs hkx, hpx ys hky, Result.andThen_ok, heq]
   by_cases hxy : xs[k] = ys[k]
   ·have ht' : xs.take (k + 1) = ys.take (k + 1) := by
     rw [List.take_add_one, List.take_add_one, ht, List.getElem?_eq_getElem hkx, List.getElem?_eq_getElem hky, hxy]
    have := ih (k + 1) (by omega) ht'
    simp [hxy, Sem.run_bind] at this ⊢
    exact this
   ·have hne : xs ≠ ys := by rintro rfl; exact hxy rfl
    simp [hxy, hne]
 have := key n 0 (by omega) (by simp)
 rw [this]
 by_cases h : xs = ys <;> simp [h]
end
@[go_sem] theorem eqGuardType_Span : Tryz.prog.eqGuardType Tryz.prog.depth 38 = false := by kernel_rfl
theorem stoodIn_Span : Tryz.prog.stoodInHeld 38 = false := by kernel_rfl
theorem equalIn_Span (d : Nat) (x y : Span) (w : World) : (Op.equalIn (d + 4) 38 (.agg (encSpan x)) (.agg (encSpan y))).run Tryz.prog w = .ok (decide (x = y)) w := by
 have h0 := stoodIn_Span
 obtain ⟨x1, x2⟩ := x
 obtain ⟨y1, y2⟩ := y
 simp [encSpan, go_sem, h0]
 (repeat' split) <;> simp_all
def eqSpan (x y : Span) : Bool := decide (x = y)
@[go_sem high] theorem eql_Span (x y : Span) (w : World) : (binOp .eql 38 (.agg (encSpan x)) (.agg (encSpan y))).run Tryz.prog w = .ok (.bool (eqSpan x y)) w := by
 rw [run_eql_struct, show (10000 : Nat) = 9996 + 4 from rfl, equalIn_Span]; rfl
@[go_sem high] theorem neq_Span (x y : Span) (w : World) : (binOp .neq 38 (.agg (encSpan x)) (.agg (encSpan y))).run Tryz.prog w = .ok (.bool (!eqSpan x y)) w := by
 rw [run_neq_struct, show (10000 : Nat) = 9996 + 4 from rfl, equalIn_Span]; rfl
@[go_sem] theorem eqGuardType_Gauge : Tryz.prog.eqGuardType Tryz.prog.depth 89 = false := by kernel_rfl
theorem stoodIn_Gauge : Tryz.prog.stoodInHeld 89 = false := by kernel_rfl
theorem equalIn_Gauge (d : Nat) (x y : Gauge) (w : World) : (Op.equalIn (d + 4) 89 (.agg (encGauge x)) (.agg (encGauge y))).run Tryz.prog w = .ok (decide (x = y)) w := by
 have h0 := stoodIn_Gauge
 obtain ⟨⟨x1, x2⟩, ⟨x3, x4⟩, x5⟩ := x
 obtain ⟨⟨y1, y2⟩, ⟨y3, y4⟩, y5⟩ := y
 simp [encGauge, go_sem, h0, stoodIn_Span]
 (repeat' split) <;> simp_all
def eqGauge (x y : Gauge) : Bool := decide (x = y)
@[go_sem high] theorem eql_Gauge (x y : Gauge) (w : World) : (binOp .eql 89 (.agg (encGauge x)) (.agg (encGauge y))).run Tryz.prog w = .ok (.bool (eqGauge x y)) w := by
 rw [run_eql_struct, show (10000 : Nat) = 9996 + 4 from rfl, equalIn_Gauge]; rfl
@[go_sem high] theorem neq_Gauge (x y : Gauge) (w : World) : (binOp .neq 89 (.agg (encGauge x)) (.agg (encGauge y))).run Tryz.prog w = .ok (.bool (!eqGauge x y)) w := by
 rw [run_neq_struct, show (10000 : Nat) = 9996 + 4 from rfl, equalIn_Gauge]; rfl
@[go_sem] theorem eqGuardType_Mark : Tryz.prog.eqGuardType Tryz.prog.depth 174 = false := by kernel_rfl
theorem stoodIn_Mark : Tryz.prog.stoodInHeld 174 = false := by kernel_rfl
theorem equalIn_Mark (d : Nat) (x y : Mark) (w : World) : (Op.equalIn (d + 4) 174 (.agg (encMark x)) (.agg (encMark y))).run Tryz.prog w = .ok (decide (x = y)) w := by
 have h0 := stoodIn_Mark
 obtain ⟨x1, x2, x3⟩ := x
 obtain ⟨y1, y2, y3⟩ := y
 simp [encMark, go_sem, h0]
 (repeat' split) <;> simp_all
def eqMark (x y : Mark) : Bool := decide (x = y)
@[go_sem high] theorem eql_Mark (x y : Mark) (w : World) : (binOp .eql 174 (.agg (encMark x)) (.agg (encMark y))).run Tryz.prog w = .ok (.bool (eqMark x y)) w := by
 rw [run_eql_struct, show (10000 : Nat) = 9996 + 4 from rfl, equalIn_Mark]; rfl
@[go_sem high] theorem neq_Mark (x y : Mark) (w : World) : (binOp .neq 174 (.agg (encMark x)) (.agg (encMark y))).run Tryz.prog w = .ok (.bool (!eqMark x y)) w := by
 rw [run_neq_struct, show (10000 : Nat) = 9996 + 4 from rfl, equalIn_Mark]; rfl
@[go_sem] theorem eqGuardType_Sight : Tryz.prog.eqGuardType Tryz.prog.depth 169 = false := by kernel_rfl
theorem stoodIn_Sight : Tryz.prog.stoodInHeld 169 = false := by kernel_rfl
theorem equalIn_Sight (d : Nat) (x y : Sight) (w : World) : (Op.equalIn (d + 4) 169 (.agg (encSight x)) (.agg (encSight y))).run Tryz.prog w = .ok (decide (x = y)) w := by
 have h0 := stoodIn_Sight
 obtain ⟨x1, x2, ⟨x3, x4⟩, ⟨x5, x6⟩, ⟨x7, x8⟩⟩ := x
 obtain ⟨y1, y2, ⟨y3, y4⟩, ⟨y5, y6⟩, ⟨y7, y8⟩⟩ := y
 simp [encSight, go_sem, h0, stoodIn_Span]
 (repeat' split) <;> simp_all
def eqSight (x y : Sight) : Bool := decide (x = y)
@[go_sem high] theorem eql_Sight (x y : Sight) (w : World) : (binOp .eql 169 (.agg (encSight x)) (.agg (encSight y))).run Tryz.prog w = .ok (.bool (eqSight x y)) w := by
 rw [run_eql_struct, show (10000 : Nat) = 9996 + 4 from rfl, equalIn_Sight]; rfl
@[go_sem high] theorem neq_Sight (x y : Sight) (w : World) : (binOp .neq 169 (.agg (encSight x)) (.agg (encSight y))).run Tryz.prog w = .ok (.bool (!eqSight x y)) w := by
 rw [run_neq_struct, show (10000 : Nat) = 9996 + 4 from rfl, equalIn_Sight]; rfl
@[go_sem] theorem eqGuardType_Setting : Tryz.prog.eqGuardType Tryz.prog.depth 32 = false := by kernel_rfl
theorem stoodIn_Setting : Tryz.prog.stoodInHeld 32 = false := by kernel_rfl
theorem equalIn_Setting (d : Nat) (x y : Setting) (w : World) : (Op.equalIn (d + 4) 32 (.agg (encSetting x)) (.agg (encSetting y))).run Tryz.prog w = .ok (decide (x = y)) w := by
 have h0 := stoodIn_Setting
 obtain ⟨x1, x2⟩ := x
 obtain ⟨y1, y2⟩ := y
 simp [encSetting, go_sem, h0]
 (repeat' split) <;> simp_all
def eqSetting (x y : Setting) : Bool := decide (x = y)
@[go_sem high] theorem eql_Setting (x y : Setting) (w : World) : (binOp .eql 32 (.agg (encSetting x)) (.agg (encSetting y))).run Tryz.prog w = .ok (.bool (eqSetting x y)) w := by
 rw [run_eql_struct, show (10000 : Nat) = 9996 + 4 from rfl, equalIn_Setting]; rfl
@[go_sem high] theorem neq_Setting (x y : Setting) (w : World) : (binOp .neq 32 (.agg (encSetting x)) (.agg (encSetting y))).run Tryz.prog w = .ok (.bool (!eqSetting x y)) w := by
 rw [run_neq_struct, show (10000 : Nat) = 9996 + 4 from rfl, equalIn_Setting]; rfl
@[go_sem] theorem eqGuardType_Ref : Tryz.prog.eqGuardType Tryz.prog.depth 34 = false := by kernel_rfl
theorem stoodIn_Ref : Tryz.prog.stoodInHeld 34 = false := by kernel_rfl
theorem equalIn_Ref (d : Nat) (x y : Ref) (w : World) : (Op.equalIn (d + 4) 34 (.agg (encRef x)) (.agg (encRef y))).run Tryz.prog w = .ok (decide (x = y)) w := by
 have h0 := stoodIn_Ref
 obtain ⟨x1, x2⟩ := x
 obtain ⟨y1, y2⟩ := y
 simp [encRef, go_sem, h0]
 (repeat' split) <;> simp_all
def eqRef (x y : Ref) : Bool := decide (x = y)
@[go_sem high] theorem eql_Ref (x y : Ref) (w : World) : (binOp .eql 34 (.agg (encRef x)) (.agg (encRef y))).run Tryz.prog w = .ok (.bool (eqRef x y)) w := by
 rw [run_eql_struct, show (10000 : Nat) = 9996 + 4 from rfl, equalIn_Ref]; rfl
@[go_sem high] theorem neq_Ref (x y : Ref) (w : World) : (binOp .neq 34 (.agg (encRef x)) (.agg (encRef y))).run Tryz.prog w = .ok (.bool (!eqRef x y)) w := by
 rw [run_neq_struct, show (10000 : Nat) = 9996 + 4 from rfl, equalIn_Ref]; rfl
@[go_sem] theorem eqGuardType_Where : Tryz.prog.eqGuardType Tryz.prog.depth 105 = false := by kernel_rfl
theorem stoodIn_Where : Tryz.prog.stoodInHeld 105 = false := by kernel_rfl
theorem equalIn_Where (d : Nat) (x y : Where) (w : World) : (Op.equalIn (d + 4) 105 (.agg (encWhere x)) (.agg (encWhere y))).run Tryz.prog w = .ok (decide (x = y)) w := by
 have h0 := stoodIn_Where
 obtain ⟨x1, x2, x3, ⟨x4, x5⟩, ⟨x6, x7⟩⟩ := x
 obtain ⟨y1, y2, y3, ⟨y4, y5⟩, ⟨y6, y7⟩⟩ := y
 simp [encWhere, go_sem, h0, stoodIn_Ref, stoodIn_Setting]
 (repeat' split) <;> simp_all
def eqWhere (x y : Where) : Bool := decide (x = y)
@[go_sem high] theorem eql_Where (x y : Where) (w : World) : (binOp .eql 105 (.agg (encWhere x)) (.agg (encWhere y))).run Tryz.prog w = .ok (.bool (eqWhere x y)) w := by
 rw [run_eql_struct, show (10000 : Nat) = 9996 + 4 from rfl, equalIn_Where]; rfl
@[go_sem high] theorem neq_Where (x y : Where) (w : World) : (binOp .neq 105 (.agg (encWhere x)) (.agg (encWhere y))).run Tryz.prog w = .ok (.bool (!eqWhere x y)) w := by
 rw [run_neq_struct, show (10000 : Nat) = 9996 + 4 from rfl, equalIn_Where]; rfl
@[go_sem] theorem eqGuardType_Held : Tryz.prog.eqGuardType Tryz.prog.depth 240 = false := by kernel_rfl
theorem stoodIn_Held : Tryz.prog.stoodInHeld 240 = false := by kernel_rfl
theorem equalIn_Held (d : Nat) (x y : Held) (w : World) : (Op.equalIn (d + 4) 240 (.agg (encHeld x)) (.agg (encHeld y))).run Tryz.prog w = .ok (decide (x = y)) w := by
 have h0 := stoodIn_Held
 obtain ⟨x1, x2, x3, ⟨x4, x5⟩⟩ := x
 obtain ⟨y1, y2, y3, ⟨y4, y5⟩⟩ := y
 simp [encHeld, go_sem, h0, stoodIn_Setting]
 (repeat' split) <;> simp_all
def eqHeld (x y : Held) : Bool := decide (x = y)
@[go_sem high] theorem eql_Held (x y : Held) (w : World) : (binOp .eql 240 (.agg (encHeld x)) (.agg (encHeld y))).run Tryz.prog w = .ok (.bool (eqHeld x y)) w := by
 rw [run_eql_struct, show (10000 : Nat) = 9996 + 4 from rfl, equalIn_Held]; rfl
@[go_sem high] theorem neq_Held (x y : Held) (w : World) : (binOp .neq 240 (.agg (encHeld x)) (.agg (encHeld y))).run Tryz.prog w = .ok (.bool (!eqHeld x y)) w := by
 rw [run_neq_struct, show (10000 : Nat) = 9996 + 4 from rfl, equalIn_Held]; rfl
@[go_sem] theorem eqGuardType_Tray : Tryz.prog.eqGuardType Tryz.prog.depth 150 = false := by kernel_rfl
theorem stoodIn_Tray : Tryz.prog.stoodInHeld 150 = false := by kernel_rfl
theorem equalIn_Tray (d : Nat) (x y : Tray) (w : World) : (Op.equalIn (d + 4) 150 (.agg (encTray x)) (.agg (encTray y))).run Tryz.prog w = .ok (decide (x = y)) w := by
 have h0 := stoodIn_Tray
 obtain ⟨⟨x1, x2⟩, x3, x4⟩ := x
 obtain ⟨⟨y1, y2⟩, y3, y4⟩ := y
 simp [encTray, go_sem, h0, stoodIn_Ref]
 (repeat' split) <;> simp_all
def eqTray (x y : Tray) : Bool := decide (x = y)
@[go_sem high] theorem eql_Tray (x y : Tray) (w : World) : (binOp .eql 150 (.agg (encTray x)) (.agg (encTray y))).run Tryz.prog w = .ok (.bool (eqTray x y)) w := by
 rw [run_eql_struct, show (10000 : Nat) = 9996 + 4 from rfl, equalIn_Tray]; rfl
@[go_sem high] theorem neq_Tray (x y : Tray) (w : World) : (binOp .neq 150 (.agg (encTray x)) (.agg (encTray y))).run Tryz.prog w = .ok (.bool (!eqTray x y)) w := by
 rw [run_neq_struct, show (10000 : Nat) = 9996 + 4 from rfl, equalIn_Tray]; rfl
@[go_sem] theorem eta_Span (x : Span) : (⟨x.lo, x.hi⟩ : Span) = x := rfl
@[go_sem] theorem eta_Gauge (x : Gauge) : (⟨x.edge, x.across, x.bend⟩ : Gauge) = x := rfl
@[go_sem] theorem eta_Mark (x : Mark) : (⟨x.edge, x.at_, x.tone⟩ : Mark) = x := rfl
@[go_sem] theorem eta_Sight (x : Sight) : (⟨x.pane, x.edge, x.grey, x.at_, x.count⟩ : Sight) = x := rfl
@[go_sem] theorem eta_Setting (x : Setting) : (⟨x.shift, x.back⟩ : Setting) = x := rfl
@[go_sem] theorem eta_Ref (x : Ref) : (⟨x.bench, x.num⟩ : Ref) = x := rfl
@[go_sem] theorem eta_Where (x : Where) : (⟨x.piece, x.kind, x.at_, x.setting, x.tray⟩ : Where) = x := rfl
@[go_sem] theorem eta_Held (x : Held) : (⟨x.pane, x.piece, x.colour, x.setting⟩ : Held) = x := rfl
@[go_sem] theorem eta_Stay (x : Stay) : (⟨x.year, x.ref, x.where_⟩ : Stay) = x := rfl
@[go_sem] theorem eta_Tray (x : Tray) : (⟨x.ref, x.to, x.arrived⟩ : Tray) = x := rfl
@[go_sem high] theorem eqlL_Span (x1 y1 x2 y2 : Int) (w : World) : (binOp .eql 38 (.agg #[vi x1, vi x2]) (.agg #[vi y1, vi y2])).run Tryz.prog w = .ok (.bool (eqSpan ⟨x1, x2⟩ ⟨y1, y2⟩)) w := eql_Span ⟨x1, x2⟩ ⟨y1, y2⟩ w
@[go_sem high] theorem neqL_Span (x1 y1 x2 y2 : Int) (w : World) : (binOp .neq 38 (.agg #[vi x1, vi x2]) (.agg #[vi y1, vi y2])).run Tryz.prog w = .ok (.bool (!eqSpan ⟨x1, x2⟩ ⟨y1, y2⟩)) w := neq_Span ⟨x1, x2⟩ ⟨y1, y2⟩ w
@[go_sem high] theorem eqlL_Gauge (x1 y1 x2 y2 x3 y3 x4 y4 x5 y5 : Int) (w : World) : (binOp .eql 89 (.agg #[vi x1, vi x2, vi x3, vi x4, vi x5]) (.agg #[vi y1, vi y2, vi y3, vi y4, vi y5])).run Tryz.prog w = .ok (.bool (eqGauge ⟨⟨x1, x2⟩, ⟨x3, x4⟩, x5⟩ ⟨⟨y1, y2⟩, ⟨y3, y4⟩, y5⟩)) w := eql_Gauge ⟨⟨x1, x2⟩, ⟨x3, x4⟩, x5⟩ ⟨⟨y1, y2⟩, ⟨y3, y4⟩, y5⟩ w
@[go_sem high] theorem neqL_Gauge (x1 y1 x2 y2 x3 y3 x4 y4 x5 y5 : Int) (w : World) : (binOp .neq 89 (.agg #[vi x1, vi x2, vi x3, vi x4, vi x5]) (.agg #[vi y1, vi y2, vi y3, vi y4, vi y5])).run Tryz.prog w = .ok (.bool (!eqGauge ⟨⟨x1, x2⟩, ⟨x3, x4⟩, x5⟩ ⟨⟨y1, y2⟩, ⟨y3, y4⟩, y5⟩)) w := neq_Gauge ⟨⟨x1, x2⟩, ⟨x3, x4⟩, x5⟩ ⟨⟨y1, y2⟩, ⟨y3, y4⟩, y5⟩ w
@[go_sem high] theorem eqlL_Mark (x1 y1 x2 y2 x3 y3 : Int) (w : World) : (binOp .eql 174 (.agg #[vi x1, vi x2, vi x3]) (.agg #[vi y1, vi y2, vi y3])).run Tryz.prog w = .ok (.bool (eqMark ⟨x1, x2, x3⟩ ⟨y1, y2, y3⟩)) w := eql_Mark ⟨x1, x2, x3⟩ ⟨y1, y2, y3⟩ w
@[go_sem high] theorem neqL_Mark (x1 y1 x2 y2 x3 y3 : Int) (w : World) : (binOp .neq 174 (.agg #[vi x1, vi x2, vi x3]) (.agg #[vi y1, vi y2, vi y3])).run Tryz.prog w = .ok (.bool (!eqMark ⟨x1, x2, x3⟩ ⟨y1, y2, y3⟩)) w := neq_Mark ⟨x1, x2, x3⟩ ⟨y1, y2, y3⟩ w
@[go_sem high] theorem eqlL_Sight (x1 y1 x2 y2 x3 y3 x4 y4 x5 y5 x6 y6 x7 y7 x8 y8 : Int) (w : World) : (binOp .eql 169 (.agg #[vi x1, vi x2, vi x3, vi x4, vi x5, vi x6, vi x7, vi x8]) (.agg #[vi y1, vi y2, vi y3, vi y4, vi y5, vi y6, vi y7, vi y8])).run Tryz.prog w = .ok (.bool (eqSight ⟨x1, x2, ⟨x3, x4⟩, ⟨x5, x6⟩, ⟨x7, x8⟩⟩ ⟨y1, y2, ⟨y3, y4⟩, ⟨y5, y6⟩, ⟨y7, y8⟩⟩)) w := eql_Sight ⟨x1, x2, ⟨x3, x4⟩, ⟨x5, x6⟩, ⟨x7, x8⟩⟩ ⟨y1, y2, ⟨y3, y4⟩, ⟨y5, y6⟩, ⟨y7, y8⟩⟩ w
@[go_sem high] theorem neqL_Sight (x1 y1 x2 y2 x3 y3 x4 y4 x5 y5 x6 y6 x7 y7 x8 y8 : Int) (w : World) : (binOp .neq 169 (.agg #[vi x1, vi x2, vi x3, vi x4, vi x5, vi x6, vi x7, vi x8]) (.agg #[vi y1, vi y2, vi y3, vi y4, vi y5, vi y6, vi y7, vi y8])).run Tryz.prog w = .ok (.bool (!eqSight ⟨x1, x2, ⟨x3, x4⟩, ⟨x5, x6⟩, ⟨x7, x8⟩⟩ ⟨y1, y2, ⟨y3, y4⟩, ⟨y5, y6⟩, ⟨y7, y8⟩⟩)) w := neq_Sight ⟨x1, x2, ⟨x3, x4⟩, ⟨x5, x6⟩, ⟨x7, x8⟩⟩ ⟨y1, y2, ⟨y3, y4⟩, ⟨y5, y6⟩, ⟨y7, y8⟩⟩ w
@[go_sem high] theorem eqlL_Setting (x1 y1 : Int) (x2 y2 : Bool) (w : World) : (binOp .eql 32 (.agg #[vi x1, .bool x2]) (.agg #[vi y1, .bool y2])).run Tryz.prog w = .ok (.bool (eqSetting ⟨x1, x2⟩ ⟨y1, y2⟩)) w := eql_Setting ⟨x1, x2⟩ ⟨y1, y2⟩ w
@[go_sem high] theorem neqL_Setting (x1 y1 : Int) (x2 y2 : Bool) (w : World) : (binOp .neq 32 (.agg #[vi x1, .bool x2]) (.agg #[vi y1, .bool y2])).run Tryz.prog w = .ok (.bool (!eqSetting ⟨x1, x2⟩ ⟨y1, y2⟩)) w := neq_Setting ⟨x1, x2⟩ ⟨y1, y2⟩ w
@[go_sem high] theorem eqlL_Ref (x1 y1 x2 y2 : Int) (w : World) : (binOp .eql 34 (.agg #[vi x1, vi x2]) (.agg #[vi y1, vi y2])).run Tryz.prog w = .ok (.bool (eqRef ⟨x1, x2⟩ ⟨y1, y2⟩)) w := eql_Ref ⟨x1, x2⟩ ⟨y1, y2⟩ w
@[go_sem high] theorem neqL_Ref (x1 y1 x2 y2 : Int) (w : World) : (binOp .neq 34 (.agg #[vi x1, vi x2]) (.agg #[vi y1, vi y2])).run Tryz.prog w = .ok (.bool (!eqRef ⟨x1, x2⟩ ⟨y1, y2⟩)) w := neq_Ref ⟨x1, x2⟩ ⟨y1, y2⟩ w
@[go_sem high] theorem eqlL_Where (x1 y1 x2 y2 x3 y3 x4 y4 x6 y6 x7 y7 : Int) (x5 y5 : Bool) (w : World) : (binOp .eql 105 (.agg #[vi x1, vi x2, vi x3, vi x4, .bool x5, vi x6, vi x7]) (.agg #[vi y1, vi y2, vi y3, vi y4, .bool y5, vi y6, vi y7])).run Tryz.prog w = .ok (.bool (eqWhere ⟨x1, x2, x3, ⟨x4, x5⟩, ⟨x6, x7⟩⟩ ⟨y1, y2, y3, ⟨y4, y5⟩, ⟨y6, y7⟩⟩)) w := eql_Where ⟨x1, x2, x3, ⟨x4, x5⟩, ⟨x6, x7⟩⟩ ⟨y1, y2, y3, ⟨y4, y5⟩, ⟨y6, y7⟩⟩ w
@[go_sem high] theorem neqL_Where (x1 y1 x2 y2 x3 y3 x4 y4 x6 y6 x7 y7 : Int) (x5 y5 : Bool) (w : World) : (binOp .neq 105 (.agg #[vi x1, vi x2, vi x3, vi x4, .bool x5, vi x6, vi x7]) (.agg #[vi y1, vi y2, vi y3, vi y4, .bool y5, vi y6, vi y7])).run Tryz.prog w = .ok (.bool (!eqWhere ⟨x1, x2, x3, ⟨x4, x5⟩, ⟨x6, x7⟩⟩ ⟨y1, y2, y3, ⟨y4, y5⟩, ⟨y6, y7⟩⟩)) w := neq_Where ⟨x1, x2, x3, ⟨x4, x5⟩, ⟨x6, x7⟩⟩ ⟨y1, y2, y3, ⟨y4, y5⟩, ⟨y6, y7⟩⟩ w
@[go_sem high] theorem eqlL_Held (x1 y1 x2 y2 x3 y3 x4 y4 : Int) (x5 y5 : Bool) (w : World) : (binOp .eql 240 (.agg #[vi x1, vi x2, vi x3, vi x4, .bool x5]) (.agg #[vi y1, vi y2, vi y3, vi y4, .bool y5])).run Tryz.prog w = .ok (.bool (eqHeld ⟨x1, x2, x3, ⟨x4, x5⟩⟩ ⟨y1, y2, y3, ⟨y4, y5⟩⟩)) w := eql_Held ⟨x1, x2, x3, ⟨x4, x5⟩⟩ ⟨y1, y2, y3, ⟨y4, y5⟩⟩ w
@[go_sem high] theorem neqL_Held (x1 y1 x2 y2 x3 y3 x4 y4 : Int) (x5 y5 : Bool) (w : World) : (binOp .neq 240 (.agg #[vi x1, vi x2, vi x3, vi x4, .bool x5]) (.agg #[vi y1, vi y2, vi y3, vi y4, .bool y5])).run Tryz.prog w = .ok (.bool (!eqHeld ⟨x1, x2, x3, ⟨x4, x5⟩⟩ ⟨y1, y2, y3, ⟨y4, y5⟩⟩)) w := neq_Held ⟨x1, x2, x3, ⟨x4, x5⟩⟩ ⟨y1, y2, y3, ⟨y4, y5⟩⟩ w
@[go_sem high] theorem eqlL_Tray (x1 y1 x2 y2 x3 y3 : Int) (x4 y4 : Bool) (w : World) : (binOp .eql 150 (.agg #[vi x1, vi x2, vi x3, .bool x4]) (.agg #[vi y1, vi y2, vi y3, .bool y4])).run Tryz.prog w = .ok (.bool (eqTray ⟨⟨x1, x2⟩, x3, x4⟩ ⟨⟨y1, y2⟩, y3, y4⟩)) w := eql_Tray ⟨⟨x1, x2⟩, x3, x4⟩ ⟨⟨y1, y2⟩, y3, y4⟩ w
@[go_sem high] theorem neqL_Tray (x1 y1 x2 y2 x3 y3 : Int) (x4 y4 : Bool) (w : World) : (binOp .neq 150 (.agg #[vi x1, vi x2, vi x3, .bool x4]) (.agg #[vi y1, vi y2, vi y3, .bool y4])).run Tryz.prog w = .ok (.bool (!eqTray ⟨⟨x1, x2⟩, x3, x4⟩ ⟨⟨y1, y2⟩, y3, y4⟩)) w := neq_Tray ⟨⟨x1, x2⟩, x3, x4⟩ ⟨⟨y1, y2⟩, y3, y4⟩ w
end Go.Proofs.YtnmgfnpphglphaaGreat
