/-Go's '==' on structs of numbers, and on arrays of them: what it comes to.-/
import Derived.Test.YtbbblemfodpmaaaGreatBase
set_option linter.unusedVariables false
set_option linter.unusedSimpArgs false
set_option maxHeartbeats 16000000
set_option maxRecDepth 100000
namespace Go.Proofs.YtbbblemfodpmaaaGreat
open Go.RowKit
section
variable {P : Program}
theorem zFS (w : World) (d : Nat) (t e : TypeId) (xs ys : List Int) (n : Nat) (ht : P.underlying t = some (.array n e)) (he : P.underlying e = some (.int .i64))
  (hs : (P.info? e).map (·.size) = some 1) (hx : xs.length = n) (hy : ys.length = n) :
  (Op.equalIn (d + 2) t (.agg (xs.map vi).toArray) (.agg (ys.map vi).toArray)).run P w = .ok (decide (xs = ys)) w:=by
 have hsz : (sizeOf e).run P w = .ok 1 w:=by
  cases hq : P.info? e with
  | none=>simp [hq] at hs
  | some i=>
   have : i.size = 1:=by simpa [hq] using hs
   simp [sizeOf,typeInfo,hq,this,Sem.run_bind,run_program]
 have hna : (isAgg e).run P w = .ok false w:=by
  unfold isAgg;rw [Sem.run_bind,run_underlying he w];simp
 rw [show d + 2 = (d + 1) + 1 from rfl,Op.equalIn];simp only [Sem.run_bind,run_underlying ht,Result.andThen_ok,hsz];rw [Std.Legacy.Range.forIn_eq_forIn_range'];simp only [Std.Legacy.Range.size,Nat.sub_zero,Nat.add_sub_cancel,Nat.div_one];have key : ∀ (m k : Nat),k + m = n→xs.take k = ys.take k→
   (forIn (m:=Sem) (List.range' k m) ((none,()) : Option Bool × Unit) (fun i r=>do
     if (!(← Op.equalIn (d + 1) e (← part e (xs.map vi).toArray (i * 1)) (← part e (ys.map vi).toArray (i * 1)))) = true then pure (ForInStep.done (some false,()))
     else pure (ForInStep.yield (none,())))).run P w = .ok (if xs = ys then (none,()) else (some false,())) w:=by
  intro m
  induction m with
  | zero=>
   intro k hk ht;have : xs = ys:=by
    rw [List.take_of_length_le (by omega),List.take_of_length_le (by omega)] at ht;exact ht
   simp [this,List.range'_zero]
  | succ m ih=>
   intro k hk ht;have hkx : k < xs.length:=by omega
   have hky : k < ys.length:=by omega
   have hpx : ∀ (zs : List Int) (h : k < zs.length),(part e (zs.map vi).toArray (k * 1)).run P w = .ok (vi zs[k]) w:=by
    intro zs h;simp [part,Sem.run_bind,hna,h]
   have heq : (Op.equalIn (d + 1) e (vi xs[k]) (vi ys[k])).run P w = .ok (xs[k] == ys[k]) w:=by
    simp [Op.equalIn,Sem.run_bind,run_underlying he]
   rw [List.range'_succ,List.forIn_cons];simp only [Sem.run_bind,hpx xs hkx,hpx ys hky,Result.andThen_ok,heq]
   by_cases hxy : xs[k] = ys[k]
   ·have ht' : xs.take (k + 1) = ys.take (k + 1):=by
     rw [List.take_add_one,List.take_add_one,ht,List.getElem?_eq_getElem hkx,List.getElem?_eq_getElem hky,hxy]
    have:=ih (k + 1) (by omega) ht';simp [hxy,Sem.run_bind] at this ⊢;exact this
   ·have hne : xs ≠ ys:=by rintro rfl;exact hxy rfl
    simp [hxy,hne]
 have:=key n 0 (by omega) (by simp);rw [this]
 by_cases h : xs = ys <;> simp [h]
end
@[go_sem] theorem eqGuardType_Point : Tryz.prog.eqGuardType Tryz.prog.depth 27 = false:=by kernel_rfl
theorem zFa : Tryz.prog.stoodInHeld 27 = false:=by kernel_rfl
theorem zD2 (d : Nat) (x y : Point) (w : World) : (Op.equalIn (d + 4) 27 (.agg (zAb x)) (.agg (zAb y))).run Tryz.prog w = .ok (decide (x = y)) w:=by
 have h0:=zFa;obtain ⟨x1,x2⟩:=x;obtain ⟨y1,y2⟩:=y;simp [zAb,go_sem,h0]
 (repeat' split) <;> simp_all
def zCr (x y : Point) : Bool:=decide (x = y)
@[go_sem high] theorem eql_Point (x y : Point) (w : World) : (binOp .eql 27 (.agg (zAb x)) (.agg (zAb y))).run Tryz.prog w = .ok (.bool (zCr x y)) w:=by
 rw [run_eql_struct,show (10000 : Nat) = 9996 + 4 from rfl,zD2];rfl
@[go_sem high] theorem neq_Point (x y : Point) (w : World) : (binOp .neq 27 (.agg (zAb x)) (.agg (zAb y))).run Tryz.prog w = .ok (.bool (!zCr x y)) w:=by
 rw [run_neq_struct,show (10000 : Nat) = 9996 + 4 from rfl,zD2];rfl
theorem stoodIn_Joint : Tryz.prog.stoodInHeld 29 = false:=by kernel_rfl
theorem stoodIn_Lead : Tryz.prog.stoodInHeld 31 = false:=by kernel_rfl
@[go_sem] theorem eqGuardType_Side : Tryz.prog.eqGuardType Tryz.prog.depth 59 = false:=by kernel_rfl
theorem stoodIn_Side : Tryz.prog.stoodInHeld 59 = false:=by kernel_rfl
theorem zEb (d : Nat) (x y : Side) (w : World) : (Op.equalIn (d + 4) 59 (.agg (zAa x)) (.agg (zAa y))).run Tryz.prog w = .ok (decide (x = y)) w:=by
 have h0:=stoodIn_Side;obtain ⟨x1,x2⟩:=x;obtain ⟨y1,y2⟩:=y;simp [zAa,go_sem,h0]
 (repeat' split) <;> simp_all
def zBp (x y : Side) : Bool:=decide (x = y)
@[go_sem high] theorem eql_Side (x y : Side) (w : World) : (binOp .eql 59 (.agg (zAa x)) (.agg (zAa y))).run Tryz.prog w = .ok (.bool (zBp x y)) w:=by
 rw [run_eql_struct,show (10000 : Nat) = 9996 + 4 from rfl,zEb];rfl
@[go_sem high] theorem neq_Side (x y : Side) (w : World) : (binOp .neq 59 (.agg (zAa x)) (.agg (zAa y))).run Tryz.prog w = .ok (.bool (!zBp x y)) w:=by
 rw [run_neq_struct,show (10000 : Nat) = 9996 + 4 from rfl,zEb];rfl
@[go_sem] theorem eqGuardType_Count : Tryz.prog.eqGuardType Tryz.prog.depth 54 = false:=by kernel_rfl
theorem stoodIn_Count : Tryz.prog.stoodInHeld 54 = false:=by kernel_rfl
theorem zFb (d : Nat) (x y : Count) (w : World) : (Op.equalIn (d + 4) 54 (.agg (zBD x)) (.agg (zBD y))).run Tryz.prog w = .ok (decide (x = y)) w:=by
 have h0:=stoodIn_Count;obtain ⟨x1,x2,x3,x4⟩:=x;obtain ⟨y1,y2,y3,y4⟩:=y;simp [zBD,go_sem,h0]
 (repeat' split) <;> simp_all
def zEN (x y : Count) : Bool:=decide (x = y)
@[go_sem high] theorem eql_Count (x y : Count) (w : World) : (binOp .eql 54 (.agg (zBD x)) (.agg (zBD y))).run Tryz.prog w = .ok (.bool (zEN x y)) w:=by
 rw [run_eql_struct,show (10000 : Nat) = 9996 + 4 from rfl,zFb];rfl
@[go_sem high] theorem neq_Count (x y : Count) (w : World) : (binOp .neq 54 (.agg (zBD x)) (.agg (zBD y))).run Tryz.prog w = .ok (.bool (!zEN x y)) w:=by
 rw [run_neq_struct,show (10000 : Nat) = 9996 + 4 from rfl,zFb];rfl
@[go_sem] theorem eta_Point (x : Point) : (⟨x.x,x.y⟩ : Point) = x:=rfl
@[go_sem] theorem eta_Joint (x : Joint) : (⟨x.id,x.at_⟩ : Joint) = x:=rfl
@[go_sem] theorem eta_Lead (x : Lead) : (⟨x.id,x.a,x.b,x.heart,x.left,x.right,x.give,x.cost⟩ : Lead) = x:=rfl
@[go_sem] theorem eta_Side (x : Side) : (⟨x.lead,x.back⟩ : Side) = x:=rfl
@[go_sem] theorem eta_Count (x : Count) : (⟨x.joints,x.leads,x.faces,x.components⟩ : Count) = x:=rfl
@[go_sem high] theorem eqlL_Point (x1 y1 x2 y2 : Int) (w : World) : (binOp .eql 27 (.agg #[vi x1,vi x2]) (.agg #[vi y1,vi y2])).run Tryz.prog w = .ok (.bool (zCr ⟨x1,x2⟩ ⟨y1,y2⟩)) w:=eql_Point ⟨x1,x2⟩ ⟨y1,y2⟩ w
@[go_sem high] theorem neqL_Point (x1 y1 x2 y2 : Int) (w : World) : (binOp .neq 27 (.agg #[vi x1,vi x2]) (.agg #[vi y1,vi y2])).run Tryz.prog w = .ok (.bool (!zCr ⟨x1,x2⟩ ⟨y1,y2⟩)) w:=neq_Point ⟨x1,x2⟩ ⟨y1,y2⟩ w
@[go_sem high] theorem eqlL_Side (x1 y1 : Int) (x2 y2 : Bool) (w : World) : (binOp .eql 59 (.agg #[vi x1, .bool x2]) (.agg #[vi y1, .bool y2])).run Tryz.prog w = .ok (.bool (zBp ⟨x1,x2⟩ ⟨y1,y2⟩)) w:=eql_Side ⟨x1,x2⟩ ⟨y1,y2⟩ w
@[go_sem high] theorem neqL_Side (x1 y1 : Int) (x2 y2 : Bool) (w : World) : (binOp .neq 59 (.agg #[vi x1, .bool x2]) (.agg #[vi y1, .bool y2])).run Tryz.prog w = .ok (.bool (!zBp ⟨x1,x2⟩ ⟨y1,y2⟩)) w:=neq_Side ⟨x1,x2⟩ ⟨y1,y2⟩ w
@[go_sem high] theorem eqlL_Count (x1 y1 x2 y2 x3 y3 x4 y4 : Int) (w : World) : (binOp .eql 54 (.agg #[vi x1,vi x2,vi x3,vi x4]) (.agg #[vi y1,vi y2,vi y3,vi y4])).run Tryz.prog w = .ok (.bool (zEN ⟨x1,x2,x3,x4⟩ ⟨y1,y2,y3,y4⟩)) w:=eql_Count ⟨x1,x2,x3,x4⟩ ⟨y1,y2,y3,y4⟩ w
@[go_sem high] theorem neqL_Count (x1 y1 x2 y2 x3 y3 x4 y4 : Int) (w : World) : (binOp .neq 54 (.agg #[vi x1,vi x2,vi x3,vi x4]) (.agg #[vi y1,vi y2,vi y3,vi y4])).run Tryz.prog w = .ok (.bool (!zEN ⟨x1,x2,x3,x4⟩ ⟨y1,y2,y3,y4⟩)) w:=neq_Count ⟨x1,x2,x3,x4⟩ ⟨y1,y2,y3,y4⟩ w
end Go.Proofs.YtbbblemfodpmaaaGreat
