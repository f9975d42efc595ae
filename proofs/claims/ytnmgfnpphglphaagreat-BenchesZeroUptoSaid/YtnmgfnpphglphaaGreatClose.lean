/-
  Arguments opened: what a slice of structs holds.
  What a statement of this seat asks, out of what the walk gives: true, and nothing turned below the heap's old size.
-/
import Derived.Test.YtnmgfnpphglphaaGreatBase
import Derived.ProofKit
import Derived.OpenShut
import Derived.Deep.Slices
import Derived.WideKeyArgs
import Derived.Test.YtnmgfnpphglphaaGreatRows
set_option maxHeartbeats 16000000
set_option maxRecDepth 100000
section
set_option linter.unusedVariables false
set_option linter.unusedSimpArgs false
namespace Go.Proofs.YtnmgfnpphglphaaGreat
open Go.RowKit
open Go.ChangeShapes Go.WideShapes
set_option maxRecDepth 100000
variable {H : Type} {enc : TypeId × Value → H} {W : World} {n : Nat} {cs : List Value} {x : DataW H × List MemPlace}
abbrev RdT (enc : TypeId × Value → H) (W : World) (n : Nat) (t : TypeId) (cs : List Value) (x : DataW H × List MemPlace) : Prop := DataW.trod enc Tryz.prog W 0 (fun _ => true) true n t cs = some x
theorem I64_wf {i : Int} (h : (Lit.int .i64 i).wf = true) : I64 i := bounds_i64 h
theorem cells_int : Tryz.prog.cellsOf 3 = 1 := by kernel_rfl
theorem cells_bool : Tryz.prog.cellsOf 4 = 1 := by kernel_rfl
theorem opens_int (h : RdT enc W n 3 cs x) : ∃ i : Int, cs = [vi i] ∧ I64 i := by
 obtain ⟨i, rfl, _, hw⟩ := DataW.trod_int Tryz.underlying3 h
 exact ⟨i, rfl, I64_wf hw⟩
theorem opens_bool (h : RdT enc W n 4 cs x) : ∃ i : Bool, cs = [.bool i] := by
 obtain ⟨i, rfl, _⟩ := DataW.trod_bool Tryz.underlying4 h
 exact ⟨i, rfl⟩
theorem cells_Span : Tryz.prog.cellsOf 38 = 2 := by kernel_rfl
theorem opens_Span (h : RdT enc W n 38 cs x) : ∃ z : Span, cs = (encSpan z).toList ∧ (encSpan z).size = 2 ∧ okSpan (fun _ => False) W z := by
 obtain ⟨xs, m, _, _, hl, hxl, hf⟩ := DataW.trod_struct Tryz.underlying38 h
 rw [cells_Span] at hl
 replace hxl : xs.length = 2 := hxl
 match cs, hl, xs, hxl with
 | [c0, c1], _, [y0, y1], _ =>
  have g0 : RdT enc W m 3 [c0] y0 := by
   have g : RdT enc W m 3 (([c0, c1].drop 0).take (Tryz.prog.cellsOf 3)) y0 := hf 0 _ rfl
   rwa [cells_int] at g
  obtain ⟨z0, e0, k0⟩ := opens_int g0
  have g1 : RdT enc W m 3 [c1] y1 := by
   have g : RdT enc W m 3 (([c0, c1].drop 1).take (Tryz.prog.cellsOf 3)) y1 := hf 1 _ rfl
   rwa [cells_int] at g
  obtain ⟨z1, e1, k1⟩ := opens_int g1
  refine ⟨⟨z0, z1⟩, ?_, rfl, ⟨k0, k1⟩⟩
  simp [encSpan, vi] at *
  simp [*]
theorem cells_Setting : Tryz.prog.cellsOf 32 = 2 := by kernel_rfl
theorem opens_Setting (h : RdT enc W n 32 cs x) : ∃ z : Setting, cs = (encSetting z).toList ∧ (encSetting z).size = 2 ∧ okSetting (fun _ => False) W z := by
 obtain ⟨xs, m, _, _, hl, hxl, hf⟩ := DataW.trod_struct Tryz.underlying32 h
 rw [cells_Setting] at hl
 replace hxl : xs.length = 2 := hxl
 match cs, hl, xs, hxl with
 | [c0, c1], _, [y0, y1], _ =>
  have g0 : RdT enc W m 3 [c0] y0 := by
   have g : RdT enc W m 3 (([c0, c1].drop 0).take (Tryz.prog.cellsOf 3)) y0 := hf 0 _ rfl
   rwa [cells_int] at g
  obtain ⟨z0, e0, k0⟩ := opens_int g0
  have g1 : RdT enc W m 4 [c1] y1 := by
   have g : RdT enc W m 4 (([c0, c1].drop 1).take (Tryz.prog.cellsOf 4)) y1 := hf 1 _ rfl
   rwa [cells_bool] at g
  obtain ⟨z1, e1⟩ := opens_bool g1
  refine ⟨⟨z0, z1⟩, ?_, rfl, k0⟩
  simp [encSetting, vi] at *
  simp [*]
theorem cells_Ref : Tryz.prog.cellsOf 34 = 2 := by kernel_rfl
theorem opens_Ref (h : RdT enc W n 34 cs x) : ∃ z : Ref, cs = (encRef z).toList ∧ (encRef z).size = 2 ∧ okRef (fun _ => False) W z := by
 obtain ⟨xs, m, _, _, hl, hxl, hf⟩ := DataW.trod_struct Tryz.underlying34 h
 rw [cells_Ref] at hl
 replace hxl : xs.length = 2 := hxl
 match cs, hl, xs, hxl with
 | [c0, c1], _, [y0, y1], _ =>
  have g0 : RdT enc W m 3 [c0] y0 := by
   have g : RdT enc W m 3 (([c0, c1].drop 0).take (Tryz.prog.cellsOf 3)) y0 := hf 0 _ rfl
   rwa [cells_int] at g
  obtain ⟨z0, e0, k0⟩ := opens_int g0
  have g1 : RdT enc W m 3 [c1] y1 := by
   have g : RdT enc W m 3 (([c0, c1].drop 1).take (Tryz.prog.cellsOf 3)) y1 := hf 1 _ rfl
   rwa [cells_int] at g
  obtain ⟨z1, e1, k1⟩ := opens_int g1
  refine ⟨⟨z0, z1⟩, ?_, rfl, ⟨k0, k1⟩⟩
  simp [encRef, vi] at *
  simp [*]
end Go.Proofs.YtnmgfnpphglphaaGreat
end
section
set_option linter.unusedVariables false
set_option linter.unusedSimpArgs false
namespace Go.Proofs.YtnmgfnpphglphaaGreat
open Go.ChangeShapes Go.WideShapes Go.RowKit
set_option maxRecDepth 100000
theorem ownKnob_none : ownKnob Tryz.prog.godebug = none := by kernel_rfl
theorem laidOut : laidOutB Tryz.prog = true := by kernel_rfl
theorem trodAll_stays {P : Program} (hlo : laidOutB P = true) {H : Type} {enc : TypeId × Value → H} {W W' : World} (hb : Below W.heap.size W W') {sp : Nat → Bool} (ts : List TypeId) : ∀ (vs : List Value) (ds : List (DataW H)) (ps : List MemPlace),
  (∀ t ∈ ts, P.readableRec t = true ∧ t < P.types.size) → DataW.TrodAll enc P W 0 (fun _ => true) true ts vs ds ps → (∀ p ∈ ps, p.block < W.heap.size) → (∀ p ∈ ps, sp p.block = true) → DataW.TrodAll enc P W' 0 sp true ts vs ds ps := by
 induction ts with
 | nil =>
  intro vs ds ps _ h _ _
  obtain ⟨rfl, rfl, rfl⟩ := trodAll_nil h
  exact trodAll_mk0
 | cons t ts ih =>
  intro vs ds ps ht h hl hs
  obtain ⟨v, vs', d, ds', p, q, rfl, rfl, rfl, h1, h2⟩ := trodAll_cons h
  have h0 := ht t (by simp)
  exact trodAll_cons_mk (WideElems.Trod_stays hlo h0.1 h0.2 h1 (fun x hx => hb.same (hl x (List.mem_append_left _ hx))) (fun x hx => hs x (List.mem_append_left _ hx)))
   (ih _ _ _ (fun t' h' => ht t' (List.mem_cons_of_mem _ h')) h2 (fun x hx => hl x (List.mem_append_right _ hx)) (fun x hx => hs x (List.mem_append_right _ hx)))
theorem readable_of {P : Program} {ts : List TypeId} (h : (ts.all fun t => P.readableRec t && decide (t < P.types.size)) = true) : ∀ t ∈ ts, P.readableRec t = true ∧ t < P.types.size := fun t ht => by
 have := List.all_eq_true.1 h t ht
 simpa using this
theorem law_post {H : Type} {enc : TypeId × Value → H} {f : Func} {s : ChangeSpec} {W W' : World} {args : Array Value} {ds gs : List (DataW H)} {before : List MemPlace} (hv : s.vars = []) (hr : f.resultTypes = #[4])
  (hts : (f.params.toList.all fun t => Tryz.prog.readableRec t && decide (t < Tryz.prog.types.size)) = true) (hW : DataW.Whole enc Tryz.prog f.params.toList s.vars false W args.toList ds gs before)
  (hfn : s.fn H (ds ++ gs) = { results := [.lit (.bool true)], args := ds }) (hb : Below W.heap.size W W') : s.post enc Tryz.prog f false true false false W args (.bool true) W' := by
 have hW' := hW
 obtain ⟨p, q, hA, hV, he, _, _⟩ := hW
 rw [hv] at hV
 obtain ⟨rfl, rfl⟩ := trodVars_none hV
 rw [List.append_nil] at he
 subst he
 have hlt : ∀ x ∈ before, x.block < W.heap.size := fun x hx => by simpa using hW'.lt x hx
 refine ⟨ds, [], before, [], before, [], hW', ?_, ?_, ?_, hb.frame _, fun h => by cases h⟩
 ·rw [hfn, hr]
  exact trodAll_mk1 (shut_bool Tryz.underlying4 _)
 ·rw [hfn]
  exact trodAll_stays laidOut hb _ _ _ _ (readable_of hts) hA hlt (fun x hx => by simpa using hlt x hx)
 ·rw [hfn, hv]
  rfl
end Go.Proofs.YtnmgfnpphglphaaGreat
end
