/-
  Arguments opened: acts, events, five arguments at once.
-/
import Derived.Test.YtnmgfnpphglphaaGreatOpenB
import Derived.Test.YtnmgfnpphglphaaGreatLawDisks
import Derived.Test.YtnmgfnpphglphaaGreatZeroW
set_option maxHeartbeats 16000000
set_option maxRecDepth 100000
set_option linter.unusedVariables false
set_option linter.unusedSimpArgs false
namespace Go.Proofs.YtnmgfnpphglphaaGreat
open Go.ChangeShapes Go.WideShapes Go.RowKit
variable {H : Type} {enc : TypeId × Value → H} {W : World} {n : Nat} {cs : List Value} {x : DataW H × List MemPlace}
theorem cut_at (l : List Value) (a b c : Nat) (h : a + b = c) : (l.drop a).take b ++ l.drop c = l.drop a := by
 subst h
 rw [← List.drop_drop]
 exact List.take_append_drop b (l.drop a)
theorem cut_end (l : List Value) (a b : Nat) (h : l.length = a + b) : (l.drop a).take b = l.drop a := List.take_of_length_le (by rw [List.length_drop]; omega)
theorem cells_Act : Tryz.prog.cellsOf 46 = 35 := by kernel_rfl
theorem cells_slNote : Tryz.prog.cellsOf 44 = 1 := by kernel_rfl
theorem opensU_Act (h : RdT enc W n 46 cs x) (hb : BdT x) : ∃ z : DAct, cs = (encDAct z).toList ∧ (encDAct z).size = 35 ∧ okDAct (fun _ => False) W z := by
 obtain ⟨xs, m, _, hx, hl, hxl, hf⟩ := DataW.trod_struct Tryz.underlying46 h
 rw [cells_Act] at hl
 rw [hx] at hb
 replace hxl : xs.length = 7 := hxl
 match xs, hxl with
 | [y0, y1, y2, y3, y4, y5, y6], _ =>
  have g0 : RdT enc W m 3 ((cs.drop 0).take 1) y0 := by
   have g : RdT enc W m 3 ((cs.drop 0).take (Tryz.prog.cellsOf 3)) y0 := hf 0 _ rfl
   rwa [cells_int] at g
  have g1 : RdT enc W m 3 ((cs.drop 1).take 1) y1 := by
   have g : RdT enc W m 3 ((cs.drop 1).take (Tryz.prog.cellsOf 3)) y1 := hf 1 _ rfl
   rwa [cells_int] at g
  have g2 : RdT enc W m 3 ((cs.drop 2).take 1) y2 := by
   have g : RdT enc W m 3 ((cs.drop 2).take (Tryz.prog.cellsOf 3)) y2 := hf 2 _ rfl
   rwa [cells_int] at g
  have g3 : RdT enc W m 30 ((cs.drop 3).take 1) y3 := by
   have g : RdT enc W m 30 ((cs.drop 3).take (Tryz.prog.cellsOf 30)) y3 := hf 3 _ rfl
   rwa [cells_slByte] at g
  have g5 : RdT enc W m 44 ((cs.drop 33).take 1) y5 := by
   have g : RdT enc W m 44 ((cs.drop 33).take (Tryz.prog.cellsOf 44)) y5 := hf 5 _ rfl
   rwa [cells_slNote] at g
  have g6 : RdT enc W m 35 ((cs.drop 34).take 1) y6 := by
   have g : RdT enc W m 35 ((cs.drop 34).take (Tryz.prog.cellsOf 35)) y6 := hf 6 _ rfl
   rwa [cells_slInt] at g
  obtain ⟨z0, e0, _⟩ := opens_int g0
  obtain ⟨z1, e1, k1⟩ := opens_int g1
  obtain ⟨z2, e2, k2⟩ := opens_int g2
  obtain ⟨z3, e3, k3⟩ := opensU_slice (e' := encByte) (ok := okByte) Tryz.underlying30 cells_Byte (by decide) (fun m cs y h _ => opens_Byte h) g3 (bulk_agg hb (by simp))
  obtain ⟨z5, e5, k5⟩ := opensU_slice (e' := encNote) (ok := okNote) Tryz.underlying44 cells_Note (by decide) (fun m cs y h hb => opensU_Note h hb) g5 (bulk_agg hb (by simp))
  obtain ⟨z6, e6, k6⟩ := opensU_slice (e' := encInt) (ok := okInt) Tryz.underlying35 cells_int (by decide) (fun m cs y h hb => opens_Int h) g6 (bulk_agg hb (by simp))
  have hn : ((cs.drop 4).take 29).length = 29 := by rw [List.length_take, List.length_drop]; omega
  have e : cs = (cs.drop 0).take 1 ++ ((cs.drop 1).take 1 ++ ((cs.drop 2).take 1 ++ ((cs.drop 3).take 1 ++ ((cs.drop 4).take 29 ++ ((cs.drop 33).take 1 ++ (cs.drop 34).take 1))))) := by
   rw [cut_end cs 34 1 hl, cut_at cs 33 1 34 rfl, cut_at cs 4 29 33 rfl, cut_at cs 3 1 4 rfl, cut_at cs 2 1 3 rfl, cut_at cs 1 1 2 rfl, cut_at cs 0 1 1 rfl, List.drop_zero]
  obtain ⟨ns, hns⟩ : ∃ ns, (cs.drop 4).take 29 = ns := ⟨_, rfl⟩
  rw [hns] at e hn
  refine ⟨⟨z0, z1, z2, z3, ns.toArray, z5.a, z5.val.length, z5.cap, z6.a, z6.val.length, z6.cap⟩, ?_, ?_, k1, k2, k3, ?_, k5.room, k6.room⟩
  ·rw [e0, e1, e2, e3, e5, e6] at e
   rw [e]
   simp [encDAct, Sl.v]
  ·simp only [encDAct, Array.size_append, List.size_toArray, hn]
   rfl
  ·rw [List.size_toArray, hn]
theorem trodAll_five {P : Program} {w : World} {base : Nat} {sp : Nat → Bool} {hd : Bool} {t0 t1 t2 t3 t4 : TypeId} {args : Array Value} {ds : List (DataW H)} {ps : List MemPlace} (h : DataW.TrodAll enc P w base sp hd [t0, t1, t2, t3, t4] args.toList ds ps) :
  ∃ v0 v1 v2 v3 v4 d0 d1 d2 d3 d4 p0 p1 p2 p3 p4, args = #[v0, v1, v2, v3, v4] ∧ ds = [d0, d1, d2, d3, d4] ∧ DataW.Trod enc P w base sp hd t0 v0 d0 p0 ∧ DataW.Trod enc P w base sp hd t1 v1 d1 p1 ∧ DataW.Trod enc P w base sp hd t2 v2 d2 p2 ∧
   DataW.Trod enc P w base sp hd t3 v3 d3 p3 ∧ DataW.Trod enc P w base sp hd t4 v4 d4 p4 := by
 obtain ⟨v0, vs, d0, ds', p0, q, hargs, rfl, rfl, h0, hrest⟩ := trodAll_cons h
 obtain ⟨v1, vs1, d1, ds1, p1, q1, rfl, rfl, rfl, h1, hrest⟩ := trodAll_cons hrest
 obtain ⟨v2, vs2, d2, ds2, p2, q2, rfl, rfl, rfl, h2, hrest⟩ := trodAll_cons hrest
 obtain ⟨v3, vs3, d3, ds3, p3, q3, rfl, rfl, rfl, h3, hrest⟩ := trodAll_cons hrest
 obtain ⟨v4, vs4, d4, ds4, p4, q4, rfl, rfl, rfl, h4, hrest⟩ := trodAll_cons hrest
 obtain ⟨rfl, rfl, rfl⟩ := trodAll_nil hrest
 exact ⟨v0, v1, v2, v3, v4, d0, d1, d2, d3, d4, p0, p1, p2, p3, p4, by cases args; simp_all, rfl, h0, h1, h2, h3, h4⟩
theorem cells_Event : Tryz.prog.cellsOf 59 = 35 := by kernel_rfl
theorem opensU_event {base : Nat} {v : Value} {d : DataW H} {p : List MemPlace} (hval : Value.okWide Tryz.prog W .any base 59 v) (h : DataW.Trod enc Tryz.prog W 0 (fun _ => true) true 59 v d p) (hb : Rows.uptoBulk d ≤ 1048576) :
  ∃ (ek eb et ei ep ef : Int) (z : Note), v = .agg (encEv ek eb et ei ep ef z) := by
 obtain ⟨ca, rfl, _⟩ := okWide_struct Tryz.underlying59 hval
 obtain ⟨m0, hm⟩ := h
 obtain ⟨xs, m, _, hx, hl, hxl, hf⟩ := DataW.trod_struct Tryz.underlying59 hm
 rw [cells_Event] at hl
 have hx' := congrArg Prod.fst hx
 simp only at hx'
 have hb' : BdT (DataW.agg (xs.map (·.1)), p) := by rw [← hx']; exact hb
 replace hxl : xs.length = 7 := hxl
 have hcs : ∃ cs : List Value, (Value.agg ca).cells.toList = cs := ⟨_, rfl⟩
 obtain ⟨cs, hcs⟩ := hcs
 rw [hcs] at hl hf
 have hca : ca = cs.toArray := by rw [← hcs]; simp [Value.cells]
 obtain ⟨y0, y1, y2, y3, y4, y5, y6, rfl⟩ : ∃ y0 y1 y2 y3 y4 y5 y6, xs = [y0, y1, y2, y3, y4, y5, y6] := by
  match xs, hxl with
  | [y0, y1, y2, y3, y4, y5, y6], _ => exact ⟨_, _, _, _, _, _, _, rfl⟩
 have gi : ∀ k y, RdT enc W m 3 ((cs.drop k).take (Tryz.prog.cellsOf 3)) y → ∃ z : Int, (cs.drop k).take 1 = [vi z] := fun k y g => by
  rw [cells_int] at g
  obtain ⟨z, e, _⟩ := opens_int g
  exact ⟨z, e⟩
 obtain ⟨z0, e0⟩ := gi 0 y0 (show RdT enc W m 3 ((cs.drop 0).take (Tryz.prog.cellsOf 3)) y0 from hf 0 _ rfl)
 obtain ⟨z1, e1⟩ := gi 1 y1 (show RdT enc W m 3 ((cs.drop 1).take (Tryz.prog.cellsOf 3)) y1 from hf 1 _ rfl)
 obtain ⟨z2, e2⟩ := gi 2 y2 (show RdT enc W m 3 ((cs.drop 2).take (Tryz.prog.cellsOf 3)) y2 from hf 2 _ rfl)
 obtain ⟨z3, e3⟩ := gi 3 y3 (show RdT enc W m 3 ((cs.drop 3).take (Tryz.prog.cellsOf 3)) y3 from hf 3 _ rfl)
 obtain ⟨z4, e4⟩ := gi 4 y4 (show RdT enc W m 3 ((cs.drop 4).take (Tryz.prog.cellsOf 3)) y4 from hf 4 _ rfl)
 obtain ⟨z5, e5⟩ := gi 5 y5 (show RdT enc W m 3 ((cs.drop 5).take (Tryz.prog.cellsOf 3)) y5 from hf 5 _ rfl)
 have g6 : RdT enc W m 43 ((cs.drop 6).take 29) y6 := by
  have g : RdT enc W m 43 ((cs.drop 6).take (Tryz.prog.cellsOf 43)) y6 := hf 6 _ rfl
  rwa [cells_Note] at g
 obtain ⟨z6, e6, _, _⟩ := opensU_Note g6 (bulk_agg hb' (by simp))
 have e : cs = (cs.drop 0).take 1 ++ ((cs.drop 1).take 1 ++ ((cs.drop 2).take 1 ++ ((cs.drop 3).take 1 ++ ((cs.drop 4).take 1 ++ ((cs.drop 5).take 1 ++ (cs.drop 6).take 29))))) := by
  rw [cut_end cs 6 29 hl, cut_at cs 5 1 6 rfl, cut_at cs 4 1 5 rfl, cut_at cs 3 1 4 rfl, cut_at cs 2 1 3 rfl, cut_at cs 1 1 2 rfl, cut_at cs 0 1 1 rfl, List.drop_zero]
 refine ⟨z0, z1, z2, z3, z4, z5, z6, ?_⟩
 rw [hca, e, e0, e1, e2, e3, e4, e5, e6]
 simp [encEv]
end Go.Proofs.YtnmgfnpphglphaaGreat
