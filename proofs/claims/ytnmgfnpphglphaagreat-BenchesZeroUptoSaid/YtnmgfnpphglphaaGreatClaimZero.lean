/-
  'BenchesZero' answers true for whatever it is handed, of bulk at most 1048576, and leaves its arguments as they were.
-/
import Derived.Test.YtnmgfnpphglphaaGreatOpenA
import Derived.Test.YtnmgfnpphglphaaGreatRowZero
import Derived.Test.YtnmgfnpphglphaaGreatLawZero
set_option maxHeartbeats 16000000
set_option maxRecDepth 100000
set_option linter.unusedVariables false
set_option linter.unusedSimpArgs false
namespace Go.Proofs.YtnmgfnpphglphaaGreat.benchesZero
open Go.ChangeShapes Go.WideShapes Go.ChangeAt Go.RowKit
theorem contract : Contract := by
 intro H enc W base args ds gs before hval hW hk
 have hW' := hW
 have hbk : Rows.uptoBulkAll (ds ++ gs) ≤ 1048576 := of_decide_eq_true hk
 obtain ⟨p, q, hA0, hV, he, _, _⟩ := hW
 have hA : DataW.TrodAll enc Tryz.prog W 0 (fun _ => true) true Tryz.f5.params.toList args.toList ds p := hA0
 rw [Tryz.params5] at hA hval
 obtain ⟨v0, v1, v2, v3, v4, d0, d1, d2, d3, d4, p0, p1, p2, p3, p4, rfl, rfl, h0, h1, h2, h3, h4⟩ := trodAll_five hA
 obtain ⟨rfl, rfl⟩ := trodVars_none hV
 simp only [List.cons_append, List.nil_append, Rows.uptoBulkAll] at hbk
 obtain ⟨s0, rfl, hs0⟩ := opensU_arg (e' := encByte) (ok := okByte) Tryz.underlying30 cells_Byte (by decide) (fun m cs y h _ => opens_Byte h) (hval 0 _ v0 rfl rfl) h0 (by omega)
 obtain ⟨i1, rfl, wi1⟩ := opensU_int (hval 1 _ v1 rfl rfl) h1
 obtain ⟨i2, rfl, wi2⟩ := opensU_int (hval 2 _ v2 rfl rfl) h2
 obtain ⟨ek, eb, et, ei, ep, ef, z3, rfl⟩ := opensU_event (hval 3 _ v3 rfl rfl) h3 (by omega)
 obtain ⟨s4, rfl, hs4⟩ := opensU_arg (e' := encInt) (ok := okInt) Tryz.underlying35 cells_int (by decide) (fun m cs y h hb => opens_Int h) (hval 4 _ v4 rfl rfl) h4 (by omega)
 refine (zero_any s0 i1 i2 ek eb et ei ep ef z3 s4 W hs0 hs4).mono fun e W' ⟨he', hb⟩ => ?_
 subst he'
 exact ⟨_, rfl, law_post rfl rfl (by kernel_rfl) hW' rfl hb⟩
theorem proved : Rows.BenchesZeroUptoSaid := said contract
#print axioms proved
end Go.Proofs.YtnmgfnpphglphaaGreat.benchesZero
