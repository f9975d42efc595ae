/-
  'BenchesClocks' answers true for whatever it is handed, of bulk at most 1048576, and leaves its arguments as they were.
-/
import Derived.Test.YtendmmhfjhgdaaaGreatRowClocks
import Derived.Test.YtendmmhfjhgdaaaGreatLawClocks
set_option linter.unusedVariables false
set_option linter.unusedSimpArgs false
namespace Go.Proofs.YtendmmhfjhgdaaaGreat.benchesClocks
open Go.ChangeShapes Go.WideShapes Go.ChangeAt Go.RowKit

set_option maxRecDepth 100000 in
theorem contract : Contract := by
  intro H enc W base args ds gs before hval hW hk
  have hW' := hW
  have hbk : Rows.uptoBulkAll (ds ++ gs) ≤ 1048576 := of_decide_eq_true hk
  obtain ⟨p, q, hA0, hV, he, _, _⟩ := hW
  have hA : DataW.TrodAll enc Tryz.prog W 0 (fun _ => true) true Tryz.f11.params.toList args.toList ds p := hA0
  rw [Tryz.params11] at hA hval
  obtain ⟨v0, v1, v2, d0, d1, d2, p0, p1, p2, rfl, rfl, rfl, h0, h1, h2⟩ := trodAll_three hA
  obtain ⟨rfl, rfl⟩ := trodVars_none hV
  simp only [List.cons_append, List.nil_append, Rows.uptoBulkAll] at hbk
  obtain ⟨s0, rfl, hs0⟩ := opensU_arg (e' := encNote) (ok := okNote) Tryz.underlying22 cells_Note (by decide) (fun m cs y h hb => opensU_Note h hb) (hval 0 _ v0 rfl rfl) h0 (by omega)
  obtain ⟨i1, rfl, wi1⟩ := opensU_int (hval 1 _ v1 rfl rfl) h1
  obtain ⟨i2, rfl, wi2⟩ := opensU_int (hval 2 _ v2 rfl rfl) h2
  refine (clocks_any s0 i1 i2 W hs0 wi1 wi2).mono fun e W' ⟨he', hb⟩ => ?_
  subst he'
  exact ⟨_, rfl, law_post rfl rfl (by kernel_rfl) hW' rfl hb⟩

theorem proved : Rows.BenchesClocksUptoSaid := said contract
#print axioms proved
end Go.Proofs.YtendmmhfjhgdaaaGreat.benchesClocks
