/-
  'BenchesReads' answers true for whatever it is handed, and leaves its arguments as they were.
-/
import Derived.Test.YtendmmhfjhgdaaaGreatRowReads
import Derived.Test.YtendmmhfjhgdaaaGreatLawReads
set_option linter.unusedVariables false
set_option linter.unusedSimpArgs false
namespace Go.Proofs.YtendmmhfjhgdaaaGreat.benchesReads
open Go.ChangeShapes Go.WideShapes Go.ChangeAt Go.RowKit

set_option maxRecDepth 100000 in
theorem contract : Contract := by
  intro H enc W base args ds gs before hval hW
  have hW' := hW
  obtain ⟨p, q, hA0, hV, he, _, _⟩ := hW
  have hA : DataW.TrodAll enc Tryz.prog W 0 (fun _ => true) true Tryz.f9.params.toList args.toList ds p := hA0
  rw [Tryz.params9] at hA hval
  obtain ⟨v0, v1, v2, d0, d1, d2, p0, p1, p2, rfl, rfl, rfl, h0, h1, h2⟩ := trodAll_three hA
  obtain ⟨rfl, rfl⟩ := trodVars_none hV
  obtain ⟨a, l, c, rfl, hs⟩ := opens_arg (e' := encWhere) (ok := okWhere) Tryz.underlying52 cells_Where (by decide) (fun m cs y h => opens_Where h) (hval 0 _ v0 rfl rfl) h0
  obtain ⟨a2, l2, c2, rfl, hg⟩ := opens_arg (e' := encHeld) (ok := okHeld) Tryz.underlying53 cells_Held (by decide) (fun m cs y h => opens_Held h) (hval 1 _ v1 rfl rfl) h1
  obtain ⟨i, rfl⟩ := okWide_int Tryz.underlying3 (hval 2 _ v2 rfl rfl)
  refine (reads_any _ a a2 l c l2 c2 i W hs hg).mono fun e W' ⟨he', hb⟩ => ?_
  subst he'
  exact ⟨_, rfl, law_post rfl rfl (by kernel_rfl) hW' rfl hb⟩

theorem proved : Rows.BenchesReadsSaid := said contract
#print axioms proved
end Go.Proofs.YtendmmhfjhgdaaaGreat.benchesReads
