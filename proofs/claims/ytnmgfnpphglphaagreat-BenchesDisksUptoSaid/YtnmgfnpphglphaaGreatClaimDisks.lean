/-
  'BenchesDisks' answers true for whatever it is handed, of bulk at most 1048576, and leaves its arguments as they were.
-/
import Derived.Test.YtnmgfnpphglphaaGreatOpenA
import Derived.Test.YtnmgfnpphglphaaGreatRowDisks
import Derived.Test.YtnmgfnpphglphaaGreatLawDisks
set_option maxHeartbeats 16000000
set_option maxRecDepth 100000
set_option linter.unusedVariables false
set_option linter.unusedSimpArgs false
namespace Go.Proofs.YtnmgfnpphglphaaGreat.benchesDisks
open Go.ChangeShapes Go.WideShapes Go.ChangeAt Go.RowKit
theorem contract : Contract := by
 intro H enc W base args ds gs before hval hW hk
 have hW' := hW
 have hbk : Rows.uptoBulkAll (ds ++ gs) ≤ 1048576 := of_decide_eq_true hk
 obtain ⟨p, q, hA0, hV, he, _, _⟩ := hW
 have hA : DataW.TrodAll enc Tryz.prog W 0 (fun _ => true) true Tryz.f3.params.toList args.toList ds p := hA0
 rw [Tryz.params3] at hA hval
 obtain ⟨v0, d0, rfl, rfl, h0⟩ := trodAll_one hA
 obtain ⟨rfl, rfl⟩ := trodVars_none hV
 simp only [List.cons_append, List.nil_append, Rows.uptoBulkAll] at hbk
 obtain ⟨s0, rfl, hs0⟩ := opensU_arg (e' := encDAct) (ok := okDAct) Tryz.underlying22 cells_Act (by decide) (fun m cs y h hb => opensU_Act h hb) (hval 0 _ v0 rfl rfl) h0 (by omega)
 refine (disks_any s0 W hs0).mono fun e W' ⟨he', hb⟩ => ?_
 subst he'
 exact ⟨_, rfl, law_post rfl rfl (by kernel_rfl) hW' rfl hb⟩
theorem proved : Rows.BenchesDisksUptoSaid := said contract
#print axioms proved
end Go.Proofs.YtnmgfnpphglphaaGreat.benchesDisks
