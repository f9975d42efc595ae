/-
  long, slices.Clone of bytes, SameBytes, Scan: walked.
-/
import Derived.Test.YtnmgfnpphglphaaGreatSub
import Derived.Test.YtnmgfnpphglphaaGreatOrd
import Derived.Test.YtnmgfnpphglphaaGreatAppR
import Derived.Laws.BytesArg
import Derived.WalkMore
set_option maxHeartbeats 16000000
set_option maxRecDepth 100000
set_option linter.unusedVariables false
set_option linter.unusedSimpArgs false
namespace Go.Proofs.YtnmgfnpphglphaaGreat
open Go.RowKit
@[go_sem] theorem eqGuardS_Byte : Tryz.prog.eqGuardType Tryz.prog.depth 30 = false := by kernel_rfl
@[go_sem high] theorem eqlS_Byte (w : World) (a : Option Addr) (l c : Nat) : (binOp .eql 30 (.slice a l c) (.slice none 0 0)).run Tryz.prog w = .ok (.bool a.isNone) w := run_eql_slice_nil w _ _ a l c Tryz.underlying30
def strB (l : List UInt8) : ByteArray := ⟨l.toArray⟩
theorem run_str {D : Nat → Prop} {w : World} {s : Sl UInt8} (hs : okSl D w s) : (convert 30 9 (.slice s.a s.val.length s.cap)).run Tryz.prog w = .ok (.string (strB s.val)) w := by
 obtain ⟨a, cap, val⟩ := s
 cases a with
 | none =>
  obtain ⟨h1, h2⟩ := hs.isNil rfl
  simp only at h1 h2
  subst h1; subst h2
  exact run_convert_bytes_nil w 30 5 Tryz.underlying30 Tryz.underlying5 0 0 9 Tryz.underlying9
 | some p =>
  by_cases hz : val = []
  ·subst hz
   refine (run_convert_bytes_string w 30 9 5 _ _ _ Tryz.underlying30 Tryz.underlying5 Tryz.underlying9).trans ?_
   exact run_bytesToString w p 0 cap [] (run_loadCells_list (P := Tryz.prog) w p [] (by simp))
  ·obtain ⟨b, o, sp⟩ := p
   obtain ⟨h1, h2, h3⟩ := hs.place _ rfl (List.length_pos_iff.2 hz)
   simp only at h1 h2 h3
   subst h1
   refine (run_convert_bytes_arg w 30 5 Tryz.underlying30 Tryz.underlying5 b o val.length cap (val.map fun x => (x.toNat : Int)) (by simp) (fun i hi => ?_) 9 Tryz.underlying9).trans ?_
   ·obtain ⟨x, hx⟩ : ∃ x, val[i]? = some x := ⟨_, List.getElem?_eq_getElem hi⟩
    have := hs.cell b o rfl i x hx 0 (by decide)
    simpa [encByte, List.getD, hx] using this
   ·simp [strOfNums, strB, List.map_map, Function.comp_def]
end Go.Proofs.YtnmgfnpphglphaaGreat
