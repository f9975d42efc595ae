/-
  Arguments opened: lists of bytes.
-/
import Derived.Test.YtnmgfnpphglphaaGreatOpenU
import Derived.Test.YtnmgfnpphglphaaGreatSub
set_option maxHeartbeats 16000000
set_option maxRecDepth 100000
set_option linter.unusedVariables false
set_option linter.unusedSimpArgs false
namespace Go.Proofs.YtnmgfnpphglphaaGreat
open Go.ChangeShapes Go.WideShapes Go.RowKit
variable {H : Type} {enc : TypeId × Value → H} {W : World} {n : Nat} {cs : List Value} {x : DataW H × List MemPlace}
theorem cells_Byte : Tryz.prog.cellsOf 5 = 1 := by kernel_rfl
theorem cells_slByte : Tryz.prog.cellsOf 30 = 1 := by kernel_rfl
theorem opens_Byte (h : RdT enc W n 5 cs x) : ∃ z : UInt8, cs = (encByte z).toList ∧ (encByte z).size = 1 ∧ okByte (fun _ => False) W z := by
 obtain ⟨i, rfl, _, hw⟩ := DataW.trod_int Tryz.underlying5 h
 have hb : 0 ≤ i ∧ i < 256 := by
  have := bounds_u8 hw
  omega
 refine ⟨UInt8.ofNat i.toNat, ?_, rfl, trivial⟩
 have e : ((UInt8.ofNat i.toNat).toNat : Int) = i := by
  rw [UInt8.toNat_ofNat']
  omega
 unfold encByte
 rw [e]
end Go.Proofs.YtnmgfnpphglphaaGreat
