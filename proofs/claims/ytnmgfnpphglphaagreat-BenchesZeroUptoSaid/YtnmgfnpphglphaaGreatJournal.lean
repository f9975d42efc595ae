/-
  Journals in plain Lean: frames, scans, and what one bit that is inverted does; no program in sight.
-/
import Derived.Test.YtnmgfnpphglphaaGreatBase
set_option maxHeartbeats 16000000
set_option maxRecDepth 100000
set_option linter.unusedVariables false
set_option linter.unusedSimpArgs false
namespace Go.Proofs.YtnmgfnpphglphaaGreat
def ckFrom : Nat → Nat → List UInt8 → Nat
 | _, s, [] => s
 | i, s, x :: l => ckFrom (i + 1) ((s + (i + 1) * x.toNat) % 65521) l
def checkA (l : List UInt8) : Nat := ckFrom 0 1 l
def shortA (n : Nat) : List UInt8 := [UInt8.ofNat n, UInt8.ofNat (n / 256)]
def longA : List UInt8 → Nat
 | x :: y :: _ => x.toNat + 256 * y.toNat
 | _ => 0
def framedA (b : List UInt8) : List UInt8 := shortA b.length ++ shortA (checkA (shortA b.length)) ++ b ++ shortA (checkA b)
def oneA (r : List UInt8) : Option (List UInt8) :=
 if r.length < 6 then none
 else if 8192 < longA r then none
 else if r.length < longA r + 6 then none
 else if ¬ longA (r.drop 2) = checkA (r.take 2) then none
 else if ¬ longA (r.drop (4 + longA r)) = checkA ((r.drop 4).take (longA r)) then none
 else some ((r.drop 4).take (longA r))
def scanA : Nat → List UInt8 → List (List UInt8) × Nat
 | 0, _ => ([], 0)
 | k + 1, b => match oneA b with
  | none => ([], 0)
  | some x => (x :: (scanA k (b.drop (x.length + 6))).1, x.length + 6 + (scanA k (b.drop (x.length + 6))).2)
def wsum : Nat → List UInt8 → Nat
 | _, [] => 0
 | i, x :: l => (i + 1) * x.toNat + wsum (i + 1) l
theorem ckFrom_eq : ∀ (l : List UInt8) (i s : Nat), s < 65521 → ckFrom i s l = (s + wsum i l) % 65521
 | [], i, s, h => by simp [ckFrom, wsum, Nat.mod_eq_of_lt h]
 | x :: l, i, s, h => by
  rw [ckFrom, ckFrom_eq l (i + 1) _ (Nat.mod_lt _ (by decide)), wsum]
  omega
theorem check_eq (l : List UInt8) : checkA l = (1 + wsum 0 l) % 65521 := ckFrom_eq l 0 1 (by decide)
theorem check_lt (l : List UInt8) : checkA l < 65521 := by rw [check_eq]; exact Nat.mod_lt _ (by decide)
def flipB (j : Nat) (x : UInt8) : UInt8 := x ^^^ (1 <<< UInt8.ofNat j)
theorem pow_le (j : Nat) (hj : j < 8) : 1 ≤ 2 ^ j ∧ 2 ^ j ≤ 128 := by
 have h : ∀ i : Fin 8, 1 ≤ 2 ^ i.val ∧ 2 ^ i.val ≤ 128 := by decide
 exact h ⟨j, hj⟩
end Go.Proofs.YtnmgfnpphglphaaGreat
