/-
  The examples at the head of the statements, in plain words.
-/
import Derived.Test.YtjmgnnpddbganaaGreatFolded
set_option maxHeartbeats 16000000
set_option maxRecDepth 100000
set_option linter.unusedVariables false
set_option linter.unusedSimpArgs false
namespace Go.Proofs.YtjmgnnpddbganaaGreat
def gG : Gauge := ⟨⟨1, 1⟩, ⟨2, 2⟩, 1⟩
def pA : PieceA := ⟨9, 1, 1, 0, 0, [gG, gG, gG, gG], []⟩
def noteA0 (bench num clock year kind to : Int) (ref : Ref) (pieces : List Int) (data : List PieceA) : NoteA :=
 ⟨bench, num, clock, year, kind, 0, 0, 0, 0, to, ⟨0, false⟩, ref, pieces, [], data, zItem.abs⟩
def findN : NoteA := noteA0 1 1 1 1900 1 0 ⟨0, 0⟩ [] [pA]
def sendN : NoteA := noteA0 1 2 2 1901 4 2 ⟨0, 0⟩ [9] []
def gotN : NoteA := noteA0 2 1 3 1901 5 0 ⟨1, 2⟩ [] []
def backN : NoteA := noteA0 1 3 4 1902 10 0 ⟨1, 2⟩ [] []
def ex1 : List NoteA := [findN, sendN]
def ex2 : List NoteA := [findN, sendN, gotN]
def ex3 : List NoteA := [findN, sendN, backN, gotN]
theorem eff1 : effA ex1 = [findN, sendN] := by kernel_rfl
theorem eff2 : effA ex2 = [findN, sendN, gotN] := by kernel_rfl
theorem eff3 : effA ex3 = [findN, gotN] := by kernel_rfl
theorem dang1 : dangA ex1 = [] := by kernel_rfl
theorem dang2 : dangA ex2 = [] := by kernel_rfl
theorem dang3 : dangA ex3 = [] := by kernel_rfl
theorem where1 : (foldedA ex1 9999).wher = [⟨9, 2, 0, ⟨0, false⟩, ⟨1, 2⟩⟩] := by kernel_rfl
theorem where2 : (foldedA ex2 9999).wher = [⟨9, 1, 2, ⟨0, false⟩, ⟨0, 0⟩⟩] := by kernel_rfl
theorem where3 : (foldedA ex3 9999).wher = [⟨9, 1, 1, ⟨0, false⟩, ⟨0, 0⟩⟩] := by kernel_rfl
theorem conf3 : (foldedA ex3 9999).conflicts = [⟨2, 1⟩] := by kernel_rfl
theorem small_of {L : LedA} (h : L.pieces.length = 1 ∧ L.glass.length = 0 ∧ L.items.length = 0 ∧ L.releads.length = 0 ∧ L.conflicts.length ≤ 1) : Small L := ⟨by omega, by omega, by omega, by omega, by omega⟩
theorem small1 : Small (ledEnd ex1 9999) := small_of (by decide)
theorem small2 : Small (ledEnd ex2 9999) := small_of (by decide)
theorem small3 : Small (ledEnd ex3 9999) := small_of (by decide)
theorem kinds (l : List NoteA) (h : ∀ x ∈ l, x.kind = 1 ∨ x.kind = 4 ∨ x.kind = 5) : ∀ (k : Nat) (x : NoteA), l[k]? = some x → x.year ≤ 9999 → P145 x (stA 9999 l k) := fun k x hx _ => h x (List.mem_of_getElem? hx)
theorem p1 : ∀ (k : Nat) (x : NoteA), (effA ex1)[k]? = some x → x.year ≤ 9999 → P145 x (stA 9999 (effA ex1) k) := kinds _ (by rw [eff1]; simp [findN, sendN, noteA0])
theorem p2 : ∀ (k : Nat) (x : NoteA), (effA ex2)[k]? = some x → x.year ≤ 9999 → P145 x (stA 9999 (effA ex2) k) := kinds _ (by rw [eff2]; simp [findN, sendN, gotN, noteA0])
theorem p3 : ∀ (k : Nat) (x : NoteA), (effA ex3)[k]? = some x → x.year ≤ 9999 → P145 x (stA 9999 (effA ex3) k) := kinds _ (by rw [eff3]; simp [findN, gotN, noteA0])
end Go.Proofs.YtjmgnnpddbganaaGreat
