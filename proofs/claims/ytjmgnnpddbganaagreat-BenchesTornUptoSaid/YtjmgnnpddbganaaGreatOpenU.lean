/-
  Arguments opened where their bulk is bounded: notes, whose lists lie in lists.
-/
import Derived.Test.YtjmgnnpddbganaaGreatClose
import Derived.Test.YtjmgnnpddbganaaGreatRows
set_option maxHeartbeats 16000000
set_option maxRecDepth 100000
set_option linter.unusedVariables false
set_option linter.unusedSimpArgs false
namespace Go.Proofs.YtjmgnnpddbganaaGreat
open Go.RowKit
open Go.ChangeShapes Go.WideShapes
set_option maxRecDepth 100000
variable {H : Type} {enc : TypeId × Value → H} {W : World} {n : Nat} {cs : List Value} {x : DataW H × List MemPlace}
abbrev BdT (x : DataW H × List MemPlace) : Prop := Rows.uptoBulk x.1 ≤ 1048576
theorem bulk_part {d : DataW H} {l : List (DataW H)} (h : d ∈ l) : Rows.uptoBulk d ≤ Rows.uptoBulkAll l := by
 induction l with
 | nil => cases h
 | cons x r ih =>
  simp only [Rows.uptoBulkAll]
  rcases List.mem_cons.1 h with rfl | h
  ·omega
  ·have := ih h; omega
theorem bulk_one (d : DataW H) : 1 ≤ Rows.uptoBulk d := by
 cases d with
 | lit l => cases l <;> simp [Rows.uptoBulk]
 | _ => simp [Rows.uptoBulk]
theorem bulk_len (l : List (DataW H)) : l.length ≤ Rows.uptoBulkAll l := by
 induction l with
 | nil => simp [Rows.uptoBulkAll]
 | cons x r ih => have := bulk_one x; simp only [Rows.uptoBulkAll, List.length_cons]; omega
theorem opensU_slice {α : Type} [Inhabited α] {t e sz : Nat} {e' : α → Array Value} {ok : (Nat → Prop) → World → α → Prop} (ht : Tryz.prog.underlying t = some (.slice e)) (hc : Tryz.prog.cellsOf e = sz) (hsz : 0 < sz)
  (helem : ∀ m cs y, RdT enc W m e cs y → BdT y → ∃ z : α, cs = (e' z).toList ∧ (e' z).size = sz ∧ ok (fun _ => False) W z) (h : RdT enc W n t cs x) (hb : BdT x) :
  ∃ s : Sl α, cs = [s.v] ∧ Sl.OK sz e' ok (fun _ => False) W s := by
 rcases Go.Deep.open_slice ht h with ⟨rfl, _⟩ | ⟨a, len, cap, m, k, D, Pl, rfl, _, hl, _, hm, hx, hi⟩
 ·exact ⟨⟨none, 0, []⟩, rfl, Sl.OK.nil _ _ _ _ _⟩
 ·have hm' : m = cap := by rw [hm]; rfl
  rw [hc] at hi
  have hbe : ∀ i, i < len → BdT (D i, Pl i) := fun i hil => by
   have h1 : D i ∈ (List.range len).map D := List.mem_map_of_mem (List.mem_range.2 hil)
   have h2 := bulk_part h1
   simp only [BdT] at hb ⊢
   rw [hx] at hb
   simp only [Rows.uptoBulk] at hb
   omega
  have hll : len ≤ 1048576 := by
   have h2 := bulk_len ((List.range len).map D)
   simp only [BdT] at hb
   rw [hx] at hb
   simp only [Rows.uptoBulk] at hb
   simp only [List.length_map, List.length_range] at h2
   omega
  obtain ⟨V, hV⟩ := Go.Deep.choose_lt (α := α) (n := len) (p := fun i z => (∀ j, j < sz → W.cell? (a.add (i * sz + j)) = (e' z)[j]?) ∧ (e' z).size = sz ∧ ok (fun _ => False) W z) (fun i hil => by
   obtain ⟨cs', h1, h2⟩ := hi i (by omega)
   obtain ⟨z, rfl, h3, h4⟩ := helem _ _ _ h2 (hbe i hil)
   obtain ⟨_, hlen, hcell⟩ := World.cells?_some h1
   refine ⟨z, fun j hj => ?_, h3, h4⟩
   have h5 := hcell j (by omega)
   rw [← Go.Deep.add_add, h5]
   simp)
  refine ⟨⟨some a, cap, (List.range len).map V⟩, by simp [Sl.v], ?_⟩
  have hspot : 0 < len → a.spot = none ∧ a.block < W.heap.size := fun h0 => by
   obtain ⟨h1, h2, _⟩ := hV 0 h0
   have h3 := h1 0 hsz
   have h4 : (e' (V 0))[0]? = some (e' (V 0))[0] := Array.getElem?_eq_getElem (by omega)
   rw [h4] at h3
   have h5 : a.spot = none := by simpa [Addr.add] using World.cell?_spot h3
   obtain ⟨b, o, sp⟩ := a
   simp only at h5
   subst h5
   refine ⟨rfl, ?_⟩
   rw [add_plain] at h3
   exact Nat.lt_of_not_le fun hle => by simp [World.cell?, Array.getElem?_eq_none hle] at h3
  refine ⟨by simpa using hl, by simp; omega, fun h0 => by simp at h0, fun p hp h0 => ?_, fun z hz => ?_, fun b o ha i z hz j hj => ?_⟩
  ·simp at hp; subst hp
   obtain ⟨h1, h2⟩ := hspot (by simpa using h0)
   exact ⟨h1, fun h => h, h2⟩
  ·obtain ⟨i, hi, rfl⟩ := List.mem_map.1 hz
   exact (hV i (List.mem_range.1 hi)).2.2
  ·simp at ha; subst ha
   have hil : i < len := by simpa using (List.getElem?_eq_some_iff.1 hz).1
   have hz' : z = V i := by
    rw [List.getElem?_map, List.getElem?_range hil] at hz
    simpa using hz.symm
   subst hz'
   have h1 := (hV i hil).1 j hj
   rwa [add_plain, ← Nat.add_assoc] at h1
theorem opensU_arg {α : Type} [Inhabited α] {t e sz base : Nat} {e' : α → Array Value} {ok : (Nat → Prop) → World → α → Prop} (ht : Tryz.prog.underlying t = some (.slice e)) (hc : Tryz.prog.cellsOf e = sz) (hsz : 0 < sz)
  (helem : ∀ m cs y, RdT enc W m e cs y → BdT y → ∃ z : α, cs = (e' z).toList ∧ (e' z).size = sz ∧ ok (fun _ => False) W z) {v : Value} {d : DataW H} {p : List MemPlace} (hval : Value.okWide Tryz.prog W .any base t v) (h : DataW.Trod enc Tryz.prog W 0 (fun _ => true) true t v d p) (hb : Rows.uptoBulk d ≤ 1048576) :
  ∃ s : Sl α, v = s.v ∧ Sl.OK sz e' ok (fun _ => False) W s := by
 obtain ⟨a, l, c, rfl⟩ := okWide_slice ht hval
 obtain ⟨m, hm⟩ := h
 obtain ⟨s, he, h2⟩ := opensU_slice (e' := e') (ok := ok) ht hc hsz helem hm hb
 refine ⟨s, ?_, h2⟩
 simpa [Value.cells] using he
theorem opensU_int {base : Nat} {v : Value} {d : DataW H} {p : List MemPlace} (hval : Value.okWide Tryz.prog W .any base 3 v) (h : DataW.Trod enc Tryz.prog W 0 (fun _ => true) true 3 v d p) : ∃ i, v = vi i ∧ I64 i := by
 obtain ⟨i, rfl⟩ := okWide_int Tryz.underlying3 hval
 obtain ⟨m, hm⟩ := h
 obtain ⟨j, he, hj⟩ := opens_int hm
 simp only [Value.cells, List.cons.injEq, and_true] at he
 have e : i = j := by injection he
 exact ⟨i, rfl, by rw [e]; exact hj⟩
end Go.Proofs.YtjmgnnpddbganaaGreat
