/-
  A map's keys, sorted: maps.Keys, slices.Sorted at int keys, over the shelf's contracts.
-/
import Derived.Test.YtnmgfnpphglphaaGreatSort
import Derived.Test.YtnmgfnpphglphaaGreatShelf
import Derived.Test.YtnmgfnpphglphaaGreatKeys
import Derived.Shelf.SlIterI.Nil
set_option maxHeartbeats 16000000
set_option maxRecDepth 100000
set_option linter.unusedVariables false
set_option linter.unusedSimpArgs false
namespace Go.Proofs.YtnmgfnpphglphaaGreat
open Go.RowKit Go.Maps Go.Shelf
def anyElem (_ : Value) : Option (DataW Unit × List MemPlace) := some (.nil, [])
def datKeys {ν : Type} (m : List (Int × ν)) : DataW Unit := .map ((m.map fun p => (Lit.int .i64 p.1, DataW.nil)).foldr DataW.insert [])
theorem size_datKeys {ν : Type} (m : List (Int × ν)) : Maps.size (datKeys m) = m.length := by
 have h := (Go.WideShapes.sorted_perm (m.map fun p => (Lit.int .i64 p.1, (DataW.nil : DataW Unit)))).length_eq
 simpa [datKeys, Maps.size] using h
theorem intKeys_datKeys {ν : Type} (m : List (Int × ν)) : (intKeys (datKeys m)).Perm (m.map Prod.fst) := by
 have h := (Go.WideShapes.sorted_perm (m.map fun p => (Lit.int .i64 p.1, (DataW.nil : DataW Unit)))).map (fun p => _root_.Go.intOf p.1)
 simpa [datKeys, intKeys, List.map_map, Function.comp_def, _root_.Go.intOf] using h
theorem MapAt.owns {ν : Type} {V : ν → Value} {w : World} {b : Nat} {m : List (Int × ν)} (h : MapAt vi V I64 w b m) (hl : m.length ≤ maxLen) : w.ownsMap Tryz.prog 3 anyElem b m.length (datKeys m) := by
 have hg := h.good
 obtain ⟨es, clock, hb, hs, hm⟩ := h.raw
 have hml : es.size = m.length := by have := congrArg List.length hm; simpa using this
 have hk : ∀ x ∈ es.toList, ∃ p ∈ m, x.key = vi p.1 := fun x hx => by
  have : (x.key, x.val) ∈ m.map (fun p => (vi p.1, V p.2)) := by rw [← hm]; exact List.mem_map.2 ⟨x, hx, rfl⟩
  obtain ⟨p, hp, e⟩ := List.mem_map.1 this
  simp only [Prod.mk.injEq] at e
  exact ⟨p, hp, e.1.symm⟩
 have hrd : ∀ x ∈ es.toList, ∀ a : Int, x.key = vi a → I64 a → Go.WideElems.rd Tryz.prog 3 anyElem x = some (Lit.int .i64 a, DataW.nil) := fun x hx a ha hi => by
  have := Maps.keyOf_int_mk (P := Tryz.prog) Tryz.underlying3 (a := a) (by unfold I64 at hi; simp [Lit.wf, IntKind.min, IntKind.max, IntKind.bits, IntKind.signed]; omega)
  simp [Go.WideElems.rd, ha, this, anyElem]
 refine ⟨es, clock, hb, ⟨by omega, hs, fun x hx => ?_⟩, by omega, ?_⟩
 ·obtain ⟨p, hp, e⟩ := hk x hx
  exact ⟨_, hrd x hx p.1 e (hg p hp)⟩
 ·unfold datKeys
  congr 2
  refine (List.ext_getElem? fun i => ?_)
  have h1 := congrArg (fun l => l[i]?) hm
  simp only [List.getElem?_map] at h1 ⊢
  cases hi : es.toList[i]? with
  | none => rw [hi] at h1; simp only [Option.map_none] at h1 ⊢; cases hmi : m[i]? with
   | none => rfl
   | some p => rw [hmi] at h1; simp at h1
  | some x =>
   rw [hi] at h1
   cases hmi : m[i]? with
   | none => rw [hmi] at h1; simp at h1
   | some p =>
    rw [hmi] at h1
    simp only [Option.map_some, Option.some.injEq, Prod.mk.injEq] at h1 ⊢
    have := hrd x (List.mem_of_getElem? hi) p.1 h1.1 (hg p (List.mem_of_getElem? hmi))
    simp [Go.WideElems.rg, this]
theorem keysUp_of_perm {ν : Type} {m : List (Int × ν)} {ss : List Int} (h : ss.Perm (m.map Prod.fst)) : ss.mergeSort (fun x y => decide (x ≤ y)) = keysUp m := by
 rw [int_sorted]
 refine up_eq (lt := ltInt) (fun a _ b _ hab hba => ltInt_eq a b hab hba) (((sortBy_perm _ _).trans h).trans (sortBy_perm _ _).symm) (sortBy_up ltInt_tr ltInt_as _) (sortBy_up ltInt_tr ltInt_as _)
theorem flat_ints : ∀ l : List Int, flat encInt l = l.map encZ
 | [] => rfl
 | x :: l => by
  have ih := flat_ints l
  simp only [flat, List.flatMap_cons, List.map_cons] at ih ⊢
  rw [ih]; rfl
theorem sorts_int (m : Nat) : AnyZI.SortsIn Tryz.prog Tryz.sortedInt_ren Fence.wide m :=
 ⟨fun blk off cap ss W hH hblk hsz => callsIn_wide.2 (Any.slices_Sort_int Tryz.lays189 blk off cap ss W hH hblk hsz),
  fun p cap W => callsIn_wide.2 (Any.slices_Sort_int_none Tryz.lays189 p cap W)⟩
theorem keys_Piece (mb : Option Nat) (w : World) : Calls Tryz.prog 165 #[.map mb] w fun e w' => e = .returned (.func (.func 194) #[] #[.pointer (some ⟨w.heap.size, 0, none⟩)]) ∧ w' = w.alloc (.cells #[.map mb] 183) :=
 (callsIn_wide (n := 5)).1 (AnyZI.keys_in Tryz.keysPiece Fence.wide 5 trivial rfl mb w)
theorem sorted_Piece {ν : Type} {V : ν → Value} {w : World} {b Bm : Nat} {m : List (Int × ν)} (h : MapAt vi V I64 w b m) (hB : w.cell? ⟨Bm, 0, none⟩ = some (.map (some b))) (hBm : Bm < w.heap.size) (hl : m.length ≤ 1000000) :
  Calls Tryz.prog 164 #[.func (.func 194) #[] #[.pointer (some ⟨Bm, 0, none⟩)]] w fun e w' => ∃ v, e = .returned v ∧ OwnL encInt 1 w' w.heap.size 3 v (keysUp m) ∧ Below w.heap.size w w' := by
 have hmax : Maps.size (datKeys m) ≤ maxLen := by rw [size_datKeys]; unfold maxLen; omega
 have hbytes : Maps.size (datKeys m) * 8 ≤ 140737488355328 := by rw [size_datKeys]; omega
 have hown := h.owns (by unfold maxLen; omega)
 have hseq : SeqGives Fence.wide 2 Tryz.prog 194 #[.pointer (some ⟨Bm, 0, none⟩)] encZ (fun ss => ss.Perm (intKeys (datKeys m))) (Maps.size (datKeys m)) w :=
  AnyZI.keys_gives (ρ := Tryz.keysPiece_ren) { Tryz.keysPiece with } Fence.wide _ trivial rfl (by omega) Bm b m.length (datKeys m) w hBm hB hown
 have cS := AnyZI.sorted_in Tryz.sortedInt Fence.wide 5 trivial trivial trivial trivial rfl (by omega) (sorts_int _) (enters_of Tryz.func193 (by kernel_rfl) rfl) 194 #[.pointer (some ⟨Bm, 0, none⟩)] trivial (enters_of Tryz.func194 (by kernel_rfl) rfl) _ _ hmax hbytes _ hseq
 change CallsIn _ _ Tryz.prog 164 _ _ _ at cS
 refine ((callsIn_wide (n := 5)).1 cS).mono ?_
 rintro e w' ⟨v, ss, rfl, hS, hrow, hnil, hb⟩
 have hk := keysUp_of_perm (hS.trans (intKeys_datKeys m))
 refine ⟨v, rfl, ?_, hb⟩
 unfold OwnL
 rw [← hk, flat_ints, List.length_mergeSort]
 exact hrow
theorem keys_Int (mb : Option Nat) (w : World) : Calls Tryz.prog 166 #[.map mb] w fun e w' => e = .returned (.func (.func 195) #[] #[.pointer (some ⟨w.heap.size, 0, none⟩)]) ∧ w' = w.alloc (.cells #[.map mb] 185) :=
 (callsIn_wide (n := 5)).1 (AnyZI.keys_in Tryz.keysInt Fence.wide 5 trivial rfl mb w)
theorem sorted_Int {ν : Type} {V : ν → Value} {w : World} {b Bm : Nat} {m : List (Int × ν)} (h : MapAt vi V I64 w b m) (hB : w.cell? ⟨Bm, 0, none⟩ = some (.map (some b))) (hBm : Bm < w.heap.size) (hl : m.length ≤ 1000000) :
  Calls Tryz.prog 164 #[.func (.func 195) #[] #[.pointer (some ⟨Bm, 0, none⟩)]] w fun e w' => ∃ v, e = .returned v ∧ OwnL encInt 1 w' w.heap.size 3 v (keysUp m) ∧ Below w.heap.size w w' := by
 have hmax : Maps.size (datKeys m) ≤ maxLen := by rw [size_datKeys]; unfold maxLen; omega
 have hbytes : Maps.size (datKeys m) * 8 ≤ 140737488355328 := by rw [size_datKeys]; omega
 have hown := h.owns (by unfold maxLen; omega)
 have hseq : SeqGives Fence.wide 2 Tryz.prog 195 #[.pointer (some ⟨Bm, 0, none⟩)] encZ (fun ss => ss.Perm (intKeys (datKeys m))) (Maps.size (datKeys m)) w :=
  AnyZI.keys_gives (ρ := Tryz.keysInt_ren) { Tryz.keysInt with } Fence.wide _ trivial rfl (by omega) Bm b m.length (datKeys m) w hBm hB hown
 have cS := AnyZI.sorted_in Tryz.sortedInt Fence.wide 5 trivial trivial trivial trivial rfl (by omega) (sorts_int _) (enters_of Tryz.func193 (by kernel_rfl) rfl) 195 #[.pointer (some ⟨Bm, 0, none⟩)] trivial (enters_of Tryz.func195 (by kernel_rfl) rfl) _ _ hmax hbytes _ hseq
 change CallsIn _ _ Tryz.prog 164 _ _ _ at cS
 refine ((callsIn_wide (n := 5)).1 cS).mono ?_
 rintro e w' ⟨v, ss, rfl, hS, hrow, hnil, hb⟩
 have hk := keysUp_of_perm (hS.trans (intKeys_datKeys m))
 refine ⟨v, rfl, ?_, hb⟩
 unfold OwnL
 rw [← hk, flat_ints, List.length_mergeSort]
 exact hrow
theorem keys_Item (mb : Option Nat) (w : World) : Calls Tryz.prog 167 #[.map mb] w fun e w' => e = .returned (.func (.func 196) #[] #[.pointer (some ⟨w.heap.size, 0, none⟩)]) ∧ w' = w.alloc (.cells #[.map mb] 186) :=
 (callsIn_wide (n := 5)).1 (AnyZI.keys_in Tryz.keysItem Fence.wide 5 trivial rfl mb w)
theorem sorted_Item {ν : Type} {V : ν → Value} {w : World} {b Bm : Nat} {m : List (Int × ν)} (h : MapAt vi V I64 w b m) (hB : w.cell? ⟨Bm, 0, none⟩ = some (.map (some b))) (hBm : Bm < w.heap.size) (hl : m.length ≤ 1000000) :
  Calls Tryz.prog 164 #[.func (.func 196) #[] #[.pointer (some ⟨Bm, 0, none⟩)]] w fun e w' => ∃ v, e = .returned v ∧ OwnL encInt 1 w' w.heap.size 3 v (keysUp m) ∧ Below w.heap.size w w' := by
 have hmax : Maps.size (datKeys m) ≤ maxLen := by rw [size_datKeys]; unfold maxLen; omega
 have hbytes : Maps.size (datKeys m) * 8 ≤ 140737488355328 := by rw [size_datKeys]; omega
 have hown := h.owns (by unfold maxLen; omega)
 have hseq : SeqGives Fence.wide 2 Tryz.prog 196 #[.pointer (some ⟨Bm, 0, none⟩)] encZ (fun ss => ss.Perm (intKeys (datKeys m))) (Maps.size (datKeys m)) w :=
  AnyZI.keys_gives (ρ := Tryz.keysItem_ren) { Tryz.keysItem with } Fence.wide _ trivial rfl (by omega) Bm b m.length (datKeys m) w hBm hB hown
 have cS := AnyZI.sorted_in Tryz.sortedInt Fence.wide 5 trivial trivial trivial trivial rfl (by omega) (sorts_int _) (enters_of Tryz.func193 (by kernel_rfl) rfl) 196 #[.pointer (some ⟨Bm, 0, none⟩)] trivial (enters_of Tryz.func196 (by kernel_rfl) rfl) _ _ hmax hbytes _ hseq
 change CallsIn _ _ Tryz.prog 164 _ _ _ at cS
 refine ((callsIn_wide (n := 5)).1 cS).mono ?_
 rintro e w' ⟨v, ss, rfl, hS, hrow, hnil, hb⟩
 have hk := keysUp_of_perm (hS.trans (intKeys_datKeys m))
 refine ⟨v, rfl, ?_, hb⟩
 unfold OwnL
 rw [← hk, flat_ints, List.length_mergeSort]
 exact hrow
end Go.Proofs.YtnmgfnpphglphaaGreat
