/-
  The library's sorts at notes, names and what panes hold, from the shelf: over a slice that the call itself has laid.
  The library's sorts at this program's types.
-/
import Derived.Test.YtnmgfnpphglphaaGreatEff0
import Derived.Test.YtnmgfnpphglphaaGreatShelf
import Derived.Shelf.SlSortCmp.WholeK
import Derived.Shelf.SlSortCmp.NoneTotal
import Derived.Test.YtnmgfnpphglphaaGreatSpec
import Derived.Shelf.Sort.Plain
set_option maxHeartbeats 16000000
set_option maxRecDepth 100000
section
set_option linter.unusedVariables false
set_option linter.unusedSimpArgs false
namespace Go.Proofs.YtnmgfnpphglphaaGreat
open Go.RowKit
open Go.Sort (grow SWO PermIn SortedIn)
open Go.Shelf (Ren)
variable {α : Type}
theorem flatK_flat [Inhabited α] {enc : α → Array Value} {sz : Nat} (hsz : ∀ x, (enc x).size = sz) (h0 : 0 < sz) (l : List α) : Sort.flatK (fun x => (enc x).toList) sz l.toArray = (flat enc l).toArray := by
 apply Array.ext
 ·simp [flat_length hsz]
 ·intro i h1 h2
  have hi : i < l.length * sz := by simpa using h1
  have hd : i / sz < l.length := (Nat.div_lt_iff_lt_mul h0).2 hi
  have hm : i % sz < sz := Nat.mod_lt _ h0
  have e := flat_at (enc := enc) hsz l (i / sz) l[i / sz] (List.getElem?_eq_getElem hd) (i % sz) hm
  rw [show i / sz * sz + i % sz = i by rw [Nat.mul_comm]; exact Nat.div_add_mod i sz] at e
  have h3 := Sort.get_flatK (fun x => (enc x).toList) sz l.toArray i (by simpa using hi)
  rw [getElem!_pos _ i h1] at h3
  rw [h3]
  have e1 : (l.toArray)[i / sz]! = l[i / sz] := by simp [hd]
  rw [e1, getElem!_pos _ _ (by simpa [hsz] using hm)]
  have e2 : (flat enc l)[i]? = some ((flat enc l)[i]'(by simpa using h2)) := List.getElem?_eq_getElem _
  rw [e2, Array.getElem?_eq_getElem (by simpa [hsz] using hm)] at e
  simpa using (Option.some.inj e).symm
theorem run_enter {g : Nat} {fn : Func} {c : Code} (hf : Tryz.prog.funcs[g]? = some fn) (hn : (fn.name == "runtime.NumGoroutine") = false) (hb : fn.body = some c) : ∀ args w, (callFunc g args).run Tryz.prog w = .ok (.enter g args) w :=
 enters_of hf hn hb
theorem putRow_block (w : World) (blk : Nat) (F : Array Value) (cur : Array Value) (T : TypeId) (hb : w.heap[blk]? = some (.cells cur T)) : (Sort.putRow id w blk 0 F).heap[blk]? = some (.cells (Sort.putCells id 0 F cur) T) := by
 simp [Sort.putRow, Sort.mapBlock, Array.getElem?_modify, hb, Sort.onCells]
theorem putRow_else (w : World) (blk : Nat) (F : Array Value) (k : Nat) (hk : k ≠ blk) : (Sort.putRow id w blk 0 F).heap[k]? = w.heap[k]? := by
 simp [Sort.putRow, Sort.mapBlock, Array.getElem?_modify, Ne.symm hk]
theorem sort_own [Inhabited α] {ρ : Ren} (L : SlLaysF0.n6 Tryz.prog ρ) {enc : α → Array Value} {sz : Nat} (h0 : 0 < sz) (aE : ∀ w, (isAgg (ρ.t 24)).run Tryz.prog w = .ok true w) (zE : ∀ w, (Go.sizeOf (ρ.t 24)).run Tryz.prog w = .ok sz w)
  (hsz : ∀ x, (enc x).size = sz) (hone : ∀ x, (enc x).all (·.oneCell') = true) (cf : α → α → Int) (hO : SWO (ltOf cf)) (g : Nat) (eg : ∀ args w, (callFunc g args).run Tryz.prog w = .ok (.enter g args) w)
  (hcmp : ∀ x y W, Calls Tryz.prog g #[.agg (enc x), .agg (enc y)] W fun e W' => e = .returned (.int .i64 (cf x y)) ∧ Lays W W')
  (W : World) (base : Nat) (e : TypeId) (v : Value) (l : List α) (hown : OwnL enc sz W base e v l) (hlen : l.length ≤ 4294967296) :
  Calls Tryz.prog (ρ.f 6) #[v, .func (.func g) #[] #[]] W fun r W' => r = .returned (.tuple #[]) ∧ ∃ l' : List α, l'.Perm l ∧ Up (ltOf cf) l' ∧ OwnL enc sz W' base e v l' ∧ W.grownBy W' v.ownBlock := by
 obtain ⟨hfl, h | ⟨blk, cap, cur, rfl, h3, h4, h5, h6, h7, h8⟩⟩ := hown
 ·obtain ⟨rfl, hl⟩ := h
  refine (AnyF.slices_SortFunc_none L none 0 (.func (.func g) #[] #[]) W).mono ?_
  rintro r W' ⟨rfl, rfl⟩
  have : l = [] := List.eq_nil_of_length_eq_zero hl
  subst this
  exact ⟨rfl, [], .refl _, .nil, OwnL.nil _ _ _ _ _, rfl, rfl, rfl, Nat.le_refl _, fun _ _ _ => rfl⟩
 ·have hbl := (Array.getElem?_eq_some_iff.1 h4).1
  have hH : Sort.HoldsK (fun x => (enc x).toList) sz W blk 0 l.toArray := by
   unfold Sort.HoldsK
   rw [flatK_flat hsz h0]
   intro j hj
   simp only [List.size_toArray] at hj
   refine ⟨?_, ?_⟩
   ·simp only [World.cell?, h4, Nat.zero_add, id]
    rw [getElem!_pos _ j (by simpa using hj)]
    have : cur[j]? = some ((flat enc l)[j]'hj) := by
     have h9 : (flat enc l)[j]? = some ((flat enc l)[j]'hj) := List.getElem?_eq_getElem hj
     have h10 : (cur.toList.take (l.length * sz))[j]? = cur.toList[j]? := List.getElem?_take_of_lt (by rw [hfl] at hj; exact hj)
     rw [h8, h9] at h10
     simpa using h10.symm
    simpa using this
   ·simp [World.frozen?, h4]
  refine (AnyQ.slices_SortFunc L sz aE zE (fun x => (enc x).toList) (fun x => by simp [hsz]) (fun x u hu => by have := hone x; rw [Array.all_eq_true_iff_forall_mem] at this; exact this u (by simpa using hu)) cf hO g #[] blk 0 cap l.toArray W eg ?_ hH hbl (by simp; omega)).mono ?_
  ·intro m os dk hdk x y
   refine (hcmp x y _).mono ?_
   rintro r W' ⟨rfl, q, os', rfl⟩
   exact ⟨rfl, q, os', rfl⟩
  ·rintro r W' ⟨rfl, d', n, os, hp, hs, rfl⟩
   obtain ⟨hp1, _, hp3⟩ := hp
   have hd : d' = d'.toList.toArray := by simp
   have hpl : d'.toList.Perm l := by
    have e1 : (d'.extract 0 l.toArray.size) = d' := by rw [← hp1]; exact Array.extract_size
    have e2 : (l.toArray.extract 0 l.toArray.size) = l.toArray := Array.extract_size
    rw [e1, e2] at hp3; simpa using hp3
   have hlen' : d'.toList.length = l.length := hpl.length_eq
   have hw : sortWorldK (fun x => (enc x).toList) sz W blk 0 n d' os = grow (Sort.putRow id (Sort.ahead W n) blk 0 (flat enc d'.toList).toArray) os := by
    unfold sortWorldK Sort.putRowK
    rw [hd, flatK_flat hsz h0]
   rw [hw]
   have hb1 : (Sort.putRow id (Sort.ahead W n) blk 0 (flat enc d'.toList).toArray).heap[blk]? = some (.cells (Sort.putCells id 0 (flat enc d'.toList).toArray cur) e) := putRow_block _ _ _ _ _ h4
   have hsz2 : (Sort.putRow id (Sort.ahead W n) blk 0 (flat enc d'.toList).toArray).heap.size = W.heap.size := by simp
   have hfl' : (flat enc d'.toList).length = l.length * sz := by rw [flat_length hsz, hlen']
   have hcs : l.length * sz ≤ cur.size := by rw [h7]; exact Nat.mul_le_mul_right _ h5
   refine ⟨rfl, d'.toList, hpl, ?_, ?_, ?_⟩
   ·unfold Up
    rw [List.pairwise_iff_getElem]
    intro i j hi hj hij
    have := hs i j (Nat.zero_le _) hij (by simp at hj; rw [← hp1]; exact hj)
    simp at hi hj
    rw [getElem!_pos d' i (by simpa using hi), getElem!_pos d' j (by simpa using hj)] at this
    simpa using this
   ·unfold OwnL
    refine ⟨by rw [hfl', hlen'], .inr ⟨blk, cap, Sort.putCells id 0 (flat enc d'.toList).toArray cur, by rw [hlen'], h3, ?_, by rw [hlen']; exact h5, h6, by simpa [Sort.putCells] using h7, ?_⟩⟩
    ·show (Array.append _ os)[blk]? = _
     have : (Sort.putRow id (Sort.ahead W n) blk 0 (flat enc d'.toList).toArray).heap ++ os = (Sort.putRow id (Sort.ahead W n) blk 0 (flat enc d'.toList).toArray).heap ++ os := rfl
     exact (Array.getElem?_append_left (by rw [hsz2]; exact hbl)).trans hb1
    ·apply List.ext_getElem?
     intro i
     rw [List.getElem?_take, hlen']
     split
     ·rename_i hi
      have hi2 : i < (flat enc d'.toList).length := by rw [hfl']; exact hi
      have hi3 : i < cur.size := Nat.lt_of_lt_of_le hi hcs
      rw [List.getElem?_eq_getElem hi2]
      simp [Sort.putCells, hi3, hi2]
     ·rename_i hi
      exact (List.getElem?_eq_none (by rw [hfl']; omega)).symm
   ·refine ⟨rfl, rfl, rfl, by simp [grow], fun k hk hne => ?_⟩
    have hkb : k ≠ blk := fun e1 => hne (by simp [Value.ownBlock, e1])
    exact (Array.getElem?_append_left (by rw [hsz2]; exact hk)).trans (putRow_else _ _ _ _ hkb)
end Go.Proofs.YtnmgfnpphglphaaGreat
end
section
set_option linter.unusedVariables false
set_option linter.unusedSimpArgs false
namespace Go.Proofs.YtnmgfnpphglphaaGreat
open Go.RowKit
open Go.Sort (grow SWO PermIn SortedIn Holds putRow)
instance : Inhabited Note := ⟨zNote⟩
instance : Inhabited Ref := ⟨⟨0, 0⟩⟩
instance : Inhabited Held := ⟨zHeld⟩
def whenN (a b : Note) : Int := whenI a.abs b.abs
theorem swoNote : SWO (ltOf whenN) where
 irrefl x := by simp only [ltOf, whenN, decide_eq_false_iff_not, whenI_lt]; omega
 trans x y z h k := by simp only [ltOf, whenN, decide_eq_true_eq, whenI_lt] at *; omega
 ntrans x y z h k := by simp only [ltOf, whenN, decide_eq_false_iff_not, whenI_lt] at *; omega
theorem swoRef : SWO (ltOf compareRefsI) where
 irrefl x := by simp only [ltOf, decide_eq_false_iff_not, compareRefsI_lt]; omega
 trans x y z h k := by simp only [ltOf, decide_eq_true_eq, compareRefsI_lt] at *; omega
 ntrans x y z h k := by simp only [ltOf, decide_eq_false_iff_not, compareRefsI_lt] at *; omega
theorem note_sort : NoteSort := fun W base v l hown hl => by
 refine (sort_own Tryz.sortNote (α := Note) (by decide : 0 < 29) Tryz.isAgg43 Tryz.sizeOf43 (fun _ => rfl) encNote_one whenN swoNote 155 (run_enter Tryz.func155 (by kernel_rfl) rfl) (fun x y W => when_lays x y W) W base _ v l hown (by omega)).mono ?_
 rintro r W' ⟨rfl, l', h1, h2, h3, h4⟩
 exact ⟨rfl, l', h1, h2, h3, h4⟩
theorem ref_sort (W : World) (base : Nat) (v : Value) (l : List Ref) (hown : OwnL encRef 2 W base 34 v l) (hl : l.length ≤ 4294967296) :
  Calls Tryz.prog 170 #[v, .func (.func 117) #[] #[]] W fun e W' => e = .returned (.tuple #[]) ∧ OwnL encRef 2 W' base 34 v (sortBy ltRef l) ∧ W.grownBy W' v.ownBlock := by
 refine (sort_own Tryz.sortRef (α := Ref) (by decide : 0 < 2) Tryz.isAgg34 Tryz.sizeOf34 (fun _ => rfl) encRef_one compareRefsI swoRef 117 (run_enter Tryz.func117 (by kernel_rfl) rfl) (fun x y W => compareRefs_lays x y W) W base _ v l hown hl).mono ?_
 rintro r W' ⟨rfl, l', h1, h2, h3, h4⟩
 have : l' = sortBy ltRef l := up_eq (lt := ltRef) (fun a _ b _ hab hba => ltRef_eq a b hab hba) (h1.trans (sortBy_perm _ _).symm) h2 (sortBy_up ltRef_tr ltRef_as l)
 exact ⟨rfl, this ▸ h3, h4⟩
theorem int_sorted (l : List Int) : l.mergeSort (fun x y => decide (x ≤ y)) = sortBy ltInt l := by
 refine up_eq (lt := ltInt) (fun a _ b _ hab hba => ltInt_eq a b hab hba) ((List.mergeSort_perm l _).trans (sortBy_perm _ _).symm) ?_ (sortBy_up ltInt_tr ltInt_as l)
 have h : (l.mergeSort (fun x y => decide (x ≤ y))).Pairwise (fun a b => decide (a ≤ b) = true) := List.pairwise_mergeSort (fun a b c h k => by simp at *; omega) (fun a b => by simp; omega) l
 exact h.imp fun {a b} h => by simp [ltInt] at *; omega
end Go.Proofs.YtnmgfnpphglphaaGreat
end
