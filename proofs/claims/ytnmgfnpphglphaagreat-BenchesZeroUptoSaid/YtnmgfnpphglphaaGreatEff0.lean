/-
  The notes that count: the first steps, walked.
-/
import Derived.Test.YtnmgfnpphglphaaGreatCopyItem
import Derived.Test.YtnmgfnpphglphaaGreatKeys
import Derived.Test.YtnmgfnpphglphaaGreatLays
import Derived.Test.YtnmgfnpphglphaaGreatOrd
import Derived.Maps.AppendAt
set_option maxHeartbeats 16000000
set_option maxRecDepth 100000
set_option linter.unusedVariables false
set_option linter.unusedSimpArgs false
namespace Go.Proofs.YtnmgfnpphglphaaGreat
open Go.RowKit
theorem wp_store_map {κ ν : Type} [DecidableEq κ] {P : Program} {Km : κ → Value} {V : ν → Value} {good : κ → Prop} {w : World} {b : Nat} {m : List (κ × ν)} {kt et : TypeId} {o : Oper} {a : Act} {K : Act → World → Prop} {Q : Exit → Act → World → Prop}
  (mm x v : Operand) (t : TypeId) (hop : o.op = Op.mapUpdate t mm x v) (KO : KeyOK P kt Km good) (ht : P.underlying t = some (.map kt et))
  (hm : a.eval mm = .map (some b)) (h : MapAt Km V good w b m) (k : κ) (hk : good k) (hx : a.eval x = Km k) (y : ν) (hv : a.eval v = V y)
  (hK : ∀ w', MapAt Km V good w' b (aput m k y) → Turn b w w' → K (a.put o.dst undef) w') : o.wp P a w K Q := by
 obtain ⟨w', hrun, r1, r2⟩ := h.store KO ht hk y
 unfold Oper.wp
 simp [execOp, hop, hm, hx, hv, hrun, Result.andThen, Oper.upon]
 exact hK w' r1 r2
abbrev vNote (n : Note) : Value := .agg (encNote n)
theorem zeroBool (w : World) : (zeroValue 4).run Tryz.prog w = .ok (.bool false) w := by kernel_rfl
theorem zeroNote (w : World) : (zeroValue 43).run Tryz.prog w = .ok (vNote zNote) w := by kernel_rfl
theorem judging_any (n : Note) (w : World) :
  Calls Tryz.prog 151 #[.agg (encNote n)] w fun e w' => e = .returned (.bool (judgingI n.kind)) ∧ Below w.heap.size w w' := by
 go_enter Tryz.func151, Tryz.ntmps151
 go_wp2
 all_goals go_ret
 all_goals exact ⟨by simp [judgingI, *] <;> (rw [Bool.eq_iff_iff]; simp_all), (Below.refl _ _).alloc (Nat.le_refl _) _⟩
theorem okNote_name {D : Nat → Prop} {w : World} {x : Note} (h : okNote D w x) : gRef (refN x) := ⟨h.1, h.2.1⟩
theorem okNote_ref {D : Nat → Prop} {w : World} {x : Note} (h : okNote D w x) : gRef x.ref := by
 simp only [okNote] at h; exact ⟨h.2.2.2.2.2.2.2.2.2.2.2.1, h.2.2.2.2.2.2.2.2.2.2.2.2.1⟩
def plainN (l : List Note) : List (Ref × Bool) := plainA (l.map Note.abs)
theorem plainN_snoc (l : List Note) (x : Note) : plainN (l ++ [x]) = aput (plainN l) (refN x) (!judgingI x.kind) := by
 simp [plainN, plainA, abs_name, Note.abs]
 rfl
theorem take_snoc {α : Type} {l : List α} {k : Nat} {x : α} (h : l[k]? = some x) : l.take (k + 1) = l.take k ++ [x] := by rw [List.take_add_one, h]; rfl
theorem buildRef (r : Ref) : Array.foldl (fun cs (x : Value × Nat) => cs.setIfInBounds x.snd x.fst) #[Value.int .i64 0, Value.int .i64 0] (encRef r).zipIdx 0 2 = encRef r := by
 simp [encRef]
theorem cells_of_eq {w : World} {cs ds : Array Value} {T : TypeId} (h : cs = ds) : ∀ j, j < ds.size → (w.alloc (.cells cs T)).cell? ⟨w.heap.size, 0 + j, none⟩ = ds[j]? := by subst h; exact cells_new w cs T
theorem app_keep {v : Value} {w2 w3 : World} {ob : Obj} (hg : (w2.alloc ob).grownBy w3 v.ownBlock) {k : Nat} (hk : k < w2.heap.size) (hne : v.ownBlock ≠ some k) : w3.heap[k]? = w2.heap[k]? :=
 (hg.block k (by simp; omega) (Ne.symm hne)).trans ((MapKept.heap_alloc w2 ob).2 k hk)
theorem app_below {α : Type} {enc : α → Array Value} {sz base n : Nat} {e : TypeId} {v : Value} {l : List α} {w2 w3 : World} {ob : Obj} (ho : OwnL enc sz w2 base e v l) (hg : (w2.alloc ob).grownBy w3 v.ownBlock) (hn : n ≤ base) (hb : base ≤ w2.heap.size) : Below n w2 w3 :=
 ((Below.refl n w2).alloc (Nat.le_trans hn hb) ob).trans (Below.appended (ho.belowAll ((Below.refl _ _).alloc (Nat.le_refl _) ob)) hg hn (Nat.le_trans hb (by simp)))
def absMap (m : List (Ref × Note)) : List (Ref × NoteA) := m.map fun p => (p.1, p.2.abs)
theorem aget_absMap (m : List (Ref × Note)) (k : Ref) : aget (absMap m) k = (aget m k).map Note.abs := by
 simp only [aget, absMap, List.find?_map, Option.map_map]
 rfl
theorem ahas_absMap (m : List (Ref × Note)) (k : Ref) : ahas (absMap m) k = ahas m k := by
 rw [← aget_isSome, aget_absMap, ← aget_isSome]; simp
theorem aput_absMap (m : List (Ref × Note)) (k : Ref) (x : Note) : aput (absMap m) k x.abs = absMap (aput m k x) := by
 unfold aput
 rw [ahas_absMap]
 split
 ·simp only [absMap, List.map_map]
  refine List.map_congr_left fun p _ => ?_
  simp only [Function.comp]
  split <;> simp_all
 ·simp [absMap]
def jst (l : List Note) (k : Nat) : List (Ref × NoteA) × List Ref := ((l.take k).map Note.abs).foldl (judgeA (plainN l)) ([], [])
theorem jst_succ {l : List Note} {k : Nat} {x : Note} (hx : l[k]? = some x) : jst l (k + 1) = judgeA (plainN l) (jst l k) x.abs := by
 simp [jst, take_snoc hx]
theorem jst_no {l : List Note} {k : Nat} {x : Note} (hx : l[k]? = some x) (hj : judgingI x.kind = false) : jst l (k + 1) = jst l k := by
 rw [jst_succ hx]; unfold judgeA; rw [if_neg]; show ¬ judgingI x.kind = true; rw [hj]; simp
theorem jst_yes {l : List Note} {k : Nat} {x old : Note} {js : List (Ref × Note)} (hx : l[k]? = some x) (hj : judgingI x.kind = true) (hjs : absMap js = (jst l k).1) (hold : (aget js x.ref).getD zNote = old) :
  jst l (k + 1) = (if (!ahas js x.ref || decide (0 < orI [cmpI x.clock old.clock, compareRefsI (refN x) (refN old)])) = true then absMap (aput js x.ref x) else absMap js,
   if (aget (plainN l) x.ref).getD false = true then (jst l k).2 else (jst l k).2 ++ [refN x]) := by
 rw [jst_succ hx]; unfold judgeA; rw [if_pos (show judgingI x.abs.kind = true from hj), ← hjs]
 have h1 : ((aget (absMap js) x.abs.ref).getD zNote.abs) = old.abs := by
  rw [aget_absMap, ← hold]; show (Option.map Note.abs (aget js x.ref)).getD zNote.abs = _
  cases aget js x.ref <;> rfl
 rw [h1, ahas_absMap, aput_absMap]
 rfl
theorem jst_len (l : List Note) : ∀ k, (jst l k).2.length ≤ k
 | 0 => by simp [jst]
 | k + 1 => by
  have ih := jst_len l k
  cases hx : l[k]? with
  | none =>
   have : jst l (k + 1) = jst l k := by simp only [jst]; rw [List.take_add_one, hx]; simp
   rw [this]; omega
  | some x =>
   rw [jst_succ hx]; unfold judgeA
   split
   ·simp only []; split <;> simp <;> omega
   ·omega
theorem jst_all (l : List Note) : jst l l.length = judgesA (l.map Note.abs) := by
 simp only [jst, List.take_length]; rfl
theorem wpList_append_oneAt {α : Type} {enc : α → Array Value} {sz : Nat} {P : Program} {w : World} {ops : Array Oper} {rest : List Oper} {o : Oper} {a : Act} {Q : Exit → Act → World → Prop} (hgd : o.guard = none) (s x : Operand) (t : TypeId)
  (ho : o.op = .call { callee := .builtin .append, args := #[s, x], argTypes := #[t, t] })
  (base : Nat) {e : TypeId} {bytes : Nat} (hE : EInfo P t e sz bytes) (hsz : ∀ x, (enc x).size = sz) (h0 : 0 < sz) (hone : ∀ x, (enc x).all (·.oneCell') = true) (hby : bytes ≤ 10000)
  (v : Value) (l : List α) (hs : a.eval s = v) (hown : OwnL enc sz w base e v l)
  (b off c : Nat) (y : α) (hx : a.eval x = .slice (some ⟨b, off, none⟩) 1 c) (hy : ∀ j, j < sz → w.cell? ⟨b, off + j, none⟩ = (enc y)[j]?)
  (hlen : l.length + 1 ≤ 4294967296) (hbase : base ≤ w.heap.size)
  (h : ∀ v' w', OwnL enc sz w' base e v' (l ++ [y]) → w.grownBy w' v.ownBlock → v' ≠ .slice none 0 0 → (v'.ownBlock = v.ownBlock ∨ v'.ownBlock = some w.heap.size) → wpList P ops Q rest (a.put o.dst v') w') : wpList P ops Q (o :: rest) a w := by
 obtain ⟨ht, i, z, hi, hz, hs1, hb1, hzs⟩ := hE.out
 refine wpList_append_own_at w hgd s x t ho base e i z sz bytes ht hi hz hs1 hb1 hzs h0 v l.length (flat enc l) hs hown ⟨b, off, none⟩ 1 c (flat enc [y]) hx (flat_length hsz [y]) ?_ (flat_one_cell hone [y]) (by unfold maxLen; omega) ?_ hbase ?_
 ·intro j u hj
  rw [flat_one] at hj
  have hjl : j < sz := by have := (List.getElem?_eq_some_iff.1 hj).1; simpa [hsz] using this
  have hadd : (⟨b, off, none⟩ : Addr).add j = ⟨b, off + j, none⟩ := by unfold Addr.add; split <;> simp_all
  rw [hadd, hy j hjl, ← hj]; simp
 ·calc (l.length + 1) * bytes ≤ 4294967296 * 10000 := Nat.mul_le_mul hlen hby
   _ ≤ 140737488355328 := by decide
 ·intro v' w' h1 h2 h3 h4
  refine h v' w' ?_ h2 (fun h5 => by simpa using (h3.1 h5).2) h4
  unfold OwnL
  rw [flat_append, List.length_append]
  exact h1
def Wide (D : Nat → Prop) (w : World) : Nat → Prop := fun k => D k ∨ w.heap.size ≤ k
theorem Sl.OK.wide {α : Type} {sz : Nat} {e : α → Array Value} {ok : (Nat → Prop) → World → α → Prop} {D : Nat → Prop} {w : World} {s : Sl α} (h : Sl.OK sz e ok D w s) (hok : ∀ x, ok D w x → ok (Wide D w) w x) : Sl.OK sz e ok (Wide D w) w s :=
 ⟨h.le, h.room, h.isNil, fun p hp hl => let ⟨h1, h2, h3⟩ := h.place p hp hl; ⟨h1, fun hd => hd.elim h2 (fun h4 => absurd h3 (Nat.not_lt.2 h4)), h3⟩, fun x hm => hok x (h.elem x hm), h.cell⟩
theorem okPiece_wide {D : Nat → Prop} {w : World} {x : Piece} (h : okPiece D w x) : okPiece (Wide D w) w x := by
 obtain ⟨i1, i2, i3, i4, i5, g, k⟩ := h
 exact ⟨i1, i2, i3, i4, i5, g.wide (fun _ h => h), k.wide (fun _ h => h)⟩
theorem okItem_wide {D : Nat → Prop} {w : World} {x : Item} (h : okItem D w x) : okItem (Wide D w) w x := by
 obtain ⟨i1, i2, i3, i4, i5, i6, i7, i8, i9, g, k, l⟩ := h
 exact ⟨i1, i2, i3, i4, i5, i6, i7, i8, i9, g.wide (fun _ h => h), k.wide (fun _ h => h), l.wide (fun _ h => h)⟩
theorem okNote_wide {D : Nat → Prop} {w : World} {x : Note} (h : okNote D w x) : okNote (Wide D w) w x := by
 have o1 := (okNote_pieces h).wide (fun _ h => h)
 have o2 := (okNote_panes h).wide (fun _ h => h)
 have o3 := (okNote_data h).wide (fun _ h => okPiece_wide h)
 have o4 := okItem_wide (okNote_item h)
 simp only [okNote] at h ⊢
 simp only [okItem] at o4
 simp only [h, o1, o2, o3, o4, and_self]
theorem okNote_step {D D' : Nat → Prop} {w w' : World} {x : Note} (h : okNote D w x) (hx : ∀ k, k < w.heap.size → ¬ D k → w'.heap[k]? = w.heap[k]?) (hs : w.heap.size ≤ w'.heap.size) (hd : ∀ k, D' k → D k ∨ w.heap.size ≤ k) : okNote D' w' x :=
 (okNote.ext (okNote_wide h) ⟨hs, fun k hk hn => hx k hk (fun h => hn (.inl h))⟩).mono hd
def fixedN (j x : Note) : Note := { j with bench := x.bench, num := x.num, clock := x.clock, kind := j.fix, fix := 0, ref := ⟨0, 0⟩ }
theorem okNote_fixed {D : Nat → Prop} {w : World} {j x : Note} (hj : okNote D w j) (hx : okNote D w x) : okNote D w (fixedN j x) := by
 simp only [okNote] at hj hx ⊢
 simp only [fixedN, hj, hx, I64_zero, and_self]
theorem counts_abs (js : List (Ref × Note)) (x : Note) : countsA (absMap js) x.abs = if judgingI x.kind = true then none else match aget js (refN x) with | none => some x.abs | some j => if j.kind = 10 then none else some (fixedN j x).abs := by
 unfold countsA
 rw [show x.abs.kind = x.kind from rfl, abs_name, aget_absMap]
 split
 ·rfl
 ·cases aget js (refN x) <;> rfl
def countN (l : List Note) (k : Nat) : List NoteA := ((l.take k).map Note.abs).filterMap (countsA (judgesA (l.map Note.abs)).1)
theorem countN_succ {l : List Note} {k : Nat} {x : Note} {js : List (Ref × Note)} (hx : l[k]? = some x) (hjs : absMap js = (judgesA (l.map Note.abs)).1) :
  countN l (k + 1) = countN l k ++ (if judgingI x.kind = true then none else match aget js (refN x) with | none => some x.abs | some j => if j.kind = 10 then none else some (fixedN j x).abs).toList := by
 rw [← counts_abs, hjs]
 simp only [countN, take_snoc hx, List.map_append, List.map_cons, List.map_nil, List.filterMap_append]
 congr 1
def NoteSort : Prop := ∀ (W : World) (base : Nat) (v : Value) (l : List Note), OwnL encNote 29 W base 43 v l → l.length ≤ 1000000 →
 Calls Tryz.prog 154 #[v, .func (.func 155) #[] #[]] W fun e W' => e = .returned (.tuple #[]) ∧ ∃ l' : List Note, l'.Perm l ∧ Up (fun a b => ltNote a.abs b.abs) l' ∧ OwnL encNote 29 W' base 43 v l' ∧ W.grownBy W' v.ownBlock
theorem jst_mem (l : List Note) : ∀ k, ∀ r ∈ (jst l k).2, ∃ x ∈ l, r = refN x
 | 0 => by simp [jst]
 | k + 1 => by
  have ih := jst_mem l k
  cases hx : l[k]? with
  | none =>
   have : jst l (k + 1) = jst l k := by simp only [jst]; rw [List.take_add_one, hx]; simp
   rw [this]; exact ih
  | some x =>
   rw [jst_succ hx]; unfold judgeA
   split
   ·simp only []
    split
    ·exact ih
    ·intro r hr
     rcases List.mem_append.1 hr with hr | hr
     ·exact ih r hr
     ·simp only [List.mem_singleton] at hr
      exact ⟨x, List.mem_of_getElem? hx, hr⟩
   ·exact ih
theorem counts_name {js : List (Ref × NoteA)} {n m : NoteA} (h : countsA js n = some m) : m.name = n.name := by
 unfold countsA at h
 split at h
 ·cases h
 ·split at h
  ·cases h; rfl
  ·split at h
   ·cases h
   ·cases h; rfl
theorem filterMap_names (js : List (Ref × NoteA)) : ∀ l : List NoteA, ((l.filterMap (countsA js)).map NoteA.name).Sublist (l.map NoteA.name)
 | [] => by simp
 | n :: l => by
  have ih := filterMap_names js l
  simp only [List.filterMap_cons, List.map_cons]
  cases h : countsA js n with
  | none => exact ih.cons _
  | some m => simp only [List.map_cons]; rw [counts_name h]; exact ih.cons_cons _
theorem nodup_inj {α β : Type} {f : α → β} : ∀ {l : List α}, (l.map f).Nodup → ∀ a ∈ l, ∀ b ∈ l, f a = f b → a = b
 | [], _, _, h, _, _, _ => by simp at h
 | x :: l, hn, a, ha, b, hb, he => by
  simp only [List.map_cons, List.nodup_cons, List.mem_map, not_exists, not_and] at hn
  rcases List.mem_cons.1 ha with h1 | h1 <;> rcases List.mem_cons.1 hb with h2 | h2
  ·rw [h1, h2]
  ·exact absurd (h1 ▸ he).symm (hn.1 b h2)
  ·exact absurd (h2 ▸ he) (hn.1 a h1)
  ·exact nodup_inj hn.2 a h1 b h2 he
theorem eff_unique {l : List Note} (hn : (l.map refN).Nodup) {l' outs : List Note} (ho : outs.map Note.abs = countN l l.length) (hp : l'.Perm outs) (hu : Up (fun a b => ltNote a.abs b.abs) l') : l'.map Note.abs = effA (l.map Note.abs) := by
 have h1 : (l'.map Note.abs).Perm (countN l l.length) := by rw [← ho]; exact hp.map _
 have h2 : countN l l.length = (l.map Note.abs).filterMap (countsA (judgesA (l.map Note.abs)).1) := by simp [countN]
 have hnd : ((countN l l.length).map NoteA.name).Nodup := by
  rw [h2]
  refine List.Nodup.sublist (filterMap_names _ _) ?_
  rw [List.map_map]; exact hn
 refine up_eq (lt := ltNote) (fun a ha b hb hab hba => ?_) (h1.trans (by rw [h2]; exact (sortBy_perm _ _).symm)) ?_ (sortBy_up ltNote_tr ltNote_as _)
 ·refine nodup_inj hnd a (h1.mem_iff.1 ha) b (h1.mem_iff.1 hb) ?_
  simp only [ltNote, decide_eq_false_iff_not, whenI_lt] at hab hba
  simp only [NoteA.name, Ref.mk.injEq]; omega
 ·unfold Up at hu ⊢
  rw [List.pairwise_map]; exact hu
theorem buildNote (r : Note) : Array.foldl (fun cs (x : Value × Nat) => cs.setIfInBounds x.snd x.fst) (encNote zNote) (encNote r).zipIdx 0 29 = encNote r := by
 simp [encNote, zNote, zItem]
theorem encNote_ref (x : Note) : ∀ j, j < (encRef x.ref).size → (encNote x)[12 + j]? = (encRef x.ref)[j]? := by
 intro j hj
 rcases j with _|_|j <;> first | rfl | (rw [encRef_size] at hj; omega)
end Go.Proofs.YtnmgfnpphglphaaGreat
