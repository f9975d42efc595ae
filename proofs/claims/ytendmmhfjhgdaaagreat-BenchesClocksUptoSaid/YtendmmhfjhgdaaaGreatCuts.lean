/-
  The first and the last notes of a list, as slices; Fold of what is no set.
-/
import Derived.Test.YtendmmhfjhgdaaaGreatFolded
set_option linter.unusedVariables false
set_option linter.unusedSimpArgs false
namespace Go.Proofs.YtendmmhfjhgdaaaGreat
open Go.RowKit

def Sl.tk {α : Type} (s : Sl α) (k : Nat) : Sl α := ⟨s.a, s.cap, s.val.take k⟩
theorem tk_length {α : Type} (s : Sl α) (k : Nat) (h : k ≤ s.val.length) : (s.tk k).val.length = k := by simp only [Sl.tk, List.length_take]; omega
theorem Sl.OK.tk {α : Type} {sz : Nat} {e : α → Array Value} {ok : (Nat → Prop) → World → α → Prop} {D : Nat → Prop} {w : World} {s : Sl α} (h : s.OK sz e ok D w) (k : Nat) : (s.tk k).OK sz e ok D w := by
  have hl : (s.tk k).val.length ≤ s.val.length := by simp only [Sl.tk, List.length_take]; omega
  have h1 := h.le
  have h2 := h.room
  refine ⟨Nat.le_trans hl h1, Nat.le_trans hl h2, fun hn => ⟨by simp [Sl.tk, (h.isNil hn).1], (h.isNil hn).2⟩, fun p hp h0 => h.place p hp (by omega), fun x hx => h.elem x (List.mem_of_mem_take hx), fun b o ha i x hi j hj => ?_⟩
  refine h.cell b o ha i x ?_ j hj
  simp only [Sl.tk, List.getElem?_take] at hi
  split at hi
  · exact hi
  · cases hi
def Sl.dr {α : Type} (sz : Nat) (s : Sl α) (k : Nat) : Sl α := ⟨if s.cap = k then s.a else s.a.map (·.add (k * sz)), s.cap - k, s.val.drop k⟩
theorem dr_length {α : Type} (sz : Nat) (s : Sl α) (k : Nat) : (s.dr sz k).val.length = s.val.length - k := by simp [Sl.dr]
theorem Sl.OK.dr {α : Type} {sz : Nat} {e : α → Array Value} {ok : (Nat → Prop) → World → α → Prop} {D : Nat → Prop} {w : World} {s : Sl α} (hs : s.OK sz e ok D w) {k : Nat} (hk : k ≤ s.val.length) : (s.dr sz k).OK sz e ok D w := by
  have hle := hs.le
  have hlen := dr_length sz s k
  have hat : ∀ p, (s.dr sz k).a = some p → 0 < (s.dr sz k).val.length → ∃ b o, s.a = some ⟨b, o, none⟩ ∧ p = ⟨b, o + k * sz, none⟩ ∧ ¬ D b ∧ b < w.heap.size := by
    intro p hp hpos
    rw [hlen] at hpos
    have hne : ¬ s.cap = k := by omega
    simp only [Sl.dr, if_neg hne] at hp
    obtain ⟨q, hq, rfl⟩ := Option.map_eq_some_iff.1 hp
    obtain ⟨h1, h2, h3⟩ := hs.place q hq (by omega)
    obtain ⟨b, o, sp⟩ := q
    simp only at h1 h2 h3
    subst h1
    refine ⟨b, o, hq, ?_, h2, h3⟩
    unfold Addr.add
    split <;> simp_all
  refine ⟨?_, ?_, fun hn => ?_, fun p hp hpos => ?_, fun x hx => hs.elem x (List.mem_of_mem_drop hx), fun b o ha i x hi j hj => ?_⟩
  · rw [hlen]; simp only [Sl.dr]; omega
  · rw [hlen]; have := hs.room; omega
  · have ha : s.a = none := by
      simp only [Sl.dr] at hn
      split at hn
      · exact hn
      · simpa using hn
    obtain ⟨h1, h2⟩ := hs.isNil ha
    exact ⟨by simp [Sl.dr, h1], by simp [Sl.dr, h2]⟩
  · obtain ⟨b, o, _, rfl, h2, h3⟩ := hat p hp hpos
    exact ⟨rfl, h2, h3⟩
  · obtain ⟨b', o', hq, he, _, _⟩ := hat _ ha (pos_of hi)
    simp only [Addr.mk.injEq, and_true] at he
    obtain ⟨rfl, rfl⟩ := he
    have hi2 : s.val[k + i]? = some x := by
      simp only [Sl.dr] at hi
      rw [List.getElem?_drop] at hi
      exact hi
    have := hs.cell b o' hq (k + i) x hi2 j hj
    rw [show o' + k * sz + i * sz + j = o' + (k + i) * sz + j by rw [Nat.add_mul]; omega]
    exact this
section
theorem und_notes : Tryz.prog.underlying 22 = some (.slice (Tryz.prog.elem 22)) := by kernel_rfl
theorem add_zero_addr (a : Option Addr) (s : Nat) : a.map (·.add (0 * s)) = a := by
  cases a with
  | none => rfl
  | some p => simp [Addr.add]
theorem size_note (w : World) : (sizeOf (Tryz.prog.elem 22)).run Tryz.prog w = .ok 29 w := by
  have e : Tryz.prog.elem 22 = 40 := by kernel_rfl
  have i : (Tryz.prog.info? 40).map (·.size) = some 29 := by kernel_rfl
  rw [e]
  cases h : Tryz.prog.info? 40 with
  | none => rw [h] at i; cases i
  | some j =>
    rw [h] at i
    have i' : j.size = 29 := by simpa using i
    simp [sizeOf, typeInfo, h, i']
theorem run_tk (w : World) (s : Sl Note) (k : Nat) (hk : k ≤ s.val.length) (hc : s.val.length ≤ s.cap) : (Instr.sliceAt 22 (.slice s.a s.val.length s.cap) none (some (.int .i64 k)) none).run Tryz.prog w = .ok (.slice (s.tk k).a (s.tk k).val.length (s.tk k).cap) w := by
  rw [run_sliceAt_slice _ _ _ _ _ _ und_notes, run_slice_h _ _ _ _ _ und_notes .i64 (k : Int) (by omega) (by omega), size_note, tk_length s k hk]
  simp only [Result.andThen, sliced, Int.toNat_natCast, Nat.sub_zero, add_zero_addr, ite_self, Sl.tk]
theorem run_dr (w : World) (s : Sl Note) (k : Nat) (hk : k ≤ s.val.length) : (Instr.sliceAt 22 (.slice s.a s.val.length s.cap) (some (.int .i64 k)) none none).run Tryz.prog w = .ok (.slice (s.dr 29 k).a (s.dr 29 k).val.length (s.dr 29 k).cap) w := by
  rw [run_sliceAt_slice _ _ _ _ _ _ und_notes, run_slice_l _ _ _ _ _ und_notes .i64 (k : Int) (by omega) (by omega), size_note, dr_length]
  rfl
theorem wpList_slice {P : Program} {w : World} {ops : Array Oper} {rest : List Oper} {o : Oper} {a : Act} {Q : Exit → Act → World → Prop} (hgd : o.guard = none) (t : TypeId) (x : Operand) (lo hi mx : Option Operand) (ho : o.op = .slice t x lo hi mx) (v r : Value)
    (hx : a.eval x = v) (hr : (Instr.sliceAt t v (lo.map a.eval) (hi.map a.eval) (mx.map a.eval)).run P w = .ok r w) (h : wpList P ops Q rest (a.put o.dst r) w) : wpList P ops Q (o :: rest) a w :=
  wpList_plain hgd fun K hK => by
    unfold Oper.wp execOp
    simp only [ho, hx, Sem.run_bind, hr, Result.andThen_ok, Sem.run_pure]
    exact hK _ _ h
end
def zRegister : Register := ⟨Sl.nil, Sl.nil, Sl.nil, Sl.nil, Sl.nil, Sl.nil⟩
theorem okRegister_zero (D : Nat → Prop) (w : World) : okRegister D w zRegister := ⟨Sl.OK.nil _ _ _ _ _, Sl.OK.nil _ _ _ _ _, Sl.OK.nil _ _ _ _ _, Sl.OK.nil _ _ _ _ _, Sl.OK.nil _ _ _ _ _, Sl.OK.nil _ _ _ _ _⟩
set_option maxRecDepth 20000 in
set_option maxHeartbeats 1000000 in
theorem fold_bad (D : Nat → Prop) (s : Sl Note) (w : World) (hs : s.OK 29 encNote okNote D w) (hset : isSetB s.val = false) :
    Calls Tryz.prog 25 #[.slice s.a s.val.length s.cap] w fun e w' => e = .returned (.tuple #[.agg (encRegister zRegister), .int .i64 1]) ∧ Below w.heap.size w w' := by
  have hB1 : Below w.heap.size w (w.alloc (.cells #[.slice none 0 0, .slice none 0 0, .slice none 0 0, .slice none 0 0, .slice none 0 0, .slice none 0 0] 58)) := (Below.refl _ _).alloc (Nat.le_refl _) _
  have hbc : BoxAt (w.alloc (.cells #[.slice none 0 0, .slice none 0 0, .slice none 0 0, .slice none 0 0, .slice none 0 0, .slice none 0 0] 58)) w.heap.size 58 #[.slice none 0 0, .slice none 0 0, .slice none 0 0, .slice none 0 0, .slice none 0 0, .slice none 0 0] := BoxAt.new _ _ _
  have HIS := Lib.hid (isSet_any D s (w.alloc (.cells #[.slice none 0 0, .slice none 0 0, .slice none 0 0, .slice none 0 0, .slice none 0 0, .slice none 0 0] 58)) (hs.ext (fun _ hk => okNote.ext hk (.of_below hB1)) (.of_below hB1)))
  have HSET := Lib.hid hset
  clear hs hset
  go_enter Tryz.func25, Tryz.ntmps25
  go_wp2_with (first
    | (go_at_call 46; refine HIS.out.mono ?_; rintro e w2 ⟨rfl, hb2⟩; rw [HSET.out]; have hB2 : Below w.heap.size w w2 := Below.call hB1 hb2 (Nat.le_refl _); have hbc2 := hbc.belowAll hb2)
    | ((with_reducible refine at_storeT 58 ?_); refine wpList_store_box hbc2 rfl _ _ _ rfl rfl (.agg (encRegister zRegister)) rfl (by kernel_rfl) rfl (one_agg (encRegister_one _)) ?_; intro w4 hb4 hT4))
  refine bodyPost_ret (results_cell_tmp (cs := encRegister zRegister) (.int .i64 1) (hb4.eqv (by simp [splice, encRegister, Value.cells])) rfl rfl rfl Tryz.underlying58 rfl (by kernel_rfl)) rfl ⟨rfl, hB2.trans (hT4.below (Nat.le_refl _))⟩
end Go.Proofs.YtendmmhfjhgdaaaGreat
