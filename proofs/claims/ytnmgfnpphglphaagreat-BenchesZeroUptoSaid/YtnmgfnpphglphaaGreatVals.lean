/-
  slices.Values, AppendSeq, Collect, SortedFunc at names: what a range over a function value does.
  slices.Values' iterator, AppendSeq, Collect, SortedFunc at names.
  What the walk of told leans on.
-/
import Derived.Test.YtnmgfnpphglphaaGreatSortedKeys
import Derived.Test.YtnmgfnpphglphaaGreatReg
import Derived.Test.YtnmgfnpphglphaaGreatOrd
import Derived.Shelf.SlIter.Collect
import Derived.RangeFuncBox
set_option maxHeartbeats 16000000
set_option maxRecDepth 100000
section
set_option linter.unusedVariables false
set_option linter.unusedSimpArgs false
namespace Go.Proofs.YtnmgfnpphglphaaGreat
open Go.RowKit
section laws
variable {F : Fence} {n : Nat} {P : Program} {ops : Array Oper} {rest : List Oper} {o : Oper} {a : Act} {w : World} {Q : Exit → Act → World → Prop}
theorem wpListIn_load_at (hgd : o.guard = none) (ty : TypeId) (x : Operand) (ho : o.op = .load ty x)
  (b off : Nat) (hx : a.eval x = .pointer (some ⟨b, off, none⟩)) (cs : Array Value) (d : TypeDesc) (hc : ∀ j, j < cs.size → w.cell? ⟨b, off + j, none⟩ = cs[j]?)
  (hu : P.underlying ty = some d) (hd : (match d with | .struct _ | .array _ _ => true | _ => false) = true) (hi : (P.info? ty).map (·.size) = some cs.size)
  (h : wpListIn F n P ops Q rest (a.put o.dst (.agg cs)) w) : wpListIn F n P ops Q (o :: rest) a w := by
 refine wpListIn_plain hgd fun K hK => ?_
 unfold Oper.wpIn
 refine ⟨?_, ?_⟩
 ·simp [Oper.about, ho]
 ·rw [Oper.semAt_eq _ _ _ (by rw [ho]; intro c hc'; cases hc')]
  unfold execOp
  simp only [ho, hx, Instr.loadAt, Instr.sureAddr, Sem.run_bind, Sem.run_pure, Result.andThen_ok, run_loadVar_at w b off ty cs d hc hu hd hi]
  exact hK _ _ h
theorem wpListIn_store_box {b off : Nat} {T : TypeId} {cs : Array Value} (hb : BoxAt w b T cs)
  (hgd : o.guard = none) (ty : TypeId) (x y : Operand) (ho : o.op = .store ty x y) (hx : a.eval x = .pointer (some ⟨b, off, none⟩)) (v : Value) (hy : a.eval y = v)
  (hi : (P.info? ty).map (·.size) = some v.cells.size) (hfit : Nat.ble (off + v.cells.size) cs.size = true) (h1 : v.cells.all (·.oneCell') = true)
  (h : ∀ w', BoxAt w' b T (splice cs off v.cells.toList) → Turn b w w' → wpListIn F n P ops Q rest (a.put o.dst undef) w') : wpListIn F n P ops Q (o :: rest) a w := by
 refine wpListIn_plain hgd fun K' hK' => ?_
 have hfit' := Nat.le_of_ble_eq_true hfit
 have hst := run_storeCells_cells (P := P) b off v.cells.toList 0 w (fun j hj => by
   rw [Nat.add_zero, hb.cell, Array.getElem?_eq_getElem (by simp at hj; omega)]; rfl)
  (fun j _ => hb.frozen _) (fun u hu => (Array.all_eq_true_iff_forall_mem.1 h1) u (by simpa using hu))
 obtain ⟨h2, h3⟩ := setCells_box v.cells.toList off cs w hb
 unfold Oper.wpIn
 refine ⟨by simp [Oper.about, ho], ?_⟩
 rw [Oper.semAt_eq _ _ _ (by rw [ho]; intro c hc'; cases hc')]
 unfold execOp
 cases hq : P.info? ty with
 | none => simp [hq] at hi
 | some i =>
  have hs : i.size = v.cells.size := by simpa [hq] using hi
  simp only [Nat.add_zero] at hst
  simp [ho, hx, hy, Instr.storeAt, Instr.sureAddr, storeVar, Sem.run_bind, sizeOf, typeInfo, hq, hs, hst]
  exact hK' _ _ (h _ h2 h3)
theorem wpListIn_append_oneAt {α : Type} {enc : α → Array Value} {sz : Nat} (hgd : o.guard = none) (s x : Operand) (t : TypeId)
  (ho : o.op = .call { callee := .builtin .append, args := #[s, x], argTypes := #[t, t] })
  (base : Nat) {e : TypeId} {bytes : Nat} (hE : EInfo P t e sz bytes) (hsz : ∀ x, (enc x).size = sz) (h0 : 0 < sz) (hone : ∀ x, (enc x).all (·.oneCell') = true) (hby : bytes ≤ 10000)
  (v : Value) (l : List α) (hs : a.eval s = v) (hown : OwnL enc sz w base e v l)
  (b off c : Nat) (y : α) (hx : a.eval x = .slice (some ⟨b, off, none⟩) 1 c) (hy : ∀ j, j < sz → w.cell? ⟨b, off + j, none⟩ = (enc y)[j]?)
  (hlen : l.length + 1 ≤ 4294967296) (hbase : base ≤ w.heap.size)
  (h : ∀ v' w', OwnL enc sz w' base e v' (l ++ [y]) → w.grownBy w' v.ownBlock → (v'.ownBlock = v.ownBlock ∨ v'.ownBlock = some w.heap.size) → wpListIn F n P ops Q rest (a.put o.dst v') w') : wpListIn F n P ops Q (o :: rest) a w := by
 obtain ⟨ht, i, z, hi, hz, hs1, hb1, hzs⟩ := hE.out
 refine wpListIn_plain hgd fun K' hK' => ?_
 obtain ⟨v', w', hr, h2, h3, h4, h5⟩ := run_append_own_at (P := P) w base t o.type e i z sz bytes ht hi hz hs1 hb1 hzs h0 v l.length (flat enc l) hown ⟨b, off, none⟩ 1 c (flat enc [y]) (flat_length hsz [y]) (by
  intro j u hj
  rw [flat_one] at hj
  have hjl : j < sz := by have := (List.getElem?_eq_some_iff.1 hj).1; simpa [hsz] using this
  have hadd : (⟨b, off, none⟩ : Addr).add j = ⟨b, off + j, none⟩ := by unfold Addr.add; split <;> simp_all
  rw [hadd, hy j hjl, ← hj]; simp) (flat_one_cell hone [y]) (by unfold maxLen; omega) (by
  calc (l.length + 1) * bytes ≤ 4294967296 * 10000 := Nat.mul_le_mul hlen hby
   _ ≤ 140737488355328 := by decide) hbase
 unfold Oper.wpIn
 refine ⟨by simp [Oper.about, ho, resolve, Target.leads, Sem.run_pure], ?_⟩
 rw [Oper.semAt_plain F _ _ (by rw [ho]; intro c hc'; cases hc')]
 simp [execOp, ho, resolve, invoke, builtin, hs, hx, hr, Result.andThen]
 refine hK' _ _ (h v' w' ?_ h3 h5)
 unfold OwnL
 rw [flat_append, List.length_append]
 exact h2
end laws
theorem Turn.putObj {w : World} {l : Nat} {o : Obj} : Turn l w (w.putObj l o) := ⟨rfl, rfl, rfl, by simp, fun k hk => World.putObj_heap_other hk⟩
theorem OwnL.ne {α : Type} {enc : α → Array Value} {sz base j : Nat} {w : World} {e : TypeId} {v : Value} {l : List α} {o : Obj} (h : OwnL enc sz w base e v l) (hj : w.heap[j]? = some o) (hno : ∀ cur, o ≠ .cells cur e (0, 0)) : v.ownBlock ≠ some j := by
 intro hg
 rcases h.2 with ⟨rfl, _⟩ | ⟨g, cap, cur, rfl, _, h4, _⟩
 ·simp [Value.ownBlock] at hg
 ·simp [Value.ownBlock] at hg; subst hg; rw [hj] at h4; cases h4; exact hno _ rfl
theorem values_any (v : Value) (a : Option Addr) (n c : Nat) (w : World) : Calls Tryz.prog 168 #[.slice a n c] w fun e w' =>
  e = .returned (.func (.func 197) #[] #[.pointer (some ⟨w.heap.size, 0, none⟩)]) ∧ w' = w.alloc (.cells #[.slice a n c] 98) := by
 go_enter Tryz.func168, Tryz.ntmps168
 go_wp2
 go_ret
 exact ⟨rfl, rfl⟩
def refAssign : Code := (Code.region 2 #[{ dst := some 5, op := Op.alloc 34, type := 0, pos := "iter.go:51", after := #[], guard := none }, { dst := none, op := Op.store 34 (Operand.tmp 5) (Operand.tmp 7), type := 0, pos := "iter.go:51", after := #[{ on := 0, ground := Ground.data }, { on := 0, ground := Ground.phase }], guard := none }] false)
def refBody : Code := (Code.block 1 (Code.region 3 #[{ dst := some 8, op := Op.load 98 (Operand.tmp 2), type := 98, pos := "iter.go:52", after := #[], guard := none }, { dst := some 9, op := Op.load 34 (Operand.tmp 5), type := 34, pos := "iter.go:52", after := #[], guard := none }, { dst := some 10, op := Op.buildSlice 98 1 #[(0, Operand.tmp 9)], type := 98, pos := "iter.go:52", after := #[{ on := 1, ground := Ground.data }], guard := none }, { dst := some 11, op := Op.call { callee := Callee.builtin Builtin.append, args := #[Operand.tmp 8, Operand.tmp 10], argTypes := #[98, 98] }, type := 98, pos := "iter.go:52", after := #[{ on := 0, ground := Ground.data }, { on := 2, ground := Ground.data }], guard := none }, { dst := none, op := Op.store 98 (Operand.tmp 2) (Operand.tmp 11), type := 0, pos := "iter.go:52", after := #[{ on := 3, ground := Ground.data }, { on := 3, ground := Ground.chain }, { on := 0, ground := Ground.phase }, { on := 1, ground := Ground.phase }, { on := 2, ground := Ground.phase }, { on := 3, ground := Ground.phase }], guard := none }] false))
def refRec (fn : FuncId) (sv : Value) (Bs D : Nat) (st : LoopState) (pend : Option Code) : Loop :=
 { state := st, pending := pend, fn, tmps := #[.slice none 0 0, sv, .pointer (some ⟨Bs, 0, none⟩), undef, .slice none 0 0, undef, sv, undef, undef, undef, undef, undef, undef], params := #[7], assign := refAssign, body := refBody, defers := D }
structure RefAt (w0 : World) (fn : FuncId) (sv : Value) (Bs l D : Nat) (xs : List Ref) (W : World) : Prop where
 box : ∃ v, BoxAt W Bs 98 #[v] ∧ OwnL encRef 2 W w0.heap.size 34 v xs
 L : W.heap[l]? = some (.loop (refRec fn sv Bs D .ready none))
 K : W.heap[D]? = some (.deferred (some []))
 below : Below w0.heap.size w0 W
theorem RefAt.alloc {w0 : World} {fn : FuncId} {sv : Value} {Bs l D : Nat} {xs : List Ref} {W : World} (h : RefAt w0 fn sv Bs l D xs W) {W' : World} (hb : Below W.heap.size W W') : RefAt w0 fn sv Bs l D xs W' := by
 obtain ⟨v, h1, h2⟩ := h.box
 exact ⟨⟨v, h1.belowAll hb, h2.belowAll hb⟩, (hb.block _ (Array.getElem?_eq_some_iff.1 h.L).1).trans h.L, (hb.block _ (Array.getElem?_eq_some_iff.1 h.K).1).trans h.K, h.below.trans (hb.mono h.below.size)⟩
theorem refYield (m : Nat) (w0 : World) (fn : FuncId) (sv : Value) (Bs l D : Nat) (hBl : Bs ≠ l) (hDl : D ≠ l) (hDB : D ≠ Bs) (h0B : w0.heap.size ≤ Bs) (h0l : w0.heap.size ≤ l)
  (xs : List Ref) (x : Ref) (W : World) (h : RefAt w0 fn sv Bs l D xs W) (hlen : xs.length ≤ 1000000) :
  YieldAt Fence.wide m Tryz.prog l #[vRef x] W fun e W' => e = .returned (.bool true) ∧ RefAt w0 fn sv Bs l D (xs ++ [x]) W' ∧ ∀ (r : Nat) b s c d, W.heap[r]? = some (Obj.mapIter b s c d) → W'.heap[r]? = some (Obj.mapIter b s c d) := by
 obtain ⟨v, hv, hrow⟩ := h.box
 refine ⟨fn, #[.slice none 0 0, sv, .pointer (some ⟨Bs, 0, none⟩), undef, .slice none 0 0, undef, sv, vRef x, undef, undef, undef, undef, undef], refAssign, refBody, by simpa [refRec] using run_yield (P := Tryz.prog) (args := #[vRef x]) h.L rfl, roundIn_of_wpIn trivial ?_⟩
 have hl : l < W.heap.size := (Array.getElem?_eq_some_iff.1 h.L).1
 have hlb : Bs < W.heap.size := hv.lt
 have hlD : D < W.heap.size := (Array.getElem?_eq_some_iff.1 h.K).1
 have hb0 := h.below
 have hs0 := hb0.size
 have HL := Lib.hid h.L
 have HK := Lib.hid h.K
 have HR := Lib.hid hrow
 clear hrow h
 unfold refAssign
 gi_wp2_with (first
  | (refine wpListIn_store_box (BoxAt.newN (n := W.heap.size) _ _ _ rfl) rfl 34 _ _ rfl rfl (vRef x) rfl (by kernel_rfl) rfl (one_agg (encRef_one _)) ?_
     intro w5 hb5 hT5
     have hB5 : Below W.heap.size W w5 := ((Below.refl _ _).alloc (Nat.le_refl _) _).trans (hT5.below (Nat.le_refl _))
     have hbx5 := hb5.eqv (cs' := encRef x) (by simp [splice, encRef, Value.cells, vRef])
     have hL5 := (hB5.block l hl).trans HL.out
     have hbr := run_beginRound (P := Tryz.prog) hL5 rfl
     obtain ⟨w6, hw6⟩ : ∃ w6, w5.putObj l (.loop { refRec fn sv Bs D .ready none with state := .busy }) = w6 := ⟨_, rfl⟩
     rw [hw6] at hbr
     have hT6 : Turn l w5 w6 := by rw [← hw6]; exact Turn.putObj
     have hL6 : w6.heap[l]? = some (.loop { refRec fn sv Bs D .ready none with state := .busy }) := by rw [← hw6]; exact World.putObj_heap_same (Nat.lt_of_lt_of_le hl hB5.size)
     have hbx6 : BoxAt w6 W.heap.size 34 (encRef x) := hbx5.turn hT6 (by omega)
     have hv6 : BoxAt w6 Bs 98 #[v] := (hv.belowAll hB5).turn hT6 hBl
     have hK6 : w6.heap[D]? = some (.deferred (some [])) := (hT6.block D hDl).trans ((hB5.block D hlD).trans HK.out)
     have hrow6 : OwnL encRef 2 w6 w0.heap.size 34 v xs := (HR.out.belowAll hB5).turn hT6 ((HR.out.belowAll hB5).ne hL5 (fun cur e => by cases e))
     have hb6 : Below w0.heap.size w0 w6 := (hb0.trans (hB5.mono hs0)).trans (hT6.below h0l)
     have hs6 : w0.heap.size ≤ w6.heap.size := hb6.size
     have HR6 := Lib.hid hrow6
     have hc6 : w6.cell? ⟨Bs, 0, none⟩ = some v := (hv6.cell 0).trans rfl
     clear hb5 hT5 hw6 hrow6 hbx5)
  | gi_round_op_a)
 unfold refBody
 gi_wp2_with (first
  | (refine wpListIn_load_at rfl 34 _ rfl W.heap.size 0 rfl (encRef x) _ hbx6.cells Tryz.underlying34 rfl (by kernel_rfl) ?_)
  | (gi_at_builtin; refine wpListIn_append_oneAt rfl _ _ 98 rfl w0.heap.size einfo_Ref (fun _ => rfl) (by decide) encRef_one (by decide) v xs rfl (HR6.out.belowAll ((Below.refl _ _).alloc (Nat.le_refl _) _)) w6.heap.size 0 1 x rfl (cells_of_eq (buildRef x)) (by omega) (by simp; omega) ?_
     intro v3 w3 ho3 hg3 hat3
     obtain ⟨a3, n3, c3, rfl⟩ := ho3.slice
     have hv3 : BoxAt w3 Bs 98 #[v] := hv6.of_block (app_keep hg3 hv6.lt (HR6.out.ne hv6 (fun cur e => by cases e)))
     go_frame)
  | (refine wpListIn_store_box hv3 rfl 98 _ _ rfl rfl (.slice a3 n3 c3) rfl (by kernel_rfl) rfl (one_sl _ _ _) ?_
     intro w4 hb4 hT4)
  | gi_round_op_a)
 have hL3 := (app_keep hg3 (Array.getElem?_eq_some_iff.1 hL6).1 (HR6.out.ne hL6 (fun cur e => by cases e))).trans hL6
 have hK3 := (app_keep hg3 (Array.getElem?_eq_some_iff.1 hK6).1 (HR6.out.ne hK6 (fun cur e => by cases e))).trans hK6
 have hL4 := (hT4.block l (Ne.symm hBl)).trans hL3
 have hK4 := (hT4.block D hDB).trans hK3
 have hrow4 := ho3.turn hT4 (ho3.ne hv3 (fun cur e => by cases e))
 have hb3 := app_below HR6.out hg3 (Nat.le_refl _) hs6
 have hbf : Below w0.heap.size w0 w4 := (hb6.trans hb3).trans (hT4.below h0B)
 have hl4 := (Array.getElem?_eq_some_iff.1 hL4).1
 have hT7 : Turn l w4 _ := Turn.putObj (o := .loop { { refRec fn sv Bs D .ready none with state := .busy } with state := if (none : Option Code).isNone then .ready else .done, pending := none })
 have hkeep : ∀ (r : Nat) b s c d, W.heap[r]? = some (Obj.mapIter b s c d) → w4.heap[r]? = some (Obj.mapIter b s c d) ∧ r ≠ l := fun r b s c d hr => by
  have n1 : r ≠ l := fun e => by rw [e, HL.out] at hr; cases hr
  have hr6 := (hT6.block r n1).trans ((hB5.block r (Array.getElem?_eq_some_iff.1 hr).1).trans hr)
  have n2 : r ≠ Bs := fun e => by
   have hh : w6.heap[Bs]? = some (.cells #[v] 98 (0, 0)) := hv6
   rw [e, hh] at hr6; cases hr6
  exact ⟨(hT4.block r n2).trans ((app_keep hg3 (Array.getElem?_eq_some_iff.1 hr6).1 (HR6.out.ne hr6 (fun cur e => by cases e))).trans hr6), n1⟩
 refine ⟨_, _, run_endRound none hL4, rfl, ⟨⟨_, (hb4.eqv (cs' := #[.slice a3 n3 c3]) (by simp [splice, Value.cells])).turn hT7 hBl, hrow4.turn hT7 (hrow4.ne hL4 (fun cur e => by cases e))⟩, World.putObj_heap_same hl4, (hT7.block D hDl).trans hK4, hbf.trans (hT7.below h0l)⟩, fun r b s c d hr => (hT7.block r (hkeep r b s c d hr).2).trans (hkeep r b s c d hr).1⟩
end Go.Proofs.YtnmgfnpphglphaaGreat
end
section
set_option linter.unusedVariables false
set_option linter.unusedSimpArgs false
namespace Go.Proofs.YtnmgfnpphglphaaGreat
open Go.RowKit
theorem vals1_in (n : Nat) (hn : 1 ≤ n) (l Bm : Nat) (s : Sl Ref) (w0 W : World) (D : Nat → Prop) (hs : s.OK 2 encRef okRef D w0) (hm : w0.cell? ⟨Bm, 0, none⟩ = some s.v) (hBm : Bm < w0.heap.size) (J : List Ref → World → Prop)
  (hJB : ∀ xs W, J xs W → Below w0.heap.size w0 W) (hJA : ∀ xs W W', J xs W → Below W.heap.size W W' → J xs W')
  (hY : ∀ pre x W1, J pre W1 → pre.length < s.val.length → YieldAt Fence.wide (n - 1) Tryz.prog l #[vRef x] W1 fun e W' => e = .returned (.bool true) ∧ J (pre ++ [x]) W' ∧ ∀ (r : Nat) b s c d, W1.heap[r]? = some (Obj.mapIter b s c d) → W'.heap[r]? = some (Obj.mapIter b s c d)) (h0 : J [] W) :
  CallsIn Fence.wide n Tryz.prog 197 #[.func (.yield l) #[] #[], .pointer (some ⟨Bm, 0, none⟩)] W fun e W' => (∃ v, e = .returned v) ∧ J s.val W' := by
 have hroom := hs.room
 have hcm : W.cell? ⟨Bm, 0, none⟩ = some (.slice s.a s.val.length s.cap) := ((hJB _ _ h0).cell (p := ⟨Bm, 0, none⟩) hBm).trans hm
 have HS := Lib.hid hs
 have HY := Lib.hid hY
 have HJB := Lib.hid hJB
 have HJA := Lib.hid hJA
 clear hs hm hY hJB hJA
 obtain ⟨a, cap, val⟩ := s
 simp only at hroom hcm
 refine callsIn_of_wp Tryz.func197 rfl trivial ?_ rfl
 simp only [Tryz.ntmps197, List.size_toArray, List.length_cons, List.length_nil, Nat.reduceAdd, Nat.reduceSub, Array.replicate_succ, Array.replicate_zero, List.push_toArray, List.append_toArray, List.nil_append, List.cons_append]
 gi_wp2
 gi_loopw [4, 7] (fun _ i wr => ∃ k : Nat, k ≤ val.length ∧ i = .int .i64 k ∧ J (val.take k) wr) (fun _ i _ => val.length - (Go.RowKit.intOf i).toNat)
 case atStart => exact ⟨0, Nat.zero_le _, rfl, by simpa using h0⟩
 case round =>
  obtain ⟨k, hk, rfl, hJ⟩ := hrel
  by_cases hlt : k < val.length
  ·obtain ⟨x, hx⟩ : ∃ x, val[k]? = some x := ⟨_, List.getElem?_eq_getElem hlt⟩
   obtain ⟨bb, o, rfl, hb, hnd, hok, hcell⟩ := HS.out.at hx
   have HC : Hid (∀ j, j < (encRef x).size → wr.cell? ⟨bb, o + k * 2 + j, none⟩ = (encRef x)[j]?) := Lib.hid fun j hj => by
    rw [(HJB.out _ _ hJ).cell (p := ⟨bb, o + k * 2 + j, none⟩) hb]; exact hcell j hj
   have hi1 : (k : Int) < (val.length : Int) := by omega
   have HX := Lib.hid hx
   have HJ := Lib.hid hJ
   clear hx hok hcell hnd hb hJ
   gi_wp2_with (first
    | (refine wpListIn_store_box (BoxAt.newN (n := wr.heap.size) _ _ _ rfl) rfl 34 _ _ rfl rfl (.agg (encRef x)) rfl (by kernel_rfl) rfl (one_agg (encRef_one _)) ?_
       intro w5 hb5 hT5
       have hB5 : Below wr.heap.size wr w5 := ((Below.refl _ _).alloc (Nat.le_refl _) _).trans (hT5.below (Nat.le_refl _))
       have hbx5 := hb5.eqv (cs' := encRef x) (by simp [splice, encRef, Value.cells])
       obtain ⟨fn, tmps, assign, body, hy, hR⟩ := HY.out _ x w5 (HJA.out _ _ _ HJ.out hB5) (by simp; omega)
       simp only [vRef] at hy
       clear hb5 hT5)
    | (refine wpListIn_load_at rfl 34 _ rfl bb (o + k * 2) rfl (encRef x) _ HC.out Tryz.underlying34 rfl (by kernel_rfl) ?_)
    | (refine wpListIn_load_at rfl 34 _ rfl wr.heap.size 0 rfl (encRef x) _ hbx5.cells Tryz.underlying34 rfl (by kernel_rfl) ?_)
    | gi_in)
   refine hR.mono ?_
   rintro e W3 ⟨rfl, hJ3, _⟩
   gi_wp2
   go_roundw
   case rel => exact ⟨k + 1, by omega, by go_num, by rw [take_snoc HX.out]; exact hJ3⟩
   case measure => simp [Go.RowKit.intOf]; omega
  ·have hk' : k = val.length := by omega
   gi_wp2
   go_end0
   exact ⟨⟨_, rfl⟩, by rw [hk', List.take_length] at hJ; exact hJ⟩
theorem appendSeqRef (n : Nat) (hn : 2 ≤ n) (Bm : Nat) (s : Sl Ref) (w : World) (Dd : Nat → Prop) (hs : s.OK 2 encRef okRef Dd w) (hm : w.cell? ⟨Bm, 0, none⟩ = some s.v) (hBm : Bm < w.heap.size) (hlen : s.val.length ≤ 1000000) :
  CallsIn Fence.wide n Tryz.prog 198 #[.slice none 0 0, .func (.func 197) #[] #[.pointer (some ⟨Bm, 0, none⟩)]] w fun e w' => ∃ v, e = .returned v ∧ OwnL encRef 2 w' w.heap.size 34 v s.val ∧ Below w.heap.size w w' := by
 have h1 : 1 ≤ n := by omega
 have eg : ∀ args w, (callFunc 197 args).run Tryz.prog w = .ok (.enter 197 args) w := enters_of Tryz.func197 (by kernel_rfl) rfl
 refine callsIn_of_wp_marks Tryz.func198 rfl trivial ?_ rfl
 simp only [Tryz.ntmps198, List.size_toArray, List.length_cons, List.length_nil, Nat.reduceAdd, Nat.reduceSub, Array.replicate_succ, Array.replicate_zero, List.push_toArray, List.append_toArray, List.nil_append, List.cons_append]
 gi_wp2
 refine wpIn_rangeFunc ?_
 intro fn hfn
 obtain ⟨W0, hW0⟩ : ∃ W0, w.alloc (.cells #[.slice none 0 0] 98) = W0 := ⟨_, rfl⟩
 have hs0 : W0.heap.size = w.heap.size + 1 := by rw [← hW0]; simp
 have hv0 : BoxAt W0 w.heap.size 98 #[.slice none 0 0] := by rw [← hW0]; exact BoxAt.new _ _ _
 have hb0 : Below w.heap.size w W0 := by rw [← hW0]; exact (Below.refl _ w).alloc (Nat.le_refl _) _
 rw [hW0]
 obtain ⟨W1, hW1⟩ : ∃ W1, (W0.alloc (.deferred (some []))).alloc (.loop (refRec fn (.func (.func 197) #[] #[.pointer (some ⟨Bm, 0, none⟩)]) w.heap.size W0.heap.size .ready none)) = W1 := ⟨_, rfl⟩
 have hB01 : Below W0.heap.size W0 W1 := by rw [← hW1]; exact ((Below.refl _ _).alloc (Nat.le_refl _) _).alloc (by simp) _
 have hb1 : Below w.heap.size w W1 := hb0.trans (hB01.mono hb0.size)
 have hs1 : W1.heap.size = W0.heap.size + 2 := by rw [← hW1]; simp
 have hM : RefAt w fn (.func (.func 197) #[] #[.pointer (some ⟨Bm, 0, none⟩)]) w.heap.size (W0.heap.size + 1) W0.heap.size [] W1 :=
  ⟨⟨_, hv0.belowAll hB01, OwnL.nil _ _ _ _ _⟩,
   by rw [← hW1]; have := World.alloc_heap_new (W0.alloc (.deferred (some []))) (.loop (refRec fn (.func (.func 197) #[] #[.pointer (some ⟨Bm, 0, none⟩)]) w.heap.size W0.heap.size .ready none)); rwa [World.size_alloc] at this,
   by rw [← hW1]; exact (Below.heap_alloc _ _ _ (by simp)).trans (World.alloc_heap_new W0 _), hb1⟩
 refine ⟨W0.heap.size + 1, [{ target := .collected W0.heap.size, args := #[] }], W1, { target := .fn (.func 197) #[.pointer (some ⟨Bm, 0, none⟩)], args := #[.func (.yield (W0.heap.size + 1)) #[] #[]] }, W1, 197,
  #[.func (.yield (W0.heap.size + 1)) #[] #[]] ++ #[.pointer (some ⟨Bm, 0, none⟩)], W1, ?_, ?_, ?_, ?_, fun _ => h1, ?_⟩
 ·rw [← hW1]; exact run_enterLoop_outer _ _ _ _ _
 ·simp [resolve, go_sem]
 ·intro f' hf'; trivial
 ·simp [invoke, go_sem, eg]
 ·refine (vals1_in (n - 1) (by omega) (W0.heap.size + 1) Bm s w W1 Dd hs hm hBm (RefAt w fn (.func (.func 197) #[] #[.pointer (some ⟨Bm, 0, none⟩)]) w.heap.size (W0.heap.size + 1) W0.heap.size) (fun xs W h => h.below) (fun xs W W' h hb => h.alloc hb)
   (fun pre x W hJ hl => refYield (n - 1 - 1) w fn _ w.heap.size (W0.heap.size + 1) W0.heap.size (by omega) (by omega) (by omega) (Nat.le_refl _) (by omega) pre x W hJ (by omega)) hM).mono ?_
  rintro e W2 ⟨⟨v0, rfl⟩, h2⟩
  obtain ⟨v, hv, hrow⟩ := h2.box
  have hend := run_endLoop (P := Tryz.prog) h2.L (by simp [refRec])
  obtain ⟨W3, hW3⟩ : ∃ W3, W2.putObj (W0.heap.size + 1) (.loop { refRec fn (.func (.func 197) #[] #[.pointer (some ⟨Bm, 0, none⟩)]) w.heap.size W0.heap.size .ready none with state := .exhausted }) = W3 := ⟨_, rfl⟩
  rw [hW3] at hend
  have hT3 : Turn (W0.heap.size + 1) W2 W3 := by rw [← hW3]; exact Turn.putObj
  have hv3 : BoxAt W3 w.heap.size 98 #[v] := hv.turn hT3 (by omega)
  have hK3 : W3.heap[W0.heap.size]? = some (.deferred (some [])) := (hT3.block _ (by omega)).trans h2.K
  have hrow3 := hrow.turn hT3 (hrow.ne h2.L (fun cur e => by cases e))
  have hb3 : Below w.heap.size w W3 := h2.below.trans (hT3.below (by omega))
  have hc3 : W3.cell? ⟨w.heap.size, 0, none⟩ = some v := (hv3.cell 0).trans rfl
  clear hW3
  refine ⟨none, W3, hend, ?_⟩
  gi_wp2
  rw [← hs0]
  have hT4 : Turn W0.heap.size W3 _ := Turn.putObj (o := .deferred none)
  refine ⟨by simp, .inl ⟨_, _, rfl, run_takeDeferred hK3, ?_⟩⟩
  exact ⟨_, results_tmp rfl _ _ _, v, rfl, hrow3.turn hT4 (hrow3.ne hK3 (fun cur e => by cases e)), hb3.trans (hT4.below (by omega))⟩
theorem collectRef (Bm : Nat) (s : Sl Ref) (w : World) (Dd : Nat → Prop) (hs : s.OK 2 encRef okRef Dd w) (hm : w.cell? ⟨Bm, 0, none⟩ = some s.v) (hBm : Bm < w.heap.size) (hlen : s.val.length ≤ 1000000) :
  Calls Tryz.prog 169 #[.func (.func 197) #[] #[.pointer (some ⟨Bm, 0, none⟩)]] w fun e w' => ∃ v, e = .returned v ∧ OwnL encRef 2 w' w.heap.size 34 v s.val ∧ Below w.heap.size w w' := by
 have hA : Calls Tryz.prog 198 #[.slice none 0 0, .func (.func 197) #[] #[.pointer (some ⟨Bm, 0, none⟩)]] w fun e w' => ∃ v, e = .returned v ∧ OwnL encRef 2 w' w.heap.size 34 v s.val ∧ Below w.heap.size w w' := (callsIn_wide (n := 5)).1 (appendSeqRef 5 (by omega) Bm s w Dd hs hm hBm hlen)
 have HA := Lib.hid hA
 clear hA hs hm hBm hlen
 go_enter Tryz.func169, Tryz.ntmps169
 go_wp2_with (go_at_call 198; refine HA.out.mono ?_; rintro e w1 ⟨v, rfl, ho, hb⟩)
 go_ret
 exact ⟨_, rfl, ho, hb⟩
theorem sortedRefs (Bm : Nat) (s : Sl Ref) (w : World) (Dd : Nat → Prop) (hs : s.OK 2 encRef okRef Dd w) (hm : w.cell? ⟨Bm, 0, none⟩ = some s.v) (hBm : Bm < w.heap.size) (hlen : s.val.length ≤ 1000000) :
  Calls Tryz.prog 115 #[.func (.func 197) #[] #[.pointer (some ⟨Bm, 0, none⟩)], .func (.func 117) #[] #[]] w fun e w' => ∃ v, e = .returned v ∧ OwnL encRef 2 w' w.heap.size 34 v (sortBy ltRef s.val) ∧ Below w.heap.size w w' := by
 have HA := Lib.hid (collectRef Bm s w Dd hs hm hBm hlen)
 clear hs hm hBm
 go_enter Tryz.func115, Tryz.ntmps115
 go_wp2_with (first
  | (go_at_call 169; refine HA.out.mono ?_; rintro e w1 ⟨v, rfl, ho, hb⟩; have HO := Lib.hid ho; have HB := Lib.hid hb; clear ho hb)
  | (go_at_call 170; refine (ref_sort _ _ _ _ HO.out (by omega)).mono ?_; rintro e w2 ⟨rfl, ho2, hg2⟩))
 go_ret
 exact ⟨_, rfl, ho2, HB.out.trans (Below.appended HO.out hg2 (Nat.le_refl _) HB.out.size)⟩
end Go.Proofs.YtnmgfnpphglphaaGreat
end
section
set_option linter.unusedVariables false
set_option linter.unusedSimpArgs false
namespace Go.Proofs.YtnmgfnpphglphaaGreat
open Go.RowKit
structure ToldS (c : Nat) (w : World) (cs : Array Value) (W : World) : Prop where
 below : Below c w W
 le : c + 2 ≤ W.heap.size
 box : BoxAt W (c + 1) 100 cs
theorem ToldS.under {c : Nat} {w W W' : World} {cs : Array Value} (h : ToldS c w cs W) (hb : Below W.heap.size W W') : ToldS c w cs W' := ⟨h.below.trans (hb.mono (by have := h.le; omega)), Nat.le_trans h.le hb.size, h.box.belowAll hb⟩
theorem ToldS.alloc {c : Nat} {w W : World} {cs : Array Value} (h : ToldS c w cs W) (o : Obj) : ToldS c w cs (W.alloc o) := h.under ((Below.refl _ _).alloc (Nat.le_refl _) _)
theorem ToldS.drew {c : Nat} {w W : World} {cs : Array Value} (h : ToldS c w cs W) : ToldS c w cs W.drew := h.under ((Below.refl _ _).drew)
theorem ToldS.grown {c : Nat} {w W W' : World} {cs : Array Value} {r : Option Nat} (h : ToldS c w cs W) (hg : W.grownBy W' r) (hr : ∀ g, r = some g → c + 2 ≤ g) : ToldS c w cs W' := by
 have hle := h.le
 refine ⟨h.below.trans ⟨hg.os, hg.tape, hg.output, hg.size, fun k hk => hg.block k (by omega) (fun e => by have := hr k e.symm; omega)⟩, Nat.le_trans h.le hg.size, h.box.of_block (hg.block _ (by omega) (fun e => by have := hr _ e.symm; omega))⟩
theorem RegSt.toldS {c : Nat} {w W : World} {v0 v1 v2 v3 v4 : Value} {lp : List Piece} {lw : List Where} {lh : List Held} {li : List Item} {lr : List Relead} (h : RegSt c W v0 v1 v2 v3 v4 lp lw lh li lr) (hb : Below c w W) : ToldS c w #[v0, v1, v2, v3, v4, .slice none 0 0] W := ⟨hb, h.lt, h.box⟩
theorem Sl.OK.one {α : Type} {enc : α → Array Value} {sz : Nat} {ok : (Nat → Prop) → World → α → Prop} {D : Nat → Prop} {W : World} {cs : Array Value} {T : TypeId} (x : α) (hsz : (enc x).size = sz) (hcs : cs = enc x) (hD : ¬ D W.heap.size) (hx : ok D (W.alloc (.cells cs T)) x) :
  Sl.OK sz enc ok D (W.alloc (.cells cs T)) ⟨some ⟨W.heap.size, 0, none⟩, 1, [x]⟩ := by
 subst hcs
 refine ⟨by simp, by simp, by simp, fun p hp _ => ?_, fun y hy => ?_, fun b o ha i y hi j hj => ?_⟩
 ·simp at hp; subst hp; exact ⟨rfl, hD, by simp⟩
 ·rw [List.mem_singleton.1 hy]; exact hx
 ·simp at ha; obtain ⟨rfl, rfl⟩ := ha
  rcases i with _ | i
  ·simp at hi; subst hi
   simp
  ·simp at hi
theorem KeysAt.at {c i n cap : Nat} {w : World} {vs : List Value} {a : Option Addr} {ks : List Int} {x : Int} (h : KeysAt c w vs (.slice a n cap) ks) (hi : ks[i]? = some x) : ∃ g, a = some ⟨g, 0, none⟩ ∧ w.cell? ⟨g, i, none⟩ = some (vi x) := by
 rcases h.own.2 with ⟨h0, h1⟩ | ⟨g, cp, cur, h0, h3, h4, h5, h6, h7, h8⟩
 ·have : ks = [] := List.eq_nil_of_length_eq_zero h1
  subst this; simp at hi
 ·simp only [Value.slice.injEq] at h0
  refine ⟨g, h0.1, ?_⟩
  have hl : i < ks.length := (List.getElem?_eq_some_iff.1 hi).1
  have hf := flat_at (enc := encInt) (sz := 1) (fun _ => rfl) ks i x hi 0 (by decide)
  rw [← h8] at hf
  simp only [Nat.mul_one, Nat.add_zero] at hf
  rw [List.getElem?_take_of_lt hl] at hf
  simp [World.cell?, h4]
  simpa [encInt] using hf
theorem OwnL.shape {α : Type} {enc : α → Array Value} {sz base : Nat} {w : World} {e : TypeId} {v : Value} {l : List α} (h : OwnL enc sz w base e v l) : ∃ a c, v = .slice a l.length c := by
 rcases h.2 with ⟨rfl, h0⟩ | ⟨g, cap, cur, rfl, _⟩
 ·exact ⟨none, 0, by rw [h0]⟩
 ·exact ⟨_, _, rfl⟩
theorem buildWhere (x : Where) : Array.foldl (fun cs (x : Value × Nat) => cs.setIfInBounds x.snd x.fst) #[Value.int .i64 0, Value.int .i64 0, Value.int .i64 0, Value.int .i64 0, .bool false, Value.int .i64 0, Value.int .i64 0] (encWhere x).zipIdx 0 7 = encWhere x := by
 simp [encWhere]
theorem buildHeld (x : Held) : Array.foldl (fun cs (x : Value × Nat) => cs.setIfInBounds x.snd x.fst) #[Value.int .i64 0, Value.int .i64 0, Value.int .i64 0, Value.int .i64 0, .bool false] (encHeld x).zipIdx 0 5 = encHeld x := by
 simp [encHeld]
theorem buildItem (x : Item) : Array.foldl (fun cs (x : Value × Nat) => cs.setIfInBounds x.snd x.fst) #[Value.int .i64 0, Value.int .i64 0, Value.int .i64 0, Value.int .i64 0, Value.int .i64 0, Value.int .i64 0, Value.int .i64 0, Value.slice none 0 0, Value.slice none 0 0, Value.int .i64 0, Value.int .i64 0, Value.slice none 0 0] (encItem x).zipIdx 0 12 = encItem x := by
 simp [encItem]
theorem buildRelead (x : Relead) : Array.foldl (fun cs (x : Value × Nat) => cs.setIfInBounds x.snd x.fst) #[Value.int .i64 0, Value.slice none 0 0] (encRelead x).zipIdx 0 2 = encRelead x := by
 simp [encRelead]
theorem buildPiece (x : Piece) : Array.foldl (fun cs (x : Value × Nat) => cs.setIfInBounds x.snd x.fst) #[Value.int .i64 0, Value.int .i64 0, Value.int .i64 0, Value.int .i64 0, Value.int .i64 0, Value.slice none 0 0, Value.slice none 0 0] (encPiece x).zipIdx 0 7 = encPiece x := by
 simp [encPiece]
end Go.Proofs.YtnmgfnpphglphaaGreat
end
