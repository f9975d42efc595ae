/-
  A statement whose order Go leaves open, of operations that yield one value in every world above the one at hand (loads, sums, calls) and of new boxes, and then a tail: one walk, no order named.
  Slices that are put together anew: an empty literal, the head of a slice, one element, the tail.
-/
import Derived.Test.YtcebcklecmppnaaGreatOrdA
import Derived.Test.YtcebcklecmppnaaGreatWebK
import Derived.Test.YtcebcklecmppnaaGreatWebGj
set_option linter.unusedVariables false
set_option linter.unusedSimpArgs false
set_option maxHeartbeats 16000000
set_option maxRecDepth 100000
section
namespace Go.Proofs.YtcebcklecmppnaaGreat
open Go.RowKit
section
variable {P : Program} {ops : Array Oper} {Q : Exit → Act → World → Prop}
def DetRun (P : Program) (ops : Array Oper) (w0 : World) (o : Oper) (v : Value) (a : Act) : Prop :=
 (Region.wanted o (yielded ops a.tmps) = true ∧ ∀ W,Below w0.heap.size w0 W → (execOp a.eval o).run P W = .ok (.value v) W ∨ ∃ f args,(execOp a.eval o).run P W = .ok (.enter f args) W ∧ Calls P f args W fun e w' => e = .returned v ∧ Below W.heap.size W w') ∨
 (Region.wanted o (yielded ops a.tmps) = false ∧ v = undef)
theorem DetRun.wpOp {w0 : World} {i : Nat} {o : Oper} {v : Value} {a : Act} (hi : ops[i]? = some o) (hy : DetRun P ops w0 o v a) {K : Act → World → Prop} {w : World} (hb : Below w0.heap.size w0 w) (h : ∀ w',Below w.heap.size w w' → K (a.put o.dst v) w') : wpOp P ops Q i K a w := by
 unfold Go.wpOp
 simp only [hi]
 rcases hy with ⟨hw,hv⟩ | ⟨hw,rfl⟩
 ·simp only [hw,if_true]
  refine .inl ?_
  unfold Oper.wp
  rcases hv w hb with e | ⟨f,args,e,hc⟩
  ·rw [e];exact h w (Below.refl _ _)
  ·rw [e]
   refine Calls.mono hc fun e w' he => ?_
   obtain ⟨rfl,hb'⟩ := he
   exact h w' hb'
 ·simp only [hw,Bool.false_eq_true,if_false];exact h w (Below.refl _ _)
def wpD (P : Program) (ops : Array Oper) (w0 : World) : List Nat → Act → (Act → Prop) → Prop
 | [],a,T => T a
 | i :: r,a,T => ∃ o v,ops[i]? = some o ∧ DetRun P ops w0 o v a ∧ wpD P ops w0 r (a.put o.dst v) T
theorem wpD_mono {w0 : World} {T T' : Act → Prop} (h : ∀ a,T a → T' a) : ∀ (ord : List Nat) (a : Act),wpD P ops w0 ord a T → wpD P ops w0 ord a T'
 | [],a,k => h a k
 | _ :: r,_,⟨o,v,h1,h2,h3⟩ => ⟨o,v,h1,h2,wpD_mono h r _ h3⟩
def ed (ops : Array Oper) (j i : Nat) : Bool := match ops[j]? with
 | some o => o.after.any fun e => Region.binds .any e && e.on == i
 | none => false
def ap (ops : Array Oper) (i j : Nat) : Bool := match ops[i]?,ops[j]? with
 | some x,some y => x.apart ops y
 | _,_ => false
def waits (ops : Array Oper) : Nat → Nat → Nat → Bool
 | 0,_,_ => false
 | n + 1,t,m => match ops[t]? with
  | some o => o.after.any fun e => Region.binds .any e && (e.on == m || waits ops n e.on m)
  | none => false
def ClosedL (ops : Array Oper) (listed : Array Bool) : Prop := ∀ (j : Nat) (o : Oper),ops[j]? = some o → listed.getD j false = true → ∀ e ∈ o.after,Region.binds .any e = true → listed.getD e.on false = true
def edgesIn (ops : Array Oper) (i : Nat) : Bool := match ops[i]? with
 | some o => o.after.all fun e => !Region.binds .any e || decide (e.on < ops.size)
 | none => false
structure StD (ops : Array Oper) (ord : List Nat) (is : List (Nat × Nat)) (rest : List (Nat × Bool)) : Prop where
 nd : (ord ++ is.map (·.1) ++ rest.map (·.1)).Nodup
 lt : ∀ j ∈ ord ++ is.map (·.1) ++ rest.map (·.1),j < ops.size
 pw : ord.Pairwise fun i k => ed ops k i = true ∨ ap ops i k = true
 fw : ord.Pairwise fun i k => ed ops i k = false
 self : ∀ i ∈ ord,ed ops i i = false
 da : ∀ i ∈ ord,∀ k ∈ is,ed ops i k.1 = false ∧ (ed ops k.1 i = true ∨ ap ops i k.1 = true)
 dst : ∀ k ∈ is,∃ o,ops[k.1]? = some o ∧ o.dst = some k.2
 aa : ∀ k ∈ is,∀ k' ∈ is,ed ops k.1 k'.1 = false
 nd2 : (is.map (·.2)).Nodup
 tl : ∀ i ∈ ord ++ is.map (·.1),edgesIn ops i = true ∧ ∀ t ∈ rest,ed ops i t.1 = false ∧ waits ops ops.size t.1 i = true
theorem StD.sub {ord ord' : List Nat} {is is' : List (Nat × Nat)} {rest : List (Nat × Bool)} (h : StD ops ord is rest) (h1 : ord'.Sublist ord) (h2 : is'.Sublist is) : StD ops ord' is' rest := by
 have h3 : (ord' ++ is'.map (·.1)).Sublist (ord ++ is.map (·.1)) := h1.append (h2.map _)
 have h4 := h3.append (List.Sublist.refl (rest.map (·.1)))
 exact ⟨h4.nodup h.nd,fun j hj => h.lt j (h4.subset hj),h.pw.sublist h1,h.fw.sublist h1,fun i hi => h.self i (h1.subset hi),fun i hi k hk => h.da i (h1.subset hi) k (h2.subset hk),fun k hk => h.dst k (h2.subset hk),
  fun k hk k' hk' => h.aa k (h2.subset hk) k' (h2.subset hk'),(h2.map _).nodup h.nd2,fun i hi => h.tl i (h3.subset hi)⟩
theorem ed_true {i j : Nat} {o : Oper} (ho : ops[i]? = some o) {e : Edge} (he : e ∈ o.after) (hb : Region.binds .any e = true) (hj : e.on = j) : ed ops i j = true := by
 unfold ed;rw [ho]
 exact Array.any_eq_true'.2 ⟨e,he,by simp [hb,hj]⟩
theorem getD_tf {l : Array Bool} {j : Nat} (hj : j < l.size) : l.getD j true = l.getD j false := by simp [hj]
def LeftL (ops : Array Oper) (left : List Nat) (listed : Array Bool) : Prop := listed.size = ops.size ∧ ∀ j,j < ops.size → (listed.getD j true = false ↔ j ∈ left)
theorem LeftL.set {left : List Nat} {listed : Array Bool} (h : LeftL ops left listed) (hn : left.Nodup) {i : Nat} : LeftL ops (left.erase i) (listed.setIfInBounds i true) := by
 refine ⟨by simpa using h.1,fun j hj => ?_⟩
 by_cases hij : i = j
 ·subst hij
  simp only [Array.getD_eq_getD_getElem?,h.1,hj,Array.getElem?_setIfInBounds_self_of_lt,Option.getD_some,Bool.true_eq_false,false_iff]
  exact hn.not_mem_erase
 ·rw [getD_set_ne true hij,h.2 j hj,List.mem_erase_of_ne (Ne.symm hij)]
theorem LeftL.ready {left : List Nat} {listed : Array Bool} (h : LeftL ops left listed) {i : Nat} (hi : i ∈ left) (hlt : i < ops.size) (hin : edgesIn ops i = true) (hno : ∀ j ∈ left,ed ops i j = false) : i ∈ Region.ready .any ops listed := by
 refine mem_ready.2 ⟨(h.2 i hlt).2 hi, ?_⟩
 unfold edgesIn at hin
 cases ho : ops[i]? with
 | none => rw [ho] at hin;cases hin
 | some o =>
  rw [ho] at hin
  refine ⟨o,rfl,fun e he hb => ?_⟩
  have := Array.all_eq_true_iff_forall_mem.1 hin e he
  simp only [hb,Bool.not_true,Bool.false_or,decide_eq_true_eq] at this
  cases hl : listed.getD e.on false with
  | true => rfl
  | false =>
   rw [← getD_tf (by rw [h.1];exact this)] at hl
   have h1 := hno e.on ((h.2 e.on this).1 hl)
   rw [ed_true ho he hb rfl] at h1;cases h1
theorem ClosedL.set {listed : Array Bool} (hc : ClosedL ops listed) {i : Nat} (hr : i ∈ Region.ready .any ops listed) : ClosedL ops (listed.setIfInBounds i true) := fun j o ho hl e he hb => by
 obtain ⟨_,oi,hoi,hall⟩ := mem_ready.1 hr
 by_cases hij : i = j
 ·subst hij
  rw [hoi] at ho;cases ho
  exact getD_set_true (hall e he hb)
 ·rw [getD_set_ne false hij] at hl
  exact getD_set_true (hc j o ho hl e he hb)
theorem wpD_fix {w0 : World} {T : Act → Prop} {i : Nat} {rest : List Nat} {a : Act} {dst : Option Tmp} {op : Op} {ty : TypeId} {pos : String} {after : Array Edge} {g : Option (Nat × Bool)} {v : Value} (hi : ops[i]? = some ⟨dst,op,ty,pos,after,g⟩)
  (hw : Region.wanted ⟨dst,op,ty,pos,after,g⟩ (yielded ops a.tmps) = true) (hrun : ∀ W,Below w0.heap.size w0 W → (execOp a.eval ⟨dst,op,ty,pos,after,g⟩).run P W = .ok (.value v) W) (h : wpD P ops w0 rest (a.put dst v) T) : wpD P ops w0 (i :: rest) a T :=
 ⟨_,v,hi, .inl ⟨hw,fun W hW => .inl (hrun W hW)⟩,h⟩
theorem wD {w0 : World} {T : Act → Prop} {i : Nat} {rest : List Nat} {a : Act} {dst : Option Tmp} {op : Op} {ty : TypeId} {pos : String} {after : Array Edge} {g : Option (Nat × Bool)} {v : Value} (hi : ops[i]? = some ⟨dst,op,ty,pos,after,g⟩) (hw : Region.wanted ⟨dst,op,ty,pos,after,g⟩ (yielded ops a.tmps) = true) (h : wpD P ops w0 rest (a.put dst v) T) (hrun : ∀ W,Below w0.heap.size w0 W → (execOp a.eval ⟨dst,op,ty,pos,after,g⟩).run P W = .ok (.value v) W := by intro W hW;go_simp;with_reducible rfl) : wpD P ops w0 (i :: rest) a T :=
 wpD_fix hi hw hrun h
theorem wpD_call {w0 : World} {T : Act → Prop} {i : Nat} {rest : List Nat} {a : Act} {dst : Option Tmp} {op : Op} {ty : TypeId} {pos : String} {after : Array Edge} {g : Option (Nat × Bool)} (f : FuncId) (args : Array Value) (v : Value) (hi : ops[i]? = some ⟨dst,op,ty,pos,after,g⟩)
  (hw : Region.wanted ⟨dst,op,ty,pos,after,g⟩ (yielded ops a.tmps) = true) (hrun : ∀ W : World,(execOp a.eval ⟨dst,op,ty,pos,after,g⟩).run P W = .ok (.enter f args) W)
  (hc : ∀ W,Below w0.heap.size w0 W → Calls P f args W fun e w' => e = .returned v ∧ Below W.heap.size W w') (h : wpD P ops w0 rest (a.put dst v) T) : wpD P ops w0 (i :: rest) a T :=
 ⟨_,v,hi, .inl ⟨hw,fun W hW => .inr ⟨f,args,hrun W,hc W hW⟩⟩,h⟩
def ifB (c : Bool) (v : Value) : Value := if c then v else undef
@[go_sem] theorem zBo (v : Value) : ifB true v = v := rfl
@[go_sem] theorem ifB_false (v : Value) : ifB false v = undef := rfl
@[go_sem] theorem bool_and {p : Prop} [Decidable p] {c : Bool} : (if p then Value.bool c else Value.bool false) = .bool (decide p && c) := by by_cases h : p <;> simp [h]
@[go_sem] theorem bool_or {p : Prop} [Decidable p] {c : Bool} : (if p then Value.bool true else Value.bool c) = .bool (decide p || c) := by by_cases h : p <;> simp [h]
@[go_sem] theorem ifB_dec {p : Prop} [Decidable p] {u v : Value} : (if p then ifB (decide p) v else u) = if p then v else u := by by_cases h : p <;> simp [h,ifB]
@[go_sem] theorem ifB_decn {p : Prop} [Decidable p] {u v : Value} : (if p then u else ifB (!decide p) v) = if p then u else v := by by_cases h : p <;> simp [h,ifB]
@[go_sem] theorem ifB_t {b : Bool} {u v : Value} : (if b = true then ifB b v else u) = if b = true then v else u := by cases b <;> rfl
@[go_sem] theorem ifB_n {b : Bool} {u v : Value} : (if b = true then u else ifB (!b) v) = if b = true then u else v := by cases b <;> rfl
@[go_sem] theorem ifB_f {b : Bool} {u v : Value} : (if b = false then u else ifB b v) = if b = false then u else v := by cases b <;> rfl
@[go_sem] theorem ifB_fn {b : Bool} {u v : Value} : (if b = false then ifB (!b) v else u) = if b = false then v else u := by cases b <;> rfl
@[go_sem] theorem ifB_beq {α : Type} [BEq α] [LawfulBEq α] {x y : α} [Decidable (x = y)] {u v : Value} : (if x = y then ifB (x == y) v else u) = if x = y then v else u := by by_cases h : x = y <;> simp [h,ifB]
@[go_sem] theorem ifB_beqn {α : Type} [BEq α] [LawfulBEq α] {x y : α} [Decidable (x = y)] {u v : Value} : (if x = y then u else ifB (!(x == y)) v) = if x = y then u else v := by
 by_cases h : x = y
 ·simp [h]
 ·have : (x == y) = false := by simpa using h
  simp [h,this,ifB]
theorem wanted_1 {a : Act} {dst : Option Tmp} {op : Op} {ty : TypeId} {pos : String} {after : Array Edge} {gi : Nat} {want q : Bool} (h : ((ops[gi]?).bind (·.dst)).bind (a.tmps[·]?) = some (.bool q)) : Region.wanted ⟨dst,op,ty,pos,after,some (gi,want)⟩ (yielded ops a.tmps) = (q == want) := by
 unfold Region.wanted yielded
 simp only [h]
 cases q <;> cases want <;> rfl
theorem wpD_ifG {w0 : World} {T : Act → Prop} {i : Nat} {rest : List Nat} {a : Act} {o : Oper} {c : Bool} {v : Value} (hi : ops[i]? = some o) (hw : Region.wanted o (yielded ops a.tmps) = c) (hrun : c = true → ∀ W,Below w0.heap.size w0 W → (execOp a.eval o).run P W = .ok (.value v) W) (h : wpD P ops w0 rest (a.put o.dst (ifB c v)) T) : wpD P ops w0 (i :: rest) a T := by
 refine ⟨_,_,hi, ?_,h⟩
 cases c
 ·exact .inr ⟨hw,rfl⟩
 ·exact .inl ⟨hw,fun W hW => .inl (hrun rfl W hW)⟩
section
variable {w0 : World} {T : Act → Prop} {i : Nat} {rest : List Nat} {a : Act} {dst : Option Tmp} {op : Op} {ty : TypeId} {pos : String} {after : Array Edge} {gi : Nat} {want q c : Bool} {v : Value}
theorem zBA (hi : ops[i]? = some ⟨dst,op,ty,pos,after,some (gi,want)⟩) (hy : ((ops[gi]?).bind (·.dst)).bind (a.tmps[·]?) = some (.bool q)) (hrun : (q == want) = true → ∀ W,Below w0.heap.size w0 W → (execOp a.eval ⟨dst,op,ty,pos,after,some (gi,want)⟩).run P W = .ok (.value v) W) (h : wpD P ops w0 rest (a.put dst (ifB (q == want) v)) T) : wpD P ops w0 (i :: rest) a T :=
 wpD_ifG hi (wanted_1 hy) hrun h
theorem wI (hi : ops[i]? = some ⟨dst,op,ty,pos,after,some (gi,want)⟩) (hy : ((ops[gi]?).bind (·.dst)).bind (a.tmps[·]?) = some (.bool q)) (h : wpD P ops w0 rest (a.put dst (ifB (q == want) v)) T) (hrun : (q == want) = true → ∀ W,Below w0.heap.size w0 W → (execOp a.eval ⟨dst,op,ty,pos,after,some (gi,want)⟩).run P W = .ok (.value v) W := by intro hg W hW;(try simp only [Bool.and_eq_true] at hg);(try simp only [hg,Bool.and_self,zBo]);go_simp;with_reducible rfl) : wpD P ops w0 (i :: rest) a T :=
 zBA hi hy hrun h
end
section
variable {w0 : World} {T : Act → Prop} {i : Nat} {rest : List Nat} {a : Act} {dst : Option Tmp} {ty : TypeId} {pos : String} {after : Array Edge} {gg : Nat × Bool} {b c g : Bool} {x y : Operand}
theorem zDe (hi : ops[i]? = some ⟨dst, .pick x y (.const (.bool false)),ty,pos,after,none⟩) (hx : a.eval x = .bool b) (hy : a.eval y = ifB (b == true) (.bool c)) (h : wpD P ops w0 rest (a.put dst (.bool (b && c))) T) : wpD P ops w0 (i :: rest) a T := by
 refine ⟨_,_,hi, .inl ⟨rfl,fun W hW => .inl ?_⟩,h⟩
 unfold execOp
 simp only [hx,hy]
 cases b <;> simp [go_sem,ifB,Act.eval,asBool]
end
def zDx (u : Nat → Value) : List Nat → Act → Act
 | [],a => a
 | n :: l,a => zDx u l (a.put (some n) (u n))
theorem zFy : ∀ (l : List Nat) (a : Act),zDx (fun n => (a.tmps[n]?).getD undef) l a = a
 | [],_ => rfl
 | n :: l,a => by
  have e : a.put (some n) ((a.tmps[n]?).getD undef) = a := by
   obtain ⟨t,d⟩ := a
   simp only [Act.put]
   congr 1
   apply Array.ext
   ·simp
   ·intro i h1 h2
    by_cases hn : n = i
    ·subst hn
     have : n < t.size := h2
     simp [this]
    ·exact Array.getElem_setIfInBounds_ne h2 hn
  show zDx _ l (a.put (some n) ((a.tmps[n]?).getD undef)) = a
  rw [e];exact zFy l a
def Det (F : FuncId) (args : Array Value) (v : Value) (w : World) : Prop := ∀ W,Below w.heap.size w W → Calls Tryz.prog F args W fun e w' => e = .returned v ∧ Below W.heap.size W w'
theorem Det.moved {F : FuncId} {args : Array Value} {v : Value} {w w' : World} (h : Det F args v w) (hb : Below w.heap.size w w') : Det F args v w' := fun W hW => h W (hb.trans (hW.mono hb.size))
end
end Go.Proofs.YtcebcklecmppnaaGreat
end
section
namespace Go.Proofs.YtcebcklecmppnaaGreat
open Go.RowKit
theorem Sl.OK.up {α : Type} {sz : Nat} {e : α → Array Value} {D : Nat → Prop} {w w' : World} {s : Sl α} (h : Sl.OK sz e (fun _ _ _ => True) D w s) (hb : Below w.heap.size w w') : Sl.OK sz e (fun _ _ _ => True) D w' s := h.ext (fun _ h => h) (.of_below hb)
section
variable {α : Type} {enc : α → Array Value} {sz : Nat} {P : Program} {w : World} {ops : Array Oper} {rest : List Oper} {o : Oper} {a : Act} {Q : Exit → Act → World → Prop}
end
section
variable {P : Program} {ops : Array Oper} {Q : Exit → Act → World → Prop}
theorem seq_sound {w0 : World} : ∀ (ord rest : List Nat) (a : Act) (w : World),Below w0.heap.size w0 w → wpD P ops w0 ord a (fun a' => ∀ W,Below w.heap.size w W → wpOps P ops Q rest a' W) → wpOps P ops Q (ord ++ rest) a w
 | [],rest,a,w,_,h => h w (Below.refl _ _)
 | i :: r,rest,a,w,hb,⟨o,v,h1,h2,h3⟩ => by
  rw [List.cons_append,wpOps_cons]
  refine h2.wpOp h1 hb fun w' hb' => ?_
  exact seq_sound r rest _ w' (hb.trans (hb'.mono hb.size)) (wpD_mono (fun a' h W hW => h W (hb'.trans (hW.mono hb'.size))) _ _ h3)
theorem wp_region_seq (ord rest : List Nat) {id : Nat} {a : Act} {w : World} (hr : (List.range ops.size == ord ++ rest) = true) (h : wpD P ops w ord a (fun a' => ∀ W,Below w.heap.size w W → wpOps P ops Q rest a' W)) : (Code.region id ops false).wp P Q a w := by
 refine wp_region ?_
 rw [eq_of_beq hr]
 exact seq_sound ord rest a w (Below.refl _ _) h
theorem rgQ (ord rest : List Nat) {id : Nat} {a : Act} {w : World} (h : wpD P ops w ord a (fun a' => ∀ W,Below w.heap.size w W → wpOps P ops Q rest a' W)) (hr : (List.range ops.size == ord ++ rest) = true := by kernel_rfl) : (Code.region id ops false).wp P Q a w :=
 wp_region_seq ord rest hr h
theorem wpO_act {i : Nat} {rest : List Nat} {a : Act} {w : World} {dst : Option Tmp} {op : Op} {ty : TypeId} {pos : String} {after : Array Edge} {g : Option (Nat × Bool)} (hi : ops[i]? = some ⟨dst,op,ty,pos,after,g⟩)
  (hw : Region.wanted ⟨dst,op,ty,pos,after,g⟩ (yielded ops a.tmps) = true) (h : Oper.wp P ⟨dst,op,ty,pos,after,g⟩ a w (wpOps P ops Q rest) Q) : wpOps P ops Q (i :: rest) a w := by
 rw [wpOps_cons];unfold wpOp;simp only [hi,hw,if_true];exact .inl h
theorem wpO_val {i : Nat} {rest : List Nat} {a : Act} {w : World} {dst : Option Tmp} {op : Op} {ty : TypeId} {pos : String} {after : Array Edge} {g : Option (Nat × Bool)} {v : Value} (hi : ops[i]? = some ⟨dst,op,ty,pos,after,g⟩)
  (hw : Region.wanted ⟨dst,op,ty,pos,after,g⟩ (yielded ops a.tmps) = true) (hrun : (execOp a.eval ⟨dst,op,ty,pos,after,g⟩).run P w = .ok (.value v) w) (h : wpOps P ops Q rest (a.put dst v) w) : wpOps P ops Q (i :: rest) a w :=
 wpO_act hi hw (by unfold Oper.wp;rw [hrun];exact h)
theorem wpO_box {i d : Nat} {rest : List Nat} {a : Act} {w : World} {T : TypeId} {cs : Array Value} {op : Op} {ty : TypeId} {pos : String} {after : Array Edge} (hi : ops[i]? = some ⟨some d,op,ty,pos,after,none⟩)
  (hrun : (execOp a.eval ⟨some d,op,ty,pos,after,none⟩).run P w = .ok (.value (zDg w.heap.size)) (w.alloc (.cells cs T))) (h : wpOps P ops Q rest (a.put (some d) (zDg w.heap.size)) (w.alloc (.cells cs T))) : wpOps P ops Q (i :: rest) a w :=
 wpO_act hi rfl (by unfold Oper.wp;rw [hrun];exact h)
theorem wpO_store {i : Nat} {rest : List Nat} {a : Act} {w : World} {ty ty0 : TypeId} {x y : Operand} {pos : String} {after : Array Edge} {b off : Nat} {T : TypeId} {cs : Array Value} (hb : zAe w b T cs) (hi : ops[i]? = some ⟨none, .store ty x y,ty0,pos,after,none⟩)
  (hx : a.eval x = .pointer (some ⟨b,off,none⟩)) (v : Value) (hy : a.eval y = v) (hf : (P.info? ty).map (·.size) = some v.cells.size) (hfit : Nat.ble (off + v.cells.size) cs.size = true) (h1 : v.cells.all (·.oneCell') = true)
  (h : ∀ w',zAe w' b T (zAJ cs off v.cells.toList) → Turn b w w' → wpOps P ops Q rest a w') : wpOps P ops Q (i :: rest) a w :=
 wpO_act hi rfl (zAu hb ty x y rfl hx v hy hf hfit h1 fun w' h2 h3 => h w' h2 h3)
theorem wpO_nil {a : Act} {w : World} (h : Q .normal a w) : wpOps P ops Q [] a w := h
theorem zDG (l : List Nat) {w : World} {rest : List Nat} {a : Act} (h : ∀ u : Nat → Value,wpOps P ops Q rest (zDx u l a) w) : wpOps P ops Q rest a w := by
 have := h fun n => (a.tmps[n]?).getD undef
 rwa [zFy] at this
end
end Go.Proofs.YtcebcklecmppnaaGreat
end
