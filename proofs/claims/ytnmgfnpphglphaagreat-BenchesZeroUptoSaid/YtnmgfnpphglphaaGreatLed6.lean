/-
  The ledger: newLedger; a conflict is laid; enter, given what the note's method does.
-/
import Derived.Test.YtnmgfnpphglphaaGreatLed5
import Derived.Test.YtnmgfnpphglphaaGreatEff0
import Derived.Test.YtnmgfnpphglphaaGreatAppR
set_option maxHeartbeats 16000000
set_option maxRecDepth 100000
set_option linter.unusedVariables false
set_option linter.unusedSimpArgs false
namespace Go.Proofs.YtnmgfnpphglphaaGreat
open Go.RowKit
theorem OwnL.slice {α : Type} {enc : α → Array Value} {sz base : Nat} {w : World} {e : TypeId} {v : Value} {l : List α} (h : OwnL enc sz w base e v l) : ∃ a n c, v = .slice a n c := by
 rcases h.2 with ⟨rfl, _⟩ | ⟨g, cap, cur, rfl, _⟩
 ·exact ⟨_, _, _, rfl⟩
 ·exact ⟨_, _, _, rfl⟩
theorem one_sl (a : Option Addr) (n c : Nat) : (Value.slice a n c).cells.all (·.oneCell') = true := by simp [Value.cells, Value.oneCell']
structure Led0At (b : Nat) (w : World) : Prop where
 box : BoxAt w (b + 6) 190 #[.map (some b), .map (some (b + 1)), .map (some (b + 2)), .map (some (b + 3)), .slice none 0 0, .slice none 0 0, .map (some (b + 4)), .map (some (b + 5))]
 pieces : MapAt vi vPiece I64 w b []
 wher : MapAt vi vWhere I64 w (b + 1) []
 glass : MapAt vi vi I64 w (b + 2) []
 items : MapAt vi vItem I64 w (b + 3) []
 trays : MapAt vRef vInts gRef w (b + 4) []
 to_ : MapAt vRef vi gRef w (b + 5) []
theorem Led0At.below {b : Nat} {w w' : World} (h : Led0At b w) (hb : Below w.heap.size w w') : Led0At b w' :=
 ⟨h.box.belowAll hb, h.pieces.below hb h.pieces.lt, h.wher.below hb h.wher.lt, h.glass.below hb h.glass.lt, h.items.below hb h.items.lt, h.trays.below hb h.trays.lt, h.to_.below hb h.to_.lt⟩
def ledC : Led := ⟨[], [], [], [], [], [], [], []⟩
theorem ledC_abs : ledC.abs = led0 := rfl
theorem Led0At.led {b N : Nat} {w : World} (h : Led0At b w) (h1 : b + 7 ≤ N) (h2 : N ≤ w.heap.size) : LedAt b N w ledC :=
 ⟨h1, h2, ⟨.slice none 0 0, .slice none 0 0, h.box, OwnL.nil _ _ _ _ _, OwnL.nil _ _ _ _ _, by simp [Value.ownBlock]⟩, h.pieces, h.wher, h.glass, h.items, h.trays, h.to_,
  by simp [ledC], by simp [ledC], by simp [ledC], by simp [ledC], by simp [ledC], by simp [ledC], by simp [ledC], by simp [ledC]⟩
theorem newLedger_any (w : World) :
  Calls Tryz.prog 111 #[] w fun e w' => e = .returned (.pointer (some ⟨w.heap.size + 6, 0, none⟩)) ∧ Led0At w.heap.size w' ∧ Below w.heap.size w w' ∧ w'.heap.size = w.heap.size + 7 := by
 have hmm := @run_makeMap Tryz.prog
 go_enter Tryz.func111, Tryz.ntmps111
 go_wp2
 go_ret
 have hm : ∀ {κ ν : Type} [DecidableEq κ] (K : κ → Value) (V : ν → Value) (good : κ → Prop) (W : World) (k : Nat), k = W.heap.size → MapAt K V good (W.alloc (.map #[] 0)) k [] := by
  intro κ ν _ K V good W k hk; subst hk; exact MapAt.made K V good W
 refine ⟨by simp, ⟨?_, ?_, ?_, ?_, ?_, ?_, ?_⟩, ?_, by simp⟩
 ·exact (BoxAt.newN _ _ _ (by simp)).eqv (by simp [Value.cells])
 ·exact ((((((hm _ _ _ _ _ (by simp)).alloc _).alloc _).alloc _).alloc _).alloc _).alloc _
 ·exact (((((hm _ _ _ _ _ (by simp)).alloc _).alloc _).alloc _).alloc _).alloc _
 ·exact ((((hm _ _ _ _ _ (by simp)).alloc _).alloc _).alloc _).alloc _
 ·exact (((hm _ _ _ _ _ (by simp)).alloc _).alloc _).alloc _
 ·exact ((hm _ _ _ _ _ (by simp)).alloc _).alloc _
 ·exact (hm _ _ _ _ _ (by simp)).alloc _
 ·exact (((((((Below.refl _ w).alloc (Nat.le_refl _) _).alloc (by simp) _).alloc (by simp; omega) _).alloc (by simp; omega) _).alloc (by simp; omega) _).alloc (by simp; omega) _).alloc (by simp; omega) _
theorem LedAt.conf {b N : Nat} {w w1 w2 : World} {L : Led} {vr vc vc' : Value} (h : LedAt b N w L) (hb : BoxAt w (b + 6) 190 #[.map (some b), .map (some (b + 1)), .map (some (b + 2)), .map (some (b + 3)), vr, vc, .map (some (b + 4)), .map (some (b + 5))]) (hor : OwnL encRelead 2 w N 243 vr L.releads) (hoc : OwnL encRef 2 w N 34 vc L.conflicts)
  (hne : ∀ g, vr.ownBlock = some g → vc.ownBlock ≠ some g) {l' : List Ref} (ho' : OwnL encRef 2 w1 N 34 vc' l') (hg : w.grownBy w1 vc.ownBlock) (hat : vc'.ownBlock = vc.ownBlock ∨ vc'.ownBlock = some w.heap.size) (hr : ∀ r ∈ l', gRef r)
  (hbx : BoxAt w2 (b + 6) 190 #[.map (some b), .map (some (b + 1)), .map (some (b + 2)), .map (some (b + 3)), vr, vc', .map (some (b + 4)), .map (some (b + 5))]) (hT : Turn (b + 6) w1 w2) : LedAt b N w2 { L with conflicts := l' } ∧ Chg b N w w2 := by
 have hlt := h.lt
 have hle := h.le
 have hown : ∀ k, k < N → vc.ownBlock ≠ some k := fun k hk e => by have := (hoc.block k e).1; omega
 have hk1 : ∀ k, k < N → w1.heap[k]? = w.heap[k]? := fun k hk => hg.block k (by omega) (Ne.symm (hown k hk))
 have hC1 : Chg b N w w1 := ⟨hg.os, hg.tape, hg.output, hg.size, fun k hk hn => hg.block k hk (fun e => hn (.inr (hoc.block k e.symm).1))⟩
 have hC2 : Chg b N w w2 := hC1.trans (Chg.of_turn hT (.inl (by omega)))
 have hkm : ∀ k, k < b + 6 → w2.heap[k]? = w.heap[k]? := fun k hk => (hT.block k (by omega)).trans (hk1 k (by omega))
 have hx := hC2.ext
 refine ⟨⟨h.lt, Nat.le_trans h.le hC2.size, ⟨vr, vc', hbx, (hor.kept fun g hg' => hg.block g (hor.block g hg').2 (Ne.symm (hne g hg'))).turn hT (own_ne hor (by omega)), ho'.turn hT (own_ne ho' (by omega)), fun g hg' e => ?_⟩,
  h.pieces.of_block (hkm _ (by omega)), h.wher.of_block (hkm _ (by omega)), h.glass.of_block (hkm _ (by omega)), h.items.of_block (hkm _ (by omega)), h.trays.of_block (hkm _ (by omega)), h.to_.of_block (hkm _ (by omega)),
  fun p hp => okPiece.ext (h.okP p hp) hx, fun p hp => h.okW p hp, h.okG, fun p hp => okItem.ext (h.okI p hp) hx, fun p hp => okRelead.ext (h.okR p hp) hx, fun p hp => hr p hp,
  fun p hp => okInts_ext (h.okT p hp) hx, h.okO⟩, hC2⟩
 rcases hat with h' | h'
 ·exact hne g hg' (h'.symm.trans e)
 ·rw [h'] at e; cases e; have := (hor.block _ hg').2; omega
def stepA (act : LedA → NoteA → LedA × Bool) (L : LedA) (n : NoteA) : LedA := if (act L n).2 = true then (act L n).1 else { (act L n).1 with conflicts := (act L n).1.conflicts ++ [n.name] }
theorem wpList_insert_map {κ ν : Type} [DecidableEq κ] {P : Program} {Km : κ → Value} {V : ν → Value} {good : κ → Prop} {w : World} {b : Nat} {m : List (κ × ν)} {kt et : TypeId} {ops : Array Oper} {rest : List Oper} {o : Oper} {a : Act} {Q : Exit → Act → World → Prop}
  (hgd : o.guard = none) (mm x v : Operand) (t : TypeId) (hop : o.op = Op.insert t mm x v) (KO : KeyOK P kt Km good) (ht : P.underlying t = some (.map kt et))
  (hm : a.eval mm = .map (some b)) (h : MapAt Km V good w b m) (k : κ) (hk : good k) (hx : a.eval x = Km k) (y : ν) (hv : a.eval v = V y)
  (hK : ∀ w', MapAt Km V good w' b (aput m k y) → Turn b w w' → wpList P ops Q rest (a.put o.dst undef) w') : wpList P ops Q (o :: rest) a w := by
 refine wpList_plain hgd fun K' hK' => ?_
 obtain ⟨w', hrun, r1, r2⟩ := h.store KO ht hk y
 unfold Oper.wp
 simp [execOp, hop, hm, hx, hv, hrun, Result.andThen]
 exact hK' _ _ (hK w' r1 r2)
theorem at_insert {P : Program} {ops : Array Oper} {rest : List Oper} {t : TypeId} {x y z : Operand} {ty : TypeId} {pos : String} {af : Array Edge} {g : Option (Nat × Bool)} {a : Act} {w : World} {Q : Exit → Act → World → Prop}
  (h : wpList P ops Q (⟨none, .insert t x y z, ty, pos, af, g⟩ :: rest) a w) : wpList P ops Q (⟨none, .insert t x y z, ty, pos, af, g⟩ :: rest) a w := h
def idV (v : Value) : Value := v
theorem zeroFn (w : World) : (zeroValue 110).run Tryz.prog w = .ok (idV .nilFunc) w := by kernel_rfl
def fnV (b : Nat) (f : FuncId) : Value := .func (.func f) #[.pointer (some ⟨b + 6, 0, none⟩)] #[]
def fnMap (b : Nat) : List (Int × Value) := (aput (aput (aput (aput (aput (aput (aput (aput ([] : List (Int × Value)) 1 (fnV b 156)) 2 (fnV b 157)) 3 (fnV b 158)) 4 (fnV b 159)) 5 (fnV b 160)) 6 (fnV b 161)) 7 (fnV b 162)) 8 (fnV b 163))
theorem at_calls (f : FuncId) {args : Array Value} {w : World} {Q : Ending → World → Prop} (h : Calls Tryz.prog f args w Q) : Calls Tryz.prog f args w Q := h
theorem enter_any {f : FuncId} {act : LedA → NoteA → LedA × Bool} {I : LedA → NoteA → Prop} (hd : Does f act I) (heg : ∀ args w, (callFunc f args).run Tryz.prog w = .ok (.enter f args) w) (b N : Nat) (L : Led) (n : Note) (w : World) (h : LedAt b N w L) (hn : okNote (LD b N) w n) (hI : I L.abs n.abs) (hk : (aget (fnMap b) n.kind).getD .nilFunc = fnV b f) (hlen : (act L.abs n.abs).1.conflicts.length ≤ 1000000) :
  Calls Tryz.prog 113 #[.pointer (some ⟨b + 6, 0, none⟩), .agg (encNote n)] w fun e w' => e = .returned (.tuple #[]) ∧ ∃ L', L'.abs = stepA act L.abs n.abs ∧ LedAt b N w' L' ∧ Chg b N w w' := by
 have hB2 : Below w.heap.size w ((w.alloc (.cells (encNote n) 43)).alloc (.map #[] 0)) := ((Below.refl _ _).alloc (Nat.le_refl _) _).alloc (by simp) _
 have hbx : BoxAt ((w.alloc (.cells (encNote n) 43)).alloc (.map #[] 0)) w.heap.size 43 (encNote n) := (BoxAt.new _ _ _).alloc _
 have hm : MapAt vi idV I64 ((w.alloc (.cells (encNote n) 43)).alloc (.map #[] 0)) (w.heap.size + 1) [] := by have h := MapAt.made vi idV I64 (w.alloc (.cells (encNote n) 43)); rw [World.size_alloc] at h; exact h
 have hT : Turn (w.heap.size + 1) ((w.alloc (.cells (encNote n) 43)).alloc (.map #[] 0)) ((w.alloc (.cells (encNote n) 43)).alloc (.map #[] 0)) := Turn.refl _ _
 have HL := Lib.hid h
 have HN := Lib.hid hn
 have HI := Lib.hid hI
 have HLEN := Lib.hid hlen
 have HNM := Lib.hid (okNote_name hn)
 have HK : Hid (I64 n.kind) := Lib.hid hn.2.2.2.2.1
 have HLK := Lib.hid hk
 obtain ⟨ab, hab⟩ : ∃ ab, act L.abs n.abs = ab := ⟨_, rfl⟩
 have HAB := Lib.hid hab
 clear h hn hI hk hlen hab
 obtain ⟨A, r⟩ := ab
 have hmm := @run_makeMap Tryz.prog
 cases r
 ·go_enter Tryz.func113, Tryz.ntmps113
  go_wp2_with (first
   | (with_reducible refine at_insert ?_; refine wpList_insert_map rfl _ _ _ 233 rfl intKey Tryz.underlying233 rfl hm _ (by unfold I64; decide) rfl _ rfl ?_; intro wk hm hT2; have hT := hT.trans hT2; clear hT2; have hbx8 := hbx.turn hT (by omega); have hck : wk.cell? ⟨w.heap.size, 4, none⟩ = some (vi n.kind) := (hbx8.cell 4).trans rfl)
   | ((with_reducible refine at_dst 25 ?_); have hmF : MapAt vi idV I64 _ _ (fnMap b) := hm; refine wpList_look rfl _ _ 233 rfl intKey Tryz.underlying233 Value.nilFunc (zeroFn _) rfl hmF n.kind HK.out rfl ?_; rw [HLK.out]; unfold idV fnV)
   | (with_reducible refine at_dst 27 ?_; refine wpList_loadB hbx8 rfl 43 _ rfl rfl (encNote n) (whole_cells _) Tryz.underlying43 rfl (by kernel_rfl) ?_)
   | ((with_reducible refine at_calls f ?_); have hB8 := hB2.trans (hT.below (Nat.le_succ _)); refine (hd b N L n w _ HL.out hB8 (okNote.ext HN.out (.of_below hB8)) HI.out).mono ?_; rintro e wm ⟨L', rfl, e2, hL', hC', hkeep⟩; rw [HAB.out] at e2 ⊢))
  have hbxm := (hbx8.of_block (hkeep _ (Nat.le_refl _) hbx8.lt)).drew
  have hLd := hL'.drew
  obtain ⟨vr, vc, hb6, hor, hoc, hne⟩ := hLd.box
  have hlenC : L'.conflicts.length ≤ 1000000 := by
   have h1 := HLEN.out
   rw [HAB.out] at h1
   have h2 : L'.abs.conflicts = A.conflicts := by rw [e2]
   show L'.abs.conflicts.length ≤ _
   rw [h2]; exact h1
  clear hL' hkeep
  go_wp2
  refine wp_region_mark 8 [(0, none), (1, none), (2, none), (3, none), (4, some true), (5, some false), (6, some false), (7, some false), (8, some false), (9, none), (10, none), (11, some false)] rfl (by kernel_rfl) (by kernel_rfl) (fun d _ _ _ _ h => by cases d <;> exact h) ?_
  iterate 4 (refine wpC_pure rfl rfl (fun W => by go_simp; with_reducible rfl) ?_; simp only [pTs, pTn, pTz, pTc])
  refine wpC_fix (v := vc) rfl rfl (fun W hW => by have e : W.cell? ⟨b + 6, 5, none⟩ = some vc := ((hb6.belowAll hW).cell 5).trans rfl; go_simp) ?_; simp only [pTs, pTn, pTz, pTc]
  refine wpC_act rfl rfl rfl (fun K hK => ?_)
  refine wp_load_at 43 _ rfl w.heap.size 0 rfl (encNote n) _ hbxm.cells Tryz.underlying43 rfl (by kernel_rfl) ?_
  refine hK _ _ (Below.refl _ _) ?_
  clear hK K
  try simp only [pTs, pTn, pTz, pTc]
  refine wpC_act rfl rfl rfl (fun K hK => ?_)
  go_simp
  refine (refOf_any n _).mono ?_
  rintro e w2 ⟨rfl, hb2⟩
  refine hK _ _ hb2 ?_
  clear hK K
  try simp only [pTs, pTn, pTz, pTc]
  refine wpC_act rfl rfl rfl (fun K hK => ?_)
  go_simp
  refine hK _ _ ((Below.refl _ _).alloc (Nat.le_refl _) _) ?_
  clear hK K
  try simp only [pTs, pTn, pTz, pTc]
  refine wpC_mark rfl rfl (fun K hK => ?_)
  refine wp_append_oneAt _ _ 98 rfl N einfo_Ref (fun _ => rfl) (by decide) encRef_one (by decide) vc L'.conflicts rfl ((hoc.belowAll hb2).belowAll ((Below.refl _ _).alloc (Nat.le_refl _) _)) w2.heap.size 0 1 (refN n) rfl (cells_of_eq (buildRef (refN n))) (by omega) (Nat.le_trans hLd.le (Nat.le_trans hb2.size (by simp))) ?_
  intro v3 w3 ho3 hg3 hat3
  have hal := Below.trans hb2 (((Below.refl w2.heap.size w2).alloc (Nat.le_refl _) (.cells (encRef (refN n)) 34)).mono hb2.size)
  have hg3 : (w2.alloc (.cells (encRef (refN n)) 34)).grownBy w3 vc.ownBlock := hg3
  have hb63 : BoxAt w3 (b + 6) 190 #[.map (some b), .map (some (b + 1)), .map (some (b + 2)), .map (some (b + 3)), vr, vc, .map (some (b + 4)), .map (some (b + 5))] := (hb6.belowAll hal).of_block (hg3.block _ (hb6.belowAll hal).lt (fun e => by have := (hoc.block _ e.symm).1; have := hLd.lt; omega))
  obtain ⟨a3, n3, c3, rfl⟩ := ho3.slice
  refine hK _ _ ?_
  clear hK K
  try simp only [pTs, pTn, pTz, pTc]
  iterate 2 (refine wpC_pure rfl rfl (fun W => by go_simp; with_reducible rfl) ?_; simp only [pTs, pTn, pTz, pTc])
  refine wpC_past rfl rfl (fun K hK => ?_)
  refine wp_store_box hb63 _ _ _ rfl rfl (.slice a3 n3 c3) rfl (by kernel_rfl) rfl (one_sl _ _ _) ?_
  intro w4 hb64 hT4
  have hb65 := hb64.eqv (cs' := #[.map (some b), .map (some (b + 1)), .map (some (b + 2)), .map (some (b + 3)), vr, .slice a3 n3 c3, .map (some (b + 4)), .map (some (b + 5))]) (by simp [splice, Value.cells])
  obtain ⟨hL5, hC5⟩ := (hLd.below hal).conf (hb6.belowAll hal) (hor.belowAll hal) (hoc.belowAll hal) hne ho3 hg3 hat3 (fun q hq => by rcases List.mem_append.1 hq with hq | hq; exact hLd.okC q hq; rw [List.mem_singleton.1 hq]; exact HNM.out) hb65 hT4
  refine hK _ _ ?_
  clear hK K
  try simp only [pTs, pTn, pTz, pTc]
  simp only [wpC]
  go_wp2
  go_end0
  refine ⟨rfl, _, ?_, hL5, (Chg.of_below hB8).trans (hC'.trans ((Chg.of_below ((Below.refl _ _).drew)).trans ((Chg.of_below hal).trans hC5)))⟩
  unfold stepA; rw [HAB.out]; simp only [Led.abs] at e2 ⊢; rw [← e2]; rfl
 ·go_enter Tryz.func113, Tryz.ntmps113
  go_wp2_with (first
   | (with_reducible refine at_insert ?_; refine wpList_insert_map rfl _ _ _ 233 rfl intKey Tryz.underlying233 rfl hm _ (by unfold I64; decide) rfl _ rfl ?_; intro wk hm hT2; have hT := hT.trans hT2; clear hT2; have hbx8 := hbx.turn hT (by omega); have hck : wk.cell? ⟨w.heap.size, 4, none⟩ = some (vi n.kind) := (hbx8.cell 4).trans rfl)
   | ((with_reducible refine at_dst 25 ?_); have hmF : MapAt vi idV I64 _ _ (fnMap b) := hm; refine wpList_look rfl _ _ 233 rfl intKey Tryz.underlying233 Value.nilFunc (zeroFn _) rfl hmF n.kind HK.out rfl ?_; rw [HLK.out]; unfold idV fnV)
   | (with_reducible refine at_dst 27 ?_; refine wpList_loadB hbx8 rfl 43 _ rfl rfl (encNote n) (whole_cells _) Tryz.underlying43 rfl (by kernel_rfl) ?_)
   | ((with_reducible refine at_calls f ?_); have hB8 := hB2.trans (hT.below (Nat.le_succ _)); refine (hd b N L n w _ HL.out hB8 (okNote.ext HN.out (.of_below hB8)) HI.out).mono ?_; rintro e wm ⟨L', rfl, e2, hL', hC', hkeep⟩; rw [HAB.out] at e2 ⊢))
  go_end0
  exact ⟨rfl, L', by unfold stepA; rw [HAB.out]; exact e2, hL', (Chg.of_below hB8).trans hC'⟩
end Go.Proofs.YtnmgfnpphglphaaGreat
