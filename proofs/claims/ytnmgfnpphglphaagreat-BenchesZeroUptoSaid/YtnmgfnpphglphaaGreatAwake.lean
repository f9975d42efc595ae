/-
  The examples at the head of the statements, in plain words.
  A slice literal of structs: what lies in the block that it lays.
  The three examples folded, wherever their notes lie.
  awake: the examples at the head of the statements hold.
-/
import Derived.Test.YtnmgfnpphglphaaGreatFolded
import Derived.Test.YtnmgfnpphglphaaGreatEff0
import Derived.Test.YtnmgfnpphglphaaGreatAppR
import Derived.Test.YtnmgfnpphglphaaGreatBytesW
set_option maxHeartbeats 16000000
set_option maxRecDepth 100000
section
set_option linter.unusedVariables false
set_option linter.unusedSimpArgs false
namespace Go.Proofs.YtnmgfnpphglphaaGreat
def gG : Gauge := ⟨⟨1, 1⟩, ⟨2, 2⟩, 1⟩
def pA : PieceA := ⟨9, 1, 1, 0, 0, [gG, gG, gG, gG], []⟩
def noteA0 (bench num clock year kind to : Int) (ref : Ref) (pieces : List Int) (data : List PieceA) : NoteA :=
 ⟨bench, num, clock, year, kind, 0, 0, 0, 0, to, ⟨0, false⟩, ref, pieces, [], data, zItem.abs⟩
def findN : NoteA := noteA0 1 1 1 1900 1 0 ⟨0, 0⟩ [] [pA]
def sendN : NoteA := noteA0 1 2 2 1901 4 2 ⟨0, 0⟩ [9] []
def gotN : NoteA := noteA0 2 1 3 1901 5 0 ⟨1, 2⟩ [] []
def backN : NoteA := noteA0 1 3 4 1902 10 0 ⟨1, 2⟩ [] []
def ex1 : List NoteA := [findN, sendN]
def ex2 : List NoteA := [findN, sendN, gotN]
def ex3 : List NoteA := [findN, sendN, backN, gotN]
theorem eff1 : effA ex1 = [findN, sendN] := by kernel_rfl
theorem eff2 : effA ex2 = [findN, sendN, gotN] := by kernel_rfl
theorem eff3 : effA ex3 = [findN, gotN] := by kernel_rfl
theorem dang1 : dangA ex1 = [] := by kernel_rfl
theorem dang2 : dangA ex2 = [] := by kernel_rfl
theorem dang3 : dangA ex3 = [] := by kernel_rfl
theorem where1 : (foldedA ex1 9999).wher = [⟨9, 2, 0, ⟨0, false⟩, ⟨1, 2⟩⟩] := by kernel_rfl
theorem where2 : (foldedA ex2 9999).wher = [⟨9, 1, 2, ⟨0, false⟩, ⟨0, 0⟩⟩] := by kernel_rfl
theorem where3 : (foldedA ex3 9999).wher = [⟨9, 1, 1, ⟨0, false⟩, ⟨0, 0⟩⟩] := by kernel_rfl
theorem conf3 : (foldedA ex3 9999).conflicts = [⟨2, 1⟩] := by kernel_rfl
theorem small_of {L : LedA} (h : L.pieces.length = 1 ∧ L.glass.length = 0 ∧ L.items.length = 0 ∧ L.releads.length = 0 ∧ L.conflicts.length ≤ 1) : Small L := ⟨by omega, by omega, by omega, by omega, by omega⟩
theorem small1 : Small (ledEnd ex1 9999) := small_of (by decide)
theorem small2 : Small (ledEnd ex2 9999) := small_of (by decide)
theorem small3 : Small (ledEnd ex3 9999) := small_of (by decide)
theorem kinds (l : List NoteA) (h : ∀ x ∈ l, x.kind = 1 ∨ x.kind = 4 ∨ x.kind = 5) : ∀ (k : Nat) (x : NoteA), l[k]? = some x → x.year ≤ 9999 → P145 x (stA 9999 l k) := fun k x hx _ => h x (List.mem_of_getElem? hx)
theorem p1 : ∀ (k : Nat) (x : NoteA), (effA ex1)[k]? = some x → x.year ≤ 9999 → P145 x (stA 9999 (effA ex1) k) := kinds _ (by rw [eff1]; simp [findN, sendN, noteA0])
theorem p2 : ∀ (k : Nat) (x : NoteA), (effA ex2)[k]? = some x → x.year ≤ 9999 → P145 x (stA 9999 (effA ex2) k) := kinds _ (by rw [eff2]; simp [findN, sendN, gotN, noteA0])
theorem p3 : ∀ (k : Nat) (x : NoteA), (effA ex3)[k]? = some x → x.year ≤ 9999 → P145 x (stA 9999 (effA ex3) k) := kinds _ (by rw [eff3]; simp [findN, gotN, noteA0])
end Go.Proofs.YtnmgfnpphglphaaGreat
end
section
set_option linter.unusedVariables false
set_option linter.unusedSimpArgs false
namespace Go.Proofs.YtnmgfnpphglphaaGreat
open Go.RowKit
theorem splice_len : ∀ (vs : List Value) (cs : Array Value) (o : Nat), (splice cs o vs).size = cs.size
 | [], _, _ => rfl
 | v :: r, cs, o => by unfold splice; rw [splice_len r]; simp
theorem splice_get : ∀ (vs : List Value) (cs : Array Value) (o i : Nat), o + vs.length ≤ cs.size → (splice cs o vs)[i]? = if o ≤ i ∧ i < o + vs.length then vs[i - o]? else cs[i]?
 | [], cs, o, i, _ => by rw [if_neg (by simp only [List.length_nil]; omega)]; rfl
 | v :: r, cs, o, i, h => by
  simp only [List.length_cons] at h
  unfold splice
  rw [splice_get r _ _ i (by simp; omega)]
  by_cases h1 : i = o
  ·subst h1
   rw [if_neg (by omega), if_pos (by simp), Nat.sub_self]
   rw [Array.getElem?_setIfInBounds]
   simp; omega
  ·by_cases h2 : o + 1 ≤ i ∧ i < o + 1 + r.length
   ·rw [if_pos h2, if_pos (by simp; omega), show i - o = (i - (o + 1)) + 1 by omega, List.getElem?_cons_succ]
   ·rw [if_neg h2, if_neg (by simp; omega), Array.getElem?_setIfInBounds, if_neg (by omega)]
theorem foldl_splice (off : Nat) : ∀ (vs : List Value) (j : Nat) (cs : Array Value), (vs.zipIdx j).foldl (fun cs (x : Value × Nat) => cs.setIfInBounds (off + x.2) x.1) cs = splice cs (off + j) vs
 | [], _, _ => rfl
 | v :: r, j, cs => by
  simp only [List.zipIdx_cons, List.foldl_cons]
  rw [foldl_splice off r (j + 1)]; rfl
theorem array_foldl_splice (off : Nat) (vs : Array Value) (cs : Array Value) : vs.zipIdx.foldl (fun cs (x : Value × Nat) => cs.setIfInBounds (off + x.2) x.1) cs = splice cs off vs.toList := by
 rw [← Array.foldl_toList, Array.toList_zipIdx, foldl_splice off vs.toList 0, Nat.add_zero]
variable {α : Type} {enc : α → Array Value} {sz : Nat}
theorem fill_flat (hsz : ∀ x, (enc x).size = sz) : ∀ (l : List α) (k : Nat) (cs : Array Value), (k + l.length) * sz ≤ cs.size →
  ∃ cs', Instr.fill (fun i => some (i * sz, sz)) cs ((l.zipIdx k).map fun p => (p.2, Value.agg (enc p.1))) = some cs' ∧ cs'.size = cs.size ∧
   ∀ i, cs'[i]? = if k * sz ≤ i ∧ i < (k + l.length) * sz then (flat enc l)[i - k * sz]? else cs[i]?
 | [], k, cs, _ => ⟨cs, rfl, rfl, fun i => by rw [if_neg (by simp only [List.length_nil, Nat.add_zero]; omega)]⟩
 | x :: l, k, cs, h => by
  have hkl : k + 1 + l.length = k + (x :: l).length := by simp only [List.length_cons]; omega
  have hle : (k + 1) * sz ≤ (k + (x :: l).length) * sz := Nat.mul_le_mul_right _ (by simp only [List.length_cons]; omega)
  have hk1 : (k + 1) * sz = k * sz + sz := by rw [Nat.succ_mul]
  have hfit : k * sz + (enc x).toList.length ≤ cs.size := by rw [Array.length_toList, hsz]; omega
  have hfit2 : (k + 1 + l.length) * sz ≤ (splice cs (k * sz) (enc x).toList).size := by rw [splice_len, hkl]; exact h
  obtain ⟨cs', e1, e2, e3⟩ := fill_flat hsz l (k + 1) (splice cs (k * sz) (enc x).toList) hfit2
  refine ⟨cs', ?_, by rw [e2, splice_len], fun i => ?_⟩
  ·simp only [List.zipIdx_cons, List.map_cons, Instr.fill]
   rw [if_neg (by simp [Value.cells, hsz]; simp [hsz] at hfit; exact hfit)]
   rw [show (Value.agg (enc x)).cells = enc x from rfl, array_foldl_splice]
   exact e1
  ·rw [e3 i]
   rw [hkl]
   have hfx : flat enc (x :: l) = (enc x).toList ++ flat enc l := by simp [flat]
   have hex : (enc x).toList.length = sz := by simp [hsz]
   by_cases h1 : (k + 1) * sz ≤ i ∧ i < (k + (x :: l).length) * sz
   ·rw [if_pos h1, if_pos ⟨by omega, h1.2⟩, hfx, List.getElem?_append_right (by rw [hex]; omega), hex]
    congr 1; omega
   ·rw [if_neg h1, splice_get _ _ _ _ hfit, hex]
    by_cases h2 : k * sz ≤ i ∧ i < k * sz + sz
    ·rw [if_pos h2, if_pos ⟨h2.1, by omega⟩, hfx, List.getElem?_append_left (by rw [hex]; omega)]
    ·rw [if_neg h2, if_neg (by omega)]
theorem wpList_lits {P : Program} {w : World} {ops : Array Oper} {rest : List Oper} {o : Oper} {a : Act} {Q : Exit → Act → World → Prop} (l : List α) (hgd : o.guard = none) (st : TypeId) (parts : Array (Nat × Operand)) (n : Nat)
  (ho : o.op = .buildSlice st n parts) {e : TypeId} {bytes : Nat} {z0 : Array Value} (hE : EInfo P st e sz bytes) (hzv : (zeroValue e).run P w = .ok (.agg z0) w) (hz0 : z0.size = sz) (h0 : 0 < sz) (hsz : ∀ x, (enc x).size = sz) (hn : n = l.length) (hlen : l.length * sz ≤ 16777216) (hl0 : 0 < l.length)
  (hp : (parts.map fun p => (p.1, a.eval p.2)).toList = (l.zipIdx 0).map fun p => (p.2, Value.agg (enc p.1)))
  (h : ∀ cs, cs.toList = flat enc l → wpList P ops Q rest (a.put o.dst (.slice (some ⟨w.heap.size, 0, none⟩) n n)) (w.alloc (.cells cs e))) : wpList P ops Q (o :: rest) a w := by
 obtain ⟨ht, i, z, hi, hz, hs1, hb1, hzs⟩ := hE.out
 subst hn
 refine wpList_plain hgd fun K' hK' => ?_
 have hpos : 0 < l.length * sz := Nat.mul_pos hl0 h0
 obtain ⟨cs', e1, e2, e3⟩ := fill_flat (enc := enc) hsz l 0 ((Array.range (l.length * sz)).map fun q => z0[q % z0.size]!) (by simp)
 have hflat : cs'.toList = flat enc l := by
  apply List.ext_getElem?
  intro q
  rw [Array.getElem?_toList, e3 q]
  rw [Nat.zero_mul, Nat.zero_add, Nat.sub_zero]
  by_cases hq : q < l.length * sz
  ·rw [if_pos ⟨by omega, hq⟩]
  ·rw [if_neg (by omega), List.getElem?_eq_none (by rw [flat_length hsz]; omega), Array.getElem?_eq_none (by simp; omega)]
 have hrun : (Instr.buildSlice st l.length (parts.map fun p => (p.1, a.eval p.2))).run P w = .ok (.slice (some ⟨w.heap.size, 0, none⟩) l.length l.length) (w.alloc (.cells cs' e)) := by
  have hcells : (Value.agg z0).cells = z0 := rfl
  have hp' : parts.toList.map (fun p => (p.1, a.eval p.2)) = (l.zipIdx 0).map fun p => (p.2, Value.agg (enc p.1)) := by rw [← hp, Array.toList_map]
  have hnew : ∀ f : Nat → Value, (f <$> newObj (.cells cs' e)).run P w = .ok (f w.heap.size) (w.alloc (.cells cs' e)) := fun f => by
   rw [← bind_pure_comp, Sem.run_bind, run_newObj_alloc]; rfl
  unfold Instr.buildSlice
  simp [Sem.run_bind, run_underlying ht, sizeOf, typeInfo, hi, hs1, Nat.not_lt.2 hlen, Nat.ne_of_gt hpos, hzv, hcells, hp', e1, newRow, run_newObj_alloc, hnew, Result.andThen, Nat.ne_of_gt hl0, Nat.ne_of_gt h0]
 unfold Oper.wp
 simp only [execOp, ho]
 have hmap : (parts.map fun x => match x with | (i, x) => (i, a.eval x)) = parts.map fun p => (p.1, a.eval p.2) := rfl
 simp [hrun, Sem.run_bind, Result.andThen]
 exact hK' _ _ (h cs' hflat)
end Go.Proofs.YtnmgfnpphglphaaGreat
end
section
set_option linter.unusedVariables false
set_option linter.unusedSimpArgs false
namespace Go.Proofs.YtnmgfnpphglphaaGreat
open Go.RowKit
def noteOf (bench num clock year kind to : Int) (ref : Ref) (pieces : Sl Int) (data : Sl Piece) : Note :=
 ⟨bench, num, clock, year, kind, 0, 0, 0, 0, to, ⟨0, false⟩, ref, pieces, Sl.nil, data, zItem⟩
def pieceN (a : Option Addr) : Piece := ⟨9, 1, 1, 0, 0, ⟨a, 4, [gG, gG, gG, gG]⟩, Sl.nil⟩
def NF (a d : Option Addr) : Note := noteOf 1 1 1 1900 1 0 ⟨0, 0⟩ Sl.nil ⟨d, 1, [pieceN a]⟩
def NS (a : Option Addr) : Note := noteOf 1 2 2 1901 4 2 ⟨0, 0⟩ ⟨a, 1, [9]⟩ Sl.nil
def NG : Note := noteOf 2 1 3 1901 5 0 ⟨1, 2⟩ Sl.nil Sl.nil
def NB : Note := noteOf 1 3 4 1902 10 0 ⟨1, 2⟩ Sl.nil Sl.nil
theorem set1 (a d f : Option Addr) : isSetB [NF a d, NS f] = true := by kernel_rfl
theorem set2 (a d f : Option Addr) : isSetB [NF a d, NS f, NG] = true := by kernel_rfl
theorem set3 (a d f : Option Addr) : isSetB [NF a d, NS f, NB, NG] = true := by kernel_rfl
theorem abs1 (a d f : Option Addr) : [NF a d, NS f].map Note.abs = ex1 := rfl
theorem abs2 (a d f : Option Addr) : [NF a d, NS f, NG].map Note.abs = ex2 := rfl
theorem abs3 (a d f : Option Addr) : [NF a d, NS f, NB, NG].map Note.abs = ex3 := rfl
theorem nod1 (a d f : Option Addr) : ([NF a d, NS f].map refN).Nodup := by simp [NF, NS, noteOf, refN]
theorem nod2 (a d f : Option Addr) : ([NF a d, NS f, NG].map refN).Nodup := by simp [NF, NS, NG, noteOf, refN]
theorem nod3 (a d f : Option Addr) : ([NF a d, NS f, NB, NG].map refN).Nodup := by simp [NF, NS, NG, NB, noteOf, refN]
theorem splice_whole (cs vs : Array Value) (h : cs.size = vs.size) : splice cs 0 vs.toList = vs := by
 apply Array.ext_getElem?
 intro i
 rw [splice_get _ _ _ _ (by simp [h])]
 by_cases hi : i < vs.size
 ·rw [if_pos (by simp; omega)]; simp
 ·rw [if_neg (by simp; omega), Array.getElem?_eq_none (by omega), Array.getElem?_eq_none (by omega)]
def Stop (p : Prop) : Prop := p
theorem at_storeTo (k : Nat) {P : Program} {ops : Array Oper} {rest : List Oper} {tt : TypeId} {y : Operand} {ty : TypeId} {pos : String} {af : Array Edge} {g : Option (Nat × Bool)} {a : Act} {w : World} {Q : Exit → Act → World → Prop}
  (h : wpList P ops Q (⟨none, .store tt (.tmp k) y, ty, pos, af, g⟩ :: rest) a w) : wpList P ops Q (⟨none, .store tt (.tmp k) y, ty, pos, af, g⟩ :: rest) a w := h
theorem Sl.OK.ofBox {α : Type} {enc : α → Array Value} {sz b : Nat} {T : TypeId} {cs : Array Value} {w : World} {ok : (Nat → Prop) → World → α → Prop} {D : Nat → Prop} (l : List α) (hsz : ∀ x, (enc x).size = sz) (hb : BoxAt w b T cs) (hcs : cs.toList = flat enc l) (hl : l.length ≤ 4294967296) (hD : ¬ D b) (hok : ∀ x ∈ l, ok D w x) :
  Sl.OK sz enc ok D w ⟨some ⟨b, 0, none⟩, l.length, l⟩ := by
 refine ⟨Nat.le_refl _, hl, by simp, fun p hp _ => ?_, hok, fun b' o' ha i x hi j hj => ?_⟩
 ·simp at hp; subst hp; exact ⟨rfl, hD, hb.lt⟩
 ·simp at ha; obtain ⟨rfl, rfl⟩ := ha
  rw [hb.cell, Nat.zero_add, ← flat_at (enc := enc) hsz l i x hi j hj, ← hcs]
  simp
structure Cells (W : World) (l : List (Nat × Nat × Value)) : Prop where
 all : ∀ p ∈ l, p.1 < W.heap.size ∧ W.cell? ⟨p.1, p.2.1, none⟩ = some p.2.2
theorem Cells.below {W W' : World} {l : List (Nat × Nat × Value)} (h : Cells W l) (hb : Below W.heap.size W W') : Cells W' l :=
 ⟨fun p hp => ⟨Nat.lt_of_lt_of_le (h.all p hp).1 hb.size, (hb.cell (p := ⟨p.1, p.2.1, none⟩) (h.all p hp).1).trans (h.all p hp).2⟩⟩
theorem Cells.get {W : World} {l : List (Nat × Nat × Value)} (h : Cells W l) (i : Nat) (p : Nat × Nat × Value) (hp : l[i]? = some p) : W.cell? ⟨p.1, p.2.1, none⟩ = some p.2.2 := (h.all p (List.mem_of_getElem? hp)).2
theorem Cells.app {W : World} {l l' : List (Nat × Nat × Value)} (h : Cells W l) (h' : Cells W l') : Cells W (l ++ l') := ⟨fun p hp => (List.mem_append.1 hp).elim (h.all p) (h'.all p)⟩
structure ExAt (h : Nat) (W : World) : Prop where
 le : h + 9 ≤ W.heap.size
 bf : BoxAt W (h + 4) 43 (encNote (NF (some ⟨h + 1, 0, none⟩) (some ⟨h + 3, 0, none⟩)))
 bs : BoxAt W (h + 6) 43 (encNote (NS (some ⟨h + 5, 0, none⟩)))
 bg : BoxAt W (h + 7) 43 (encNote NG)
 bb : BoxAt W (h + 8) 43 (encNote NB)
 of : okNote (fun _ => False) W (NF (some ⟨h + 1, 0, none⟩) (some ⟨h + 3, 0, none⟩))
 os : okNote (fun _ => False) W (NS (some ⟨h + 5, 0, none⟩))
 og : okNote (fun _ => False) W NG
 ob : okNote (fun _ => False) W NB
theorem ExAt.below {h : Nat} {W W' : World} (x : ExAt h W) (hb : Below W.heap.size W W') : ExAt h W' :=
 ⟨Nat.le_trans x.le hb.size, x.bf.belowAll hb, x.bs.belowAll hb, x.bg.belowAll hb, x.bb.belowAll hb, okNote.ext x.of (.of_below hb), okNote.ext x.os (.of_below hb), okNote.ext x.og (.of_below hb), okNote.ext x.ob (.of_below hb)⟩
theorem I64_small (x : Int) (h0 : 0 ≤ x) (h1 : x ≤ 10000) : I64 x := by unfold I64; omega
theorem ExAt.mk' {h : Nat} {W : World} {cs22 cs25 : Array Value} (le : h + 9 ≤ W.heap.size) (bf : BoxAt W (h + 4) 43 (encNote (NF (some ⟨h + 1, 0, none⟩) (some ⟨h + 3, 0, none⟩)))) (bs : BoxAt W (h + 6) 43 (encNote (NS (some ⟨h + 5, 0, none⟩)))) (bg : BoxAt W (h + 7) 43 (encNote NG)) (bb : BoxAt W (h + 8) 43 (encNote NB))
  (bgs : BoxAt W (h + 1) 89 cs22) (hc22 : cs22.toList = flat encGauge [gG, gG, gG, gG]) (bps : BoxAt W (h + 3) 93 cs25) (hc25 : cs25.toList = flat encPiece [pieceN (some ⟨h + 1, 0, none⟩)]) (bis : BoxAt W (h + 5) 3 #[.int .i64 9]) : ExAt h W := by
 have z := I64_zero
 have z1 := I64_small 1 (by decide) (by decide)
 have z2 := I64_small 2 (by decide) (by decide)
 have z3 := I64_small 3 (by decide) (by decide)
 have z4 := I64_small 4 (by decide) (by decide)
 have z5 := I64_small 5 (by decide) (by decide)
 have z9 := I64_small 9 (by decide) (by decide)
 have z10 := I64_small 10 (by decide) (by decide)
 have y0 := I64_small 1900 (by decide) (by decide)
 have y1 := I64_small 1901 (by decide) (by decide)
 have y2 := I64_small 1902 (by decide) (by decide)
 have hg : Sl.OK 5 encGauge okGauge (fun _ => False) W ⟨some ⟨h + 1, 0, none⟩, 4, [gG, gG, gG, gG]⟩ :=
  Sl.OK.ofBox (enc := encGauge) (T := 89) (cs := cs22) [gG, gG, gG, gG] (fun _ => rfl) bgs hc22 (by decide) (fun h => h) (fun x hx => by
   simp only [List.mem_cons, List.not_mem_nil, or_false, or_self] at hx
   subst hx
   exact ⟨z1, z1, z2, z2, z1⟩)
 have hp : okPiece (fun _ => False) W (pieceN (some ⟨h + 1, 0, none⟩)) := ⟨z9, z1, z1, z, z, hg, Sl.OK.nil _ _ _ _ _⟩
 have hps : Sl.OK 7 encPiece okPiece (fun _ => False) W ⟨some ⟨h + 3, 0, none⟩, 1, [pieceN (some ⟨h + 1, 0, none⟩)]⟩ :=
  Sl.OK.ofBox (enc := encPiece) (T := 93) (cs := cs25) [pieceN (some ⟨h + 1, 0, none⟩)] (fun _ => rfl) bps hc25 (Nat.le_of_ble_eq_true rfl) (fun h => h) (fun x hx => by rw [List.mem_singleton.1 hx]; exact hp)
 have his : Sl.OK 1 encInt okInt (fun _ => False) W ⟨some ⟨h + 5, 0, none⟩, 1, [9]⟩ :=
  Sl.OK.ofBox (enc := encInt) (T := 3) (cs := #[.int .i64 9]) [9] (fun _ => rfl) bis rfl (by decide) (fun h => h) (fun x hx => by rw [List.mem_singleton.1 hx]; exact z9)
 have hn : ∀ {α : Type} (sz : Nat) (e : α → Array Value) (ok : (Nat → Prop) → World → α → Prop), Sl.OK sz e ok (fun _ => False) W Sl.nil := fun _ _ _ => Sl.OK.nil _ _ _ _ _
 refine ⟨le, bf, bs, bg, bb, ?_, ?_, ?_, ?_⟩
 all_goals simp only [okNote, NF, NS, NG, NB, noteOf, zItem]
 all_goals simp only [z, z1, z2, z3, z4, z5, z10, y0, y1, y2, hn, hps, his, and_self]
theorem fold_ex1 {h n : Nat} {W : World} {cs : Array Value} (x : ExAt h W) (hcs : cs.toList = flat encNote [NF (some ⟨h + 1, 0, none⟩) (some ⟨h + 3, 0, none⟩), NS (some ⟨h + 5, 0, none⟩)]) (hn : n = W.heap.size) :
  Calls Tryz.prog 37 #[.slice (some ⟨n, 0, none⟩) 2 2] (W.alloc (.cells cs 43)) fun e w' => ∃ (R : Register) (b o c : Nat), e = .returned (.tuple #[.agg (encRegister R), .int .i64 0]) ∧ R.wher.v = .slice (some ⟨b, o, none⟩) 1 c ∧ b < w'.heap.size ∧
   (∀ j, j < 7 → w'.cell? ⟨b, o + j, none⟩ = (encWhere ⟨9, 2, 0, ⟨0, false⟩, ⟨1, 2⟩⟩)[j]?) ∧ Below W.heap.size W w' := by
 subst hn
 have hB : Below W.heap.size W (W.alloc (.cells cs 43)) := (Below.refl _ _).alloc (Nat.le_refl _) _
 have hs : Sl.OK 29 encNote okNote (fun _ => False) (W.alloc (.cells cs 43)) ⟨some ⟨W.heap.size, 0, none⟩, 2, [NF (some ⟨h + 1, 0, none⟩) (some ⟨h + 3, 0, none⟩), NS (some ⟨h + 5, 0, none⟩)]⟩ :=
  Sl.OK.ofBox (enc := encNote) (T := 43) (cs := cs) _ (fun _ => rfl) (BoxAt.new _ _ _) hcs (Nat.le_of_ble_eq_true rfl) (fun h => h) (fun y hy => by
   simp only [List.mem_cons, List.not_mem_nil, or_false] at hy
   rcases hy with rfl | rfl
   ·exact okNote.ext x.of (.of_below hB)
   ·exact okNote.ext x.os (.of_below hB))
 refine (fold_any enters_145 (fun _ => False) ⟨some ⟨W.heap.size, 0, none⟩, 2, [NF (some ⟨h + 1, 0, none⟩) (some ⟨h + 3, 0, none⟩), NS (some ⟨h + 5, 0, none⟩)]⟩ _ hs (set1 _ _ _) (Nat.le_of_ble_eq_true rfl) (nod1 _ _ _) (by rw [abs1]; exact p1) (by rw [abs1]; exact small1) (by rw [abs1, eff1]; decide) (by rw [abs1, dang1]; decide)).mono ?_
 rintro e w' ⟨R, rfl, hRa, hRo, hb⟩
 rw [abs1] at hRa
 have hw : R.wher.val = [⟨9, 2, 0, ⟨0, false⟩, ⟨1, 2⟩⟩] := by have h1 := congrArg RegisterA.wher hRa; rw [where1] at h1; exact h1
 obtain ⟨b, o, ha, hbl, _, _, hcell⟩ := hRo.2.1.at (i := 0) (by rw [hw]; rfl)
 refine ⟨R, b, o, R.wher.cap, rfl, by unfold Sl.v; rw [ha, hw]; rfl, hbl, fun j hj => by simpa using hcell j hj, hB.trans (hb.mono (by simp))⟩
theorem fold_ex2 {h n : Nat} {W : World} {cs : Array Value} (x : ExAt h W) (hcs : cs.toList = flat encNote [NF (some ⟨h + 1, 0, none⟩) (some ⟨h + 3, 0, none⟩), NS (some ⟨h + 5, 0, none⟩), NG]) (hn : n = W.heap.size) :
  Calls Tryz.prog 37 #[.slice (some ⟨n, 0, none⟩) 3 3] (W.alloc (.cells cs 43)) fun e w' => ∃ (R : Register) (b o c : Nat), e = .returned (.tuple #[.agg (encRegister R), .int .i64 0]) ∧ R.wher.v = .slice (some ⟨b, o, none⟩) 1 c ∧ b < w'.heap.size ∧
   (∀ j, j < 7 → w'.cell? ⟨b, o + j, none⟩ = (encWhere ⟨9, 1, 2, ⟨0, false⟩, ⟨0, 0⟩⟩)[j]?) ∧ Below W.heap.size W w' := by
 subst hn
 have hB : Below W.heap.size W (W.alloc (.cells cs 43)) := (Below.refl _ _).alloc (Nat.le_refl _) _
 have hs : Sl.OK 29 encNote okNote (fun _ => False) (W.alloc (.cells cs 43)) ⟨some ⟨W.heap.size, 0, none⟩, 3, [NF (some ⟨h + 1, 0, none⟩) (some ⟨h + 3, 0, none⟩), NS (some ⟨h + 5, 0, none⟩), NG]⟩ :=
  Sl.OK.ofBox (enc := encNote) (T := 43) (cs := cs) _ (fun _ => rfl) (BoxAt.new _ _ _) hcs (Nat.le_of_ble_eq_true rfl) (fun h => h) (fun y hy => by
   simp only [List.mem_cons, List.not_mem_nil, or_false] at hy
   rcases hy with rfl | rfl | rfl
   ·exact okNote.ext x.of (.of_below hB)
   ·exact okNote.ext x.os (.of_below hB)
   ·exact okNote.ext x.og (.of_below hB))
 refine (fold_any enters_145 (fun _ => False) ⟨some ⟨W.heap.size, 0, none⟩, 3, [NF (some ⟨h + 1, 0, none⟩) (some ⟨h + 3, 0, none⟩), NS (some ⟨h + 5, 0, none⟩), NG]⟩ _ hs (set2 _ _ _) (Nat.le_of_ble_eq_true rfl) (nod2 _ _ _) (by rw [abs2]; exact p2) (by rw [abs2]; exact small2) (by rw [abs2, eff2]; decide) (by rw [abs2, dang2]; decide)).mono ?_
 rintro e w' ⟨R, rfl, hRa, hRo, hb⟩
 rw [abs2] at hRa
 have hw : R.wher.val = [⟨9, 1, 2, ⟨0, false⟩, ⟨0, 0⟩⟩] := by have h1 := congrArg RegisterA.wher hRa; rw [where2] at h1; exact h1
 obtain ⟨b, o, ha, hbl, _, _, hcell⟩ := hRo.2.1.at (i := 0) (by rw [hw]; rfl)
 refine ⟨R, b, o, R.wher.cap, rfl, by unfold Sl.v; rw [ha, hw]; rfl, hbl, fun j hj => by simpa using hcell j hj, hB.trans (hb.mono (by simp))⟩
theorem fold_ex3 {h n : Nat} {W : World} {cs : Array Value} (x : ExAt h W) (hcs : cs.toList = flat encNote [NF (some ⟨h + 1, 0, none⟩) (some ⟨h + 3, 0, none⟩), NS (some ⟨h + 5, 0, none⟩), NB, NG]) (hn : n = W.heap.size) :
  Calls Tryz.prog 37 #[.slice (some ⟨n, 0, none⟩) 4 4] (W.alloc (.cells cs 43)) fun e w' => ∃ (R : Register) (b o c : Nat), e = .returned (.tuple #[.agg (encRegister R), .int .i64 0]) ∧ R.wher.v = .slice (some ⟨b, o, none⟩) 1 c ∧ b < w'.heap.size ∧
   (∀ j, j < 7 → w'.cell? ⟨b, o + j, none⟩ = (encWhere ⟨9, 1, 1, ⟨0, false⟩, ⟨0, 0⟩⟩)[j]?) ∧ (∃ b2 o2 c2, R.conflicts.v = .slice (some ⟨b2, o2, none⟩) 1 c2 ∧ b2 < w'.heap.size ∧ (∀ j, j < 2 → w'.cell? ⟨b2, o2 + j, none⟩ = (encRef ⟨2, 1⟩)[j]?)) ∧ Below W.heap.size W w' := by
 subst hn
 have hB : Below W.heap.size W (W.alloc (.cells cs 43)) := (Below.refl _ _).alloc (Nat.le_refl _) _
 have hs : Sl.OK 29 encNote okNote (fun _ => False) (W.alloc (.cells cs 43)) ⟨some ⟨W.heap.size, 0, none⟩, 4, [NF (some ⟨h + 1, 0, none⟩) (some ⟨h + 3, 0, none⟩), NS (some ⟨h + 5, 0, none⟩), NB, NG]⟩ :=
  Sl.OK.ofBox (enc := encNote) (T := 43) (cs := cs) _ (fun _ => rfl) (BoxAt.new _ _ _) hcs (Nat.le_of_ble_eq_true rfl) (fun h => h) (fun y hy => by
   simp only [List.mem_cons, List.not_mem_nil, or_false] at hy
   rcases hy with rfl | rfl | rfl | rfl
   ·exact okNote.ext x.of (.of_below hB)
   ·exact okNote.ext x.os (.of_below hB)
   ·exact okNote.ext x.ob (.of_below hB)
   ·exact okNote.ext x.og (.of_below hB))
 refine (fold_any enters_145 (fun _ => False) ⟨some ⟨W.heap.size, 0, none⟩, 4, [NF (some ⟨h + 1, 0, none⟩) (some ⟨h + 3, 0, none⟩), NS (some ⟨h + 5, 0, none⟩), NB, NG]⟩ _ hs (set3 _ _ _) (Nat.le_of_ble_eq_true rfl) (nod3 _ _ _) (by rw [abs3]; exact p3) (by rw [abs3]; exact small3) (by rw [abs3, eff3]; decide) (by rw [abs3, dang3]; decide)).mono ?_
 rintro e w' ⟨R, rfl, hRa, hRo, hb⟩
 rw [abs3] at hRa
 have hw : R.wher.val = [⟨9, 1, 1, ⟨0, false⟩, ⟨0, 0⟩⟩] := by have h1 := congrArg RegisterA.wher hRa; rw [where3] at h1; exact h1
 obtain ⟨b, o, ha, hbl, _, _, hcell⟩ := hRo.2.1.at (i := 0) (by rw [hw]; rfl)
 refine ⟨R, b, o, R.wher.cap, rfl, by unfold Sl.v; rw [ha, hw]; rfl, hbl, fun j hj => by simpa using hcell j hj, (by
  have hw2 : R.conflicts.val = [⟨2, 1⟩] := by have h1 := congrArg RegisterA.conflicts hRa; rw [conf3] at h1; exact h1
  obtain ⟨b2, o2, ha2, hbl2, _, _, hcell2⟩ := hRo.2.2.2.2.2.at (i := 0) (by rw [hw2]; rfl)
  exact ⟨b2, o2, R.conflicts.cap, by unfold Sl.v; rw [ha2, hw2]; rfl, hbl2, fun j hj => by simpa using hcell2 j hj⟩), hB.trans (hb.mono (by simp))⟩
end Go.Proofs.YtnmgfnpphglphaaGreat
end
section
set_option linter.unusedVariables false
set_option linter.unusedSimpArgs false
namespace Go.Proofs.YtnmgfnpphglphaaGreat
open Go.RowKit
theorem bytes_string {w : World} {base c : Nat} {a : Option Addr} (h : OwnL encByte 1 w base 5 (.slice a [1, 0, 2, 0, 7, 8, 0].length c) [1, 0, 2, 0, 7, 8, 0]) :
  ∃ b, a = some ⟨b, 0, none⟩ ∧ (convert 30 9 (.slice (some ⟨b, 0, none⟩) 7 c)).run Tryz.prog w = .ok (.string ⟨#[1, 0, 2, 0, 7, 8, 0]⟩) w := by
 rcases h.2 with ⟨h0, h1⟩ | ⟨g, cp, cur, h0, h3, h4, h5, h6, h7, h8⟩
 ·simp at h1
 ·simp only [Value.slice.injEq] at h0
  refine ⟨g, h0.1, ?_⟩
  have hr := run_convert_bytes_arg (P := Tryz.prog) w 30 5 Tryz.underlying30 Tryz.underlying5 g 0 7 c [1, 0, 2, 0, 7, 8, 0] rfl (fun i hi => ?_) 9 Tryz.underlying9
  ·rw [hr]; rfl
  ·have hc : w.cell? ⟨g, 0 + i, none⟩ = cur[i]? := by simp [World.cell?, h4]
   have hcur : cur[i]? = (cur.toList.take 7)[i]? := by rw [List.getElem?_take_of_lt hi]; simp
   have h8' : cur.toList.take 7 = flat encByte [1, 0, 2, 0, 7, 8, 0] := h8
   rw [hc, hcur, h8']
   rcases i with _ | _ | _ | _ | _ | _ | _ | i
   all_goals first | rfl | omega
theorem wpList_loadC {P : Program} {w : World} {ops : Array Oper} {rest : List Oper} {o : Oper} {a : Act} {Q : Exit → Act → World → Prop} {b off : Nat}
  (hw : Region.wanted o (yielded ops a.tmps) = true) (ty : TypeId) (x : Operand) (ho : o.op = .load ty x) (hx : a.eval x = .pointer (some ⟨b, off, none⟩)) (ds : Array Value) {d : TypeDesc} (hds : ∀ j, j < ds.size → w.cell? ⟨b, off + j, none⟩ = ds[j]?)
  (hu : P.underlying ty = some d) (hd : (match d with | .struct _ | .array _ _ => true | _ => false) = true) (hi : (P.info? ty).map (·.size) = some ds.size)
  (h : wpList P ops Q rest (a.put o.dst (.agg ds)) w) : wpList P ops Q (o :: rest) a w :=
 Go.BigFrame.wpList_want hw fun _ hK => wp_load_at ty x ho b off hx ds d hds hu hd hi (hK _ _ h)
theorem awake_any (w : World) : Calls Tryz.prog 7 #[] w fun e w' => e = .returned (.bool true) ∧ Below w.heap.size w w' := by
 go_enter Tryz.func7, Tryz.ntmps7
 go_wp2_with (first
  | ((with_reducible refine at_storeTo 1 ?_); refine wpList_store_box (BoxAt.newN (n := w.heap.size + 0) _ _ _ (by simp [])) rfl 89 _ _ rfl rfl (.agg (encGauge gG)) (by kernel_rfl) (by kernel_rfl) rfl (one_agg (encGauge_one _)) ?_; intro w1 hb1 hT1; have hs1 : w1.heap.size = w.heap.size + 1 := (by rw [hT1.size]; simp []); have hB1 : Below w.heap.size w w1 := Below.trans ((Below.refl _ _).alloc (by simp) _) (hT1.below (by simp [])); have bg : BoxAt w1 (w.heap.size + 0) 89 (encGauge gG) := hb1.eqv (splice_whole _ _ rfl); clear hT1 hb1)
  | (with_reducible refine at_dst 18 ?_; refine wpList_loadB bg rfl 89 _ rfl rfl (encGauge gG) (whole_cells _) Tryz.underlying89 rfl (by kernel_rfl) ?_)
  | (with_reducible refine at_dst 19 ?_; refine wpList_loadB bg rfl 89 _ rfl rfl (encGauge gG) (whole_cells _) Tryz.underlying89 rfl (by kernel_rfl) ?_)
  | (with_reducible refine at_dst 20 ?_; refine wpList_loadB bg rfl 89 _ rfl rfl (encGauge gG) (whole_cells _) Tryz.underlying89 rfl (by kernel_rfl) ?_)
  | (with_reducible refine at_dst 21 ?_; refine wpList_loadB bg rfl 89 _ rfl rfl (encGauge gG) (whole_cells _) Tryz.underlying89 rfl (by kernel_rfl) ?_)
  | ((with_reducible refine at_dst 22 ?_); refine wpList_lits (enc := encGauge) (z0 := #[Value.int .i64 0, Value.int .i64 0, Value.int .i64 0, Value.int .i64 0, Value.int .i64 0]) [gG, gG, gG, gG] rfl 90 _ _ rfl einfo_Gauge (by kernel_rfl) rfl (by decide) (fun _ => rfl) rfl (Nat.le_of_ble_eq_true rfl) (Nat.zero_lt_succ _) (by kernel_rfl) ?_; intro cs22 hcs22)
  | ((with_reducible refine at_storeTo 2 ?_); refine wpList_store_box (BoxAt.newN (n := w.heap.size + 2) _ _ _ (by simp [hs1])) rfl 93 _ _ rfl rfl (.agg (encPiece (pieceN (some ⟨w.heap.size + 1, 0, none⟩)))) (by kernel_rfl) (by kernel_rfl) rfl (one_agg (encPiece_one _)) ?_; intro w2 hb2 hT2; have hs2 : w2.heap.size = w.heap.size + 3 := (by rw [hT2.size]; simp [hs1]); have hB2 : Below w1.heap.size w1 w2 := Below.trans (((Below.refl _ _).alloc (by simp) _).alloc (by simp) _) (hT2.below (by simp [hs1])); have bgs : BoxAt w2 (w.heap.size + 1) 89 cs22 := ((BoxAt.newN _ _ _ (by simp [hs1])).alloc _).turn hT2 (by omega); have bp : BoxAt w2 (w.heap.size + 2) 93 (encPiece (pieceN (some ⟨w.heap.size + 1, 0, none⟩))) := hb2.eqv (splice_whole _ _ rfl); clear hT2 hb2)
  | (with_reducible refine at_dst 24 ?_; refine wpList_loadB bp rfl 93 _ rfl rfl (encPiece (pieceN (some ⟨w.heap.size + 1, 0, none⟩))) (whole_cells _) Tryz.underlying93 rfl (by kernel_rfl) ?_)
  | ((with_reducible refine at_dst 25 ?_); refine wpList_lits (enc := encPiece) (z0 := #[Value.int .i64 0, Value.int .i64 0, Value.int .i64 0, Value.int .i64 0, Value.int .i64 0, Value.slice none 0 0, Value.slice none 0 0]) [(pieceN (some ⟨w.heap.size + 1, 0, none⟩))] rfl 36 _ _ rfl einfo_Piece (by kernel_rfl) rfl (by decide) (fun _ => rfl) rfl (Nat.le_of_ble_eq_true rfl) (Nat.zero_lt_succ _) (by kernel_rfl) ?_; intro cs25 hcs25)
  | ((with_reducible refine at_storeTo 3 ?_); refine wpList_store_box (BoxAt.newN (n := w.heap.size + 4) _ _ _ (by simp [hs2])) rfl 43 _ _ rfl rfl (.agg (encNote (NF (some ⟨w.heap.size + 1, 0, none⟩) (some ⟨w.heap.size + 3, 0, none⟩)))) (by kernel_rfl) (by kernel_rfl) rfl (one_agg (encNote_one _)) ?_; intro w3 hb3 hT3; have hs3 : w3.heap.size = w.heap.size + 5 := (by rw [hT3.size]; simp [hs2]); have hB3 : Below w2.heap.size w2 w3 := Below.trans (((Below.refl _ _).alloc (by simp) _).alloc (by simp) _) (hT3.below (by simp [hs2])); have bps : BoxAt w3 (w.heap.size + 3) 93 cs25 := ((BoxAt.newN _ _ _ (by simp [hs2])).alloc _).turn hT3 (by omega); have bf : BoxAt w3 (w.heap.size + 4) 43 (encNote (NF (some ⟨w.heap.size + 1, 0, none⟩) (some ⟨w.heap.size + 3, 0, none⟩))) := hb3.eqv (splice_whole _ _ rfl); clear hT3 hb3)
  | ((with_reducible refine at_storeTo 4 ?_); refine wpList_store_box (BoxAt.newN (n := w.heap.size + 6) _ _ _ (by simp [hs3])) rfl 43 _ _ rfl rfl (.agg (encNote (NS (some ⟨w.heap.size + 5, 0, none⟩)))) (by kernel_rfl) (by kernel_rfl) rfl (one_agg (encNote_one _)) ?_; intro w4 hb4 hT4; have hs4 : w4.heap.size = w.heap.size + 7 := (by rw [hT4.size]; simp [hs3]); have hB4 : Below w3.heap.size w3 w4 := Below.trans (((Below.refl _ _).alloc (by simp) _).alloc (by simp) _) (hT4.below (by simp [hs3])); have bis : BoxAt w4 (w.heap.size + 5) 3 #[.int .i64 9] := ((BoxAt.newN _ _ _ (by simp [hs3])).alloc _).turn hT4 (by omega); have bs : BoxAt w4 (w.heap.size + 6) 43 (encNote (NS (some ⟨w.heap.size + 5, 0, none⟩))) := hb4.eqv (splice_whole _ _ rfl); clear hT4 hb4)
  | ((with_reducible refine at_storeTo 5 ?_); refine wpList_store_box (BoxAt.newN (n := w.heap.size + 7) _ _ _ (by simp [hs4])) rfl 43 _ _ rfl rfl (.agg (encNote NG)) (by kernel_rfl) (by kernel_rfl) rfl (one_agg (encNote_one _)) ?_; intro w5 hb5 hT5; have hs5 : w5.heap.size = w.heap.size + 8 := (by rw [hT5.size]; simp [hs4]); have hB5 : Below w4.heap.size w4 w5 := Below.trans ((Below.refl _ _).alloc (by simp) _) (hT5.below (by simp [hs4])); have bgo : BoxAt w5 (w.heap.size + 7) 43 (encNote NG) := hb5.eqv (splice_whole _ _ rfl); clear hT5 hb5)
  | ((with_reducible refine at_storeTo 6 ?_); refine wpList_store_box (BoxAt.newN (n := w.heap.size + 8) _ _ _ (by simp [hs5])) rfl 43 _ _ rfl rfl (.agg (encNote NB)) (by kernel_rfl) (by kernel_rfl) rfl (one_agg (encNote_one _)) ?_; intro w6 hb6 hT6; have hs6 : w6.heap.size = w.heap.size + 9 := (by rw [hT6.size]; simp [hs5]); have hB6 : Below w5.heap.size w5 w6 := Below.trans ((Below.refl _ _).alloc (by simp) _) (hT6.below (by simp [hs5])); have bba : BoxAt w6 (w.heap.size + 8) 43 (encNote NB) := hb6.eqv (splice_whole _ _ rfl); clear hT6 hb6)
  | ((with_reducible refine at_dst 34 ?_); have hx : ExAt w.heap.size w6 := ExAt.mk' (by omega) (((bf.belowAll hB4).belowAll hB5).belowAll hB6) ((bs.belowAll hB5).belowAll hB6) (bgo.belowAll hB6) bba ((((bgs.belowAll hB3).belowAll hB4).belowAll hB5).belowAll hB6) hcs22 (((bps.belowAll hB4).belowAll hB5).belowAll hB6) hcs25 ((bis.belowAll hB5).belowAll hB6); have hBx : Below w.heap.size w w6 := (((((hB1.trans (hB2.mono (by omega))).trans (hB3.mono (by omega))).trans (hB4.mono (by omega))).trans (hB5.mono (by omega))).trans (hB6.mono (by omega))); clear bg bgs bp bps bf bis bs bgo bba hB1 hB2 hB3 hB4 hB5 hB6 hcs22 hcs25; refine wpList_loadB hx.bf rfl 43 _ rfl rfl (encNote (NF (some ⟨w.heap.size + 1, 0, none⟩) (some ⟨w.heap.size + 3, 0, none⟩))) (whole_cells _) Tryz.underlying43 rfl (by kernel_rfl) ?_)
  | ((with_reducible refine at_dst 35 ?_); refine wpList_loadB hx.bs rfl 43 _ rfl rfl (encNote (NS (some ⟨w.heap.size + 5, 0, none⟩))) (whole_cells _) Tryz.underlying43 rfl (by kernel_rfl) ?_)
  | ((with_reducible refine at_dst 41 ?_); refine wpList_loadB hx.bf rfl 43 _ rfl rfl (encNote (NF (some ⟨w.heap.size + 1, 0, none⟩) (some ⟨w.heap.size + 3, 0, none⟩))) (whole_cells _) Tryz.underlying43 rfl (by kernel_rfl) ?_)
  | ((with_reducible refine at_dst 42 ?_); refine wpList_loadB hx.bs rfl 43 _ rfl rfl (encNote (NS (some ⟨w.heap.size + 5, 0, none⟩))) (whole_cells _) Tryz.underlying43 rfl (by kernel_rfl) ?_)
  | ((with_reducible refine at_dst 43 ?_); refine wpList_loadB hx.bg rfl 43 _ rfl rfl (encNote NG) (whole_cells _) Tryz.underlying43 rfl (by kernel_rfl) ?_)
  | ((with_reducible refine at_dst 49 ?_); refine wpList_loadB hx.bf rfl 43 _ rfl rfl (encNote (NF (some ⟨w.heap.size + 1, 0, none⟩) (some ⟨w.heap.size + 3, 0, none⟩))) (whole_cells _) Tryz.underlying43 rfl (by kernel_rfl) ?_)
  | ((with_reducible refine at_dst 50 ?_); refine wpList_loadB hx.bs rfl 43 _ rfl rfl (encNote (NS (some ⟨w.heap.size + 5, 0, none⟩))) (whole_cells _) Tryz.underlying43 rfl (by kernel_rfl) ?_)
  | ((with_reducible refine at_dst 51 ?_); refine wpList_loadB hx.bb rfl 43 _ rfl rfl (encNote NB) (whole_cells _) Tryz.underlying43 rfl (by kernel_rfl) ?_)
  | ((with_reducible refine at_dst 52 ?_); refine wpList_loadB hx.bg rfl 43 _ rfl rfl (encNote NG) (whole_cells _) Tryz.underlying43 rfl (by kernel_rfl) ?_)
  | ((with_reducible refine at_dst 36 ?_); refine wpList_lits (enc := encNote) (z0 := #[Value.int .i64 0, Value.int .i64 0, Value.int .i64 0, Value.int .i64 0, Value.int .i64 0, Value.int .i64 0, Value.int .i64 0, Value.int .i64 0, Value.int .i64 0, Value.int .i64 0, Value.int .i64 0, .bool false, Value.int .i64 0, Value.int .i64 0, Value.slice none 0 0, Value.slice none 0 0, Value.slice none 0 0, Value.int .i64 0, Value.int .i64 0, Value.int .i64 0, Value.int .i64 0, Value.int .i64 0, Value.int .i64 0, Value.int .i64 0, Value.slice none 0 0, Value.slice none 0 0, Value.int .i64 0, Value.int .i64 0, Value.slice none 0 0]) [(NF (some ⟨w.heap.size + 1, 0, none⟩) (some ⟨w.heap.size + 3, 0, none⟩)), (NS (some ⟨w.heap.size + 5, 0, none⟩))] rfl 44 _ _ rfl einfo_Note (by kernel_rfl) rfl (by decide) (fun _ => rfl) rfl (Nat.le_of_ble_eq_true rfl) (Nat.zero_lt_succ _) (by kernel_rfl) ?_; intro cs36 hcs36)
  | ((with_reducible refine at_dst 44 ?_); refine wpList_lits (enc := encNote) (z0 := #[Value.int .i64 0, Value.int .i64 0, Value.int .i64 0, Value.int .i64 0, Value.int .i64 0, Value.int .i64 0, Value.int .i64 0, Value.int .i64 0, Value.int .i64 0, Value.int .i64 0, Value.int .i64 0, .bool false, Value.int .i64 0, Value.int .i64 0, Value.slice none 0 0, Value.slice none 0 0, Value.slice none 0 0, Value.int .i64 0, Value.int .i64 0, Value.int .i64 0, Value.int .i64 0, Value.int .i64 0, Value.int .i64 0, Value.int .i64 0, Value.slice none 0 0, Value.slice none 0 0, Value.int .i64 0, Value.int .i64 0, Value.slice none 0 0]) [(NF (some ⟨w.heap.size + 1, 0, none⟩) (some ⟨w.heap.size + 3, 0, none⟩)), (NS (some ⟨w.heap.size + 5, 0, none⟩)), NG] rfl 44 _ _ rfl einfo_Note (by kernel_rfl) rfl (by decide) (fun _ => rfl) rfl (Nat.le_of_ble_eq_true rfl) (Nat.zero_lt_succ _) (by kernel_rfl) ?_; intro cs44 hcs44)
  | ((with_reducible refine at_dst 53 ?_); refine wpList_lits (enc := encNote) (z0 := #[Value.int .i64 0, Value.int .i64 0, Value.int .i64 0, Value.int .i64 0, Value.int .i64 0, Value.int .i64 0, Value.int .i64 0, Value.int .i64 0, Value.int .i64 0, Value.int .i64 0, Value.int .i64 0, .bool false, Value.int .i64 0, Value.int .i64 0, Value.slice none 0 0, Value.slice none 0 0, Value.slice none 0 0, Value.int .i64 0, Value.int .i64 0, Value.int .i64 0, Value.int .i64 0, Value.int .i64 0, Value.int .i64 0, Value.int .i64 0, Value.slice none 0 0, Value.slice none 0 0, Value.int .i64 0, Value.int .i64 0, Value.slice none 0 0]) [(NF (some ⟨w.heap.size + 1, 0, none⟩) (some ⟨w.heap.size + 3, 0, none⟩)), (NS (some ⟨w.heap.size + 5, 0, none⟩)), NB, NG] rfl 44 _ _ rfl einfo_Note (by kernel_rfl) rfl (by decide) (fun _ => rfl) rfl (Nat.le_of_ble_eq_true rfl) (Nat.zero_lt_succ _) (by kernel_rfl) ?_; intro cs53 hcs53)
  | (go_at_call 37; (with_reducible refine (fold_ex1 hx hcs36 (by simp [hs6])).mono ?_); rintro e v1 ⟨R1, b1, o1, c1, rfl, hv1, hbl1, hce1, hb1⟩; have hx := hx.below hb1; have hBx := hBx.trans (hb1.mono hBx.size))
  | (go_at_call 37; (with_reducible refine (fold_ex2 hx hcs44 rfl).mono ?_); rintro e v2 ⟨R2, b2, o2, c2, rfl, hv2, hbl2, hce2, hb2⟩; have hx := hx.below hb2; have hBx := hBx.trans (hb2.mono hBx.size))
  | (go_at_call 37; (with_reducible refine (fold_ex3 hx hcs53 rfl).mono ?_); rintro e v3 ⟨R3, b3, o3, c3, rfl, hv3, hbl3, hce3, ⟨b4, o4, c4, hv4, hbl4, hce4⟩, hb3⟩; have hx := hx.below hb3; have hBx := hBx.trans (hb3.mono hBx.size))
  | ((with_reducible refine at_storeTo 7 ?_); refine wpList_store_box (BoxAt.newN (n := v1.heap.size) _ _ _ rfl) rfl 100 _ _ rfl rfl (.agg (encRegister R1)) rfl (by kernel_rfl) rfl (one_agg (encRegister_one _)) ?_; intro u1 hq1 hT1; have hr1 := hq1.eqv (splice_whole _ (encRegister R1) rfl); have hBr1 : Below v1.heap.size v1 u1 := ((Below.refl _ _).alloc (Nat.le_refl _) _).trans (hT1.below (Nat.le_refl _)); have hx := hx.below hBr1; have hBx := hBx.trans (hBr1.mono hBx.size); have hC1 : Cells u1 [(v1.heap.size, 1, .slice (some ⟨b1, o1, none⟩) 1 c1), (b1, o1 + 5, vi 1), (b1, o1 + 6, vi 2)] := ⟨fun p hp => by (simp only [List.mem_cons, List.not_mem_nil, or_false] at hp; rcases hp with rfl | rfl | rfl; exact ⟨hr1.lt, (hr1.cell 1).trans (congrArg some hv1)⟩; exact ⟨Nat.lt_of_lt_of_le hbl1 hBr1.size, (hBr1.cell (p := ⟨b1, _, none⟩) hbl1).trans (hce1 5 (by decide))⟩; exact ⟨Nat.lt_of_lt_of_le hbl1 hBr1.size, (hBr1.cell (p := ⟨b1, _, none⟩) hbl1).trans (hce1 6 (by decide))⟩)⟩; clear hq1 hT1)
  | ((with_reducible refine at_storeTo 9 ?_); refine wpList_store_box (BoxAt.newN (n := v2.heap.size) _ _ _ rfl) rfl 100 _ _ rfl rfl (.agg (encRegister R2)) rfl (by kernel_rfl) rfl (one_agg (encRegister_one _)) ?_; intro u2 hq2 hT2; have hr2 := hq2.eqv (splice_whole _ (encRegister R2) rfl); have hBr2 : Below v2.heap.size v2 u2 := ((Below.refl _ _).alloc (Nat.le_refl _) _).trans (hT2.below (Nat.le_refl _)); have hx := hx.below hBr2; have hBx := hBx.trans (hBr2.mono hBx.size); have hC2 : Cells u2 [(v2.heap.size, 1, .slice (some ⟨b2, o2, none⟩) 1 c2), (b2, o2 + 2, vi 2)] := ⟨fun p hp => by (simp only [List.mem_cons, List.not_mem_nil, or_false] at hp; rcases hp with rfl | rfl; exact ⟨hr2.lt, (hr2.cell 1).trans (congrArg some hv2)⟩; exact ⟨Nat.lt_of_lt_of_le hbl2 hBr2.size, (hBr2.cell (p := ⟨b2, _, none⟩) hbl2).trans (hce2 2 (by decide))⟩)⟩; have hC1 := (hC1.below hb2).below hBr2; clear hq2 hT2)
  | ((with_reducible refine at_storeTo 11 ?_); refine wpList_store_box (BoxAt.newN (n := v3.heap.size) _ _ _ rfl) rfl 100 _ _ rfl rfl (.agg (encRegister R3)) rfl (by kernel_rfl) rfl (one_agg (encRegister_one _)) ?_; intro u3 hq3 hT3; have hr3 := hq3.eqv (splice_whole _ (encRegister R3) rfl); have hBr3 : Below v3.heap.size v3 u3 := ((Below.refl _ _).alloc (Nat.le_refl _) _).trans (hT3.below (Nat.le_refl _)); have hx := hx.below hBr3; have hBx := hBx.trans (hBr3.mono hBx.size); have hC3 : Cells u3 [(v3.heap.size, 1, .slice (some ⟨b3, o3, none⟩) 1 c3), (b3, o3 + 2, vi 1), (v3.heap.size, 5, .slice (some ⟨b4, o4, none⟩) 1 c4), (b4, o4, vi 2), (b4, o4 + 1, vi 1)] := ⟨fun p hp => by (simp only [List.mem_cons, List.not_mem_nil, or_false] at hp; rcases hp with rfl | rfl | rfl | rfl | rfl; exact ⟨hr3.lt, (hr3.cell 1).trans (congrArg some hv3)⟩; exact ⟨Nat.lt_of_lt_of_le hbl3 hBr3.size, (hBr3.cell (p := ⟨b3, _, none⟩) hbl3).trans (hce3 2 (by decide))⟩; exact ⟨hr3.lt, (hr3.cell 5).trans (congrArg some hv4)⟩; exact ⟨Nat.lt_of_lt_of_le hbl4 hBr3.size, (hBr3.cell (p := ⟨b4, _, none⟩) hbl4).trans (hce4 0 (by decide))⟩; exact ⟨Nat.lt_of_lt_of_le hbl4 hBr3.size, (hBr3.cell (p := ⟨b4, _, none⟩) hbl4).trans (hce4 1 (by decide))⟩)⟩; have hC1 := (hC1.below hb3).below hBr3; have hC2 := (hC2.below hb3).below hBr3; have hCC := hC1.app (hC2.app hC3); have g1 := hCC.get 0 _ rfl; have g2 := hCC.get 3 _ rfl; have g3 := hCC.get 5 _ rfl; have g4 := hCC.get 7 _ rfl; have HFR := Lib.hid (frame_7 (u3.alloc (.cells #[.int .u8 7] 5)) u3.heap.size 0 1 (by simp) (Nat.le_refl _) ((BoxAt.new u3 _ _).cell 0)); clear hq3 hT3)
  | (go_at_call 38; (with_reducible refine HFR.out.mono ?_); rintro e v5 ⟨fv, rfl, hfo, hfb⟩; have hfb5 : Below u3.heap.size u3 v5 := ((Below.refl _ _).alloc (Nat.le_refl _) _).trans (hfb.mono (by simp)); have hCC := hCC.below hfb5; have hBx := hBx.trans (hfb5.mono hBx.size); have g1 := hCC.get 0 _ rfl; have g2 := hCC.get 3 _ rfl; have g3 := hCC.get 5 _ rfl; have g4 := hCC.get 7 _ rfl; have g5 := hCC.get 4 _ rfl; have g6 := hCC.get 6 _ rfl; have g7 := hCC.get 1 _ rfl; have g8 := hCC.get 2 _ rfl; have g9 := hCC.get 8 _ rfl; have g10 := hCC.get 9 _ rfl; obtain ⟨fa, fc, rfl⟩ := hfo.shape; obtain ⟨fb, rfl, hcv⟩ := bytes_string hfo)
  | ((with_reducible refine at_dst 100 ?_); refine wpList_loadC rfl 34 _ rfl rfl (b := b1) (off := o1 + 5) #[vi 1, vi 2] (fun j hj => by (have hj : j < 2 := hj; rcases j with _ | _ | j; exact g7; exact g8; omega)) Tryz.underlying34 rfl (by kernel_rfl) ?_)
  | ((with_reducible refine at_dst 123 ?_); refine wpList_loadC rfl 34 _ rfl rfl (b := b4) (off := o4) #[vi 2, vi 1] (fun j hj => by (have hj : j < 2 := hj; rcases j with _ | _ | j; exact g9; exact g10; omega)) Tryz.underlying34 rfl (by kernel_rfl) ?_))
 go_ret
 exact ⟨by simp, hBx⟩
end Go.Proofs.YtnmgfnpphglphaaGreat
end
