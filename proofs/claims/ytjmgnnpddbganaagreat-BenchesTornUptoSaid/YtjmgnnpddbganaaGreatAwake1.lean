/-
  The three examples folded, wherever their notes lie.
-/
import Derived.Test.YtjmgnnpddbganaaGreatAwake0
import Derived.Test.YtjmgnnpddbganaaGreatBytesW
import Derived.Test.YtjmgnnpddbganaaGreatLits
set_option maxHeartbeats 16000000
set_option maxRecDepth 100000
set_option linter.unusedVariables false
set_option linter.unusedSimpArgs false
namespace Go.Proofs.YtjmgnnpddbganaaGreat
open Go.RowKit
def noteOf (bench num clock year kind to : Int) (ref : Ref) (pieces : Sl Int) (data : Sl Piece) : Note :=
 ⟨bench, num, clock, year, kind, 0, 0, 0, 0, to, ⟨0, false⟩, ref, pieces, Sl.nil, data, zItem⟩
def pieceN (a : Option Addr) : Piece := ⟨9, 1, 1, 0, 0, ⟨a, 4, [gG, gG, gG, gG]⟩, Sl.nil⟩
def NF (a d : Option Addr) : Note := noteOf 1 1 1 1900 1 0 ⟨0, 0⟩ Sl.nil ⟨d, 1, [pieceN a]⟩
def NS (a : Option Addr) : Note := noteOf 1 2 2 1901 4 2 ⟨0, 0⟩ ⟨a, 1, [9]⟩ Sl.nil
def NG : Note := noteOf 2 1 3 1901 5 0 ⟨1, 2⟩ Sl.nil Sl.nil
def NB : Note := noteOf 1 3 4 1902 10 0 ⟨1, 2⟩ Sl.nil Sl.nil
theorem set1 (a d f : Option Addr) : isSetB [NF a d, NS f] = true := by kernel_rfl
theorem set2 (a d f : Option Addr) : isSetB [NF a d, NS f, NG] = true := by kernel_rfl
theorem set3 (a d f : Option Addr) : isSetB [NF a d, NS f, NB, NG] = true := by kernel_rfl
theorem abs1 (a d f : Option Addr) : [NF a d, NS f].map Note.abs = ex1 := rfl
theorem abs2 (a d f : Option Addr) : [NF a d, NS f, NG].map Note.abs = ex2 := rfl
theorem abs3 (a d f : Option Addr) : [NF a d, NS f, NB, NG].map Note.abs = ex3 := rfl
theorem nod1 (a d f : Option Addr) : ([NF a d, NS f].map refN).Nodup := by simp [NF, NS, noteOf, refN]
theorem nod2 (a d f : Option Addr) : ([NF a d, NS f, NG].map refN).Nodup := by simp [NF, NS, NG, noteOf, refN]
theorem nod3 (a d f : Option Addr) : ([NF a d, NS f, NB, NG].map refN).Nodup := by simp [NF, NS, NG, NB, noteOf, refN]
theorem splice_whole (cs vs : Array Value) (h : cs.size = vs.size) : splice cs 0 vs.toList = vs := by
 apply Array.ext_getElem?
 intro i
 rw [splice_get _ _ _ _ (by simp [h])]
 by_cases hi : i < vs.size
 ·rw [if_pos (by simp; omega)]; simp
 ·rw [if_neg (by simp; omega), Array.getElem?_eq_none (by omega), Array.getElem?_eq_none (by omega)]
def Stop (p : Prop) : Prop := p
theorem at_storeTo (k : Nat) {P : Program} {ops : Array Oper} {rest : List Oper} {tt : TypeId} {y : Operand} {ty : TypeId} {pos : String} {af : Array Edge} {g : Option (Nat × Bool)} {a : Act} {w : World} {Q : Exit → Act → World → Prop}
  (h : wpList P ops Q (⟨none, .store tt (.tmp k) y, ty, pos, af, g⟩ :: rest) a w) : wpList P ops Q (⟨none, .store tt (.tmp k) y, ty, pos, af, g⟩ :: rest) a w := h
theorem Sl.OK.ofBox {α : Type} {enc : α → Array Value} {sz b : Nat} {T : TypeId} {cs : Array Value} {w : World} {ok : (Nat → Prop) → World → α → Prop} {D : Nat → Prop} (l : List α) (hsz : ∀ x, (enc x).size = sz) (hb : BoxAt w b T cs) (hcs : cs.toList = flat enc l) (hl : l.length ≤ 4294967296) (hD : ¬ D b) (hok : ∀ x ∈ l, ok D w x) :
  Sl.OK sz enc ok D w ⟨some ⟨b, 0, none⟩, l.length, l⟩ := by
 refine ⟨Nat.le_refl _, hl, by simp, fun p hp _ => ?_, hok, fun b' o' ha i x hi j hj => ?_⟩
 ·simp at hp; subst hp; exact ⟨rfl, hD, hb.lt⟩
 ·simp at ha; obtain ⟨rfl, rfl⟩ := ha
  rw [hb.cell, Nat.zero_add, ← flat_at (enc := enc) hsz l i x hi j hj, ← hcs]
  simp
structure Cells (W : World) (l : List (Nat × Nat × Value)) : Prop where
 all : ∀ p ∈ l, p.1 < W.heap.size ∧ W.cell? ⟨p.1, p.2.1, none⟩ = some p.2.2
theorem Cells.below {W W' : World} {l : List (Nat × Nat × Value)} (h : Cells W l) (hb : Below W.heap.size W W') : Cells W' l :=
 ⟨fun p hp => ⟨Nat.lt_of_lt_of_le (h.all p hp).1 hb.size, (hb.cell (p := ⟨p.1, p.2.1, none⟩) (h.all p hp).1).trans (h.all p hp).2⟩⟩
theorem Cells.get {W : World} {l : List (Nat × Nat × Value)} (h : Cells W l) (i : Nat) (p : Nat × Nat × Value) (hp : l[i]? = some p) : W.cell? ⟨p.1, p.2.1, none⟩ = some p.2.2 := (h.all p (List.mem_of_getElem? hp)).2
theorem Cells.app {W : World} {l l' : List (Nat × Nat × Value)} (h : Cells W l) (h' : Cells W l') : Cells W (l ++ l') := ⟨fun p hp => (List.mem_append.1 hp).elim (h.all p) (h'.all p)⟩
structure ExAt (h : Nat) (W : World) : Prop where
 le : h + 9 ≤ W.heap.size
 bf : BoxAt W (h + 4) 50 (encNote (NF (some ⟨h + 1, 0, none⟩) (some ⟨h + 3, 0, none⟩)))
 bs : BoxAt W (h + 6) 50 (encNote (NS (some ⟨h + 5, 0, none⟩)))
 bg : BoxAt W (h + 7) 50 (encNote NG)
 bb : BoxAt W (h + 8) 50 (encNote NB)
 of : okNote (fun _ => False) W (NF (some ⟨h + 1, 0, none⟩) (some ⟨h + 3, 0, none⟩))
 os : okNote (fun _ => False) W (NS (some ⟨h + 5, 0, none⟩))
 og : okNote (fun _ => False) W NG
 ob : okNote (fun _ => False) W NB
theorem ExAt.below {h : Nat} {W W' : World} (x : ExAt h W) (hb : Below W.heap.size W W') : ExAt h W' :=
 ⟨Nat.le_trans x.le hb.size, x.bf.belowAll hb, x.bs.belowAll hb, x.bg.belowAll hb, x.bb.belowAll hb, okNote.ext x.of (.of_below hb), okNote.ext x.os (.of_below hb), okNote.ext x.og (.of_below hb), okNote.ext x.ob (.of_below hb)⟩
theorem I64_small (x : Int) (h0 : 0 ≤ x) (h1 : x ≤ 10000) : I64 x := by unfold I64; omega
theorem ExAt.mk' {h : Nat} {W : World} {cs22 cs25 : Array Value} (le : h + 9 ≤ W.heap.size) (bf : BoxAt W (h + 4) 50 (encNote (NF (some ⟨h + 1, 0, none⟩) (some ⟨h + 3, 0, none⟩)))) (bs : BoxAt W (h + 6) 50 (encNote (NS (some ⟨h + 5, 0, none⟩)))) (bg : BoxAt W (h + 7) 50 (encNote NG)) (bb : BoxAt W (h + 8) 50 (encNote NB))
  (bgs : BoxAt W (h + 1) 65 cs22) (hc22 : cs22.toList = flat encGauge [gG, gG, gG, gG]) (bps : BoxAt W (h + 3) 69 cs25) (hc25 : cs25.toList = flat encPiece [pieceN (some ⟨h + 1, 0, none⟩)]) (bis : BoxAt W (h + 5) 3 #[.int .i64 9]) : ExAt h W := by
 have z := I64_zero
 have z1 := I64_small 1 (by decide) (by decide)
 have z2 := I64_small 2 (by decide) (by decide)
 have z3 := I64_small 3 (by decide) (by decide)
 have z4 := I64_small 4 (by decide) (by decide)
 have z5 := I64_small 5 (by decide) (by decide)
 have z9 := I64_small 9 (by decide) (by decide)
 have z10 := I64_small 10 (by decide) (by decide)
 have y0 := I64_small 1900 (by decide) (by decide)
 have y1 := I64_small 1901 (by decide) (by decide)
 have y2 := I64_small 1902 (by decide) (by decide)
 have hg : Sl.OK 5 encGauge okGauge (fun _ => False) W ⟨some ⟨h + 1, 0, none⟩, 4, [gG, gG, gG, gG]⟩ :=
  Sl.OK.ofBox (enc := encGauge) (T := 65) (cs := cs22) [gG, gG, gG, gG] (fun _ => rfl) bgs hc22 (by decide) (fun h => h) (fun x hx => by
   simp only [List.mem_cons, List.not_mem_nil, or_false, or_self] at hx
   subst hx
   exact ⟨z1, z1, z2, z2, z1⟩)
 have hp : okPiece (fun _ => False) W (pieceN (some ⟨h + 1, 0, none⟩)) := ⟨z9, z1, z1, z, z, hg, Sl.OK.nil _ _ _ _ _⟩
 have hps : Sl.OK 7 encPiece okPiece (fun _ => False) W ⟨some ⟨h + 3, 0, none⟩, 1, [pieceN (some ⟨h + 1, 0, none⟩)]⟩ :=
  Sl.OK.ofBox (enc := encPiece) (T := 69) (cs := cs25) [pieceN (some ⟨h + 1, 0, none⟩)] (fun _ => rfl) bps hc25 (Nat.le_of_ble_eq_true rfl) (fun h => h) (fun x hx => by rw [List.mem_singleton.1 hx]; exact hp)
 have his : Sl.OK 1 encInt okInt (fun _ => False) W ⟨some ⟨h + 5, 0, none⟩, 1, [9]⟩ :=
  Sl.OK.ofBox (enc := encInt) (T := 3) (cs := #[.int .i64 9]) [9] (fun _ => rfl) bis rfl (by decide) (fun h => h) (fun x hx => by rw [List.mem_singleton.1 hx]; exact z9)
 have hn : ∀ {α : Type} (sz : Nat) (e : α → Array Value) (ok : (Nat → Prop) → World → α → Prop), Sl.OK sz e ok (fun _ => False) W Sl.nil := fun _ _ _ => Sl.OK.nil _ _ _ _ _
 refine ⟨le, bf, bs, bg, bb, ?_, ?_, ?_, ?_⟩
 all_goals simp only [okNote, NF, NS, NG, NB, noteOf, zItem]
 all_goals simp only [z, z1, z2, z3, z4, z5, z10, y0, y1, y2, hn, hps, his, and_self]
theorem fold_ex1 {h n : Nat} {W : World} {cs : Array Value} (x : ExAt h W) (hcs : cs.toList = flat encNote [NF (some ⟨h + 1, 0, none⟩) (some ⟨h + 3, 0, none⟩), NS (some ⟨h + 5, 0, none⟩)]) (hn : n = W.heap.size) :
  Calls Tryz.prog 28 #[.slice (some ⟨n, 0, none⟩) 2 2] (W.alloc (.cells cs 50)) fun e w' => ∃ (R : Register) (b o c : Nat), e = .returned (.tuple #[.agg (encRegister R), .int .i64 0]) ∧ R.wher.v = .slice (some ⟨b, o, none⟩) 1 c ∧ b < w'.heap.size ∧
   (∀ j, j < 7 → w'.cell? ⟨b, o + j, none⟩ = (encWhere ⟨9, 2, 0, ⟨0, false⟩, ⟨1, 2⟩⟩)[j]?) ∧ Below W.heap.size W w' := by
 subst hn
 have hB : Below W.heap.size W (W.alloc (.cells cs 50)) := (Below.refl _ _).alloc (Nat.le_refl _) _
 have hs : Sl.OK 29 encNote okNote (fun _ => False) (W.alloc (.cells cs 50)) ⟨some ⟨W.heap.size, 0, none⟩, 2, [NF (some ⟨h + 1, 0, none⟩) (some ⟨h + 3, 0, none⟩), NS (some ⟨h + 5, 0, none⟩)]⟩ :=
  Sl.OK.ofBox (enc := encNote) (T := 50) (cs := cs) _ (fun _ => rfl) (BoxAt.new _ _ _) hcs (Nat.le_of_ble_eq_true rfl) (fun h => h) (fun y hy => by
   simp only [List.mem_cons, List.not_mem_nil, or_false] at hy
   rcases hy with rfl | rfl
   ·exact okNote.ext x.of (.of_below hB)
   ·exact okNote.ext x.os (.of_below hB))
 refine (fold_any enters_145 (fun _ => False) ⟨some ⟨W.heap.size, 0, none⟩, 2, [NF (some ⟨h + 1, 0, none⟩) (some ⟨h + 3, 0, none⟩), NS (some ⟨h + 5, 0, none⟩)]⟩ _ hs (set1 _ _ _) (Nat.le_of_ble_eq_true rfl) (nod1 _ _ _) (by rw [abs1]; exact p1) (by rw [abs1]; exact small1) (by rw [abs1, eff1]; decide) (by rw [abs1, dang1]; decide)).mono ?_
 rintro e w' ⟨R, rfl, hRa, hRo, hb⟩
 rw [abs1] at hRa
 have hw : R.wher.val = [⟨9, 2, 0, ⟨0, false⟩, ⟨1, 2⟩⟩] := by have h1 := congrArg RegisterA.wher hRa; rw [where1] at h1; exact h1
 obtain ⟨b, o, ha, hbl, _, _, hcell⟩ := hRo.2.1.at (i := 0) (by rw [hw]; rfl)
 refine ⟨R, b, o, R.wher.cap, rfl, by unfold Sl.v; rw [ha, hw]; rfl, hbl, fun j hj => by simpa using hcell j hj, hB.trans (hb.mono (by simp))⟩
theorem fold_ex2 {h n : Nat} {W : World} {cs : Array Value} (x : ExAt h W) (hcs : cs.toList = flat encNote [NF (some ⟨h + 1, 0, none⟩) (some ⟨h + 3, 0, none⟩), NS (some ⟨h + 5, 0, none⟩), NG]) (hn : n = W.heap.size) :
  Calls Tryz.prog 28 #[.slice (some ⟨n, 0, none⟩) 3 3] (W.alloc (.cells cs 50)) fun e w' => ∃ (R : Register) (b o c : Nat), e = .returned (.tuple #[.agg (encRegister R), .int .i64 0]) ∧ R.wher.v = .slice (some ⟨b, o, none⟩) 1 c ∧ b < w'.heap.size ∧
   (∀ j, j < 7 → w'.cell? ⟨b, o + j, none⟩ = (encWhere ⟨9, 1, 2, ⟨0, false⟩, ⟨0, 0⟩⟩)[j]?) ∧ Below W.heap.size W w' := by
 subst hn
 have hB : Below W.heap.size W (W.alloc (.cells cs 50)) := (Below.refl _ _).alloc (Nat.le_refl _) _
 have hs : Sl.OK 29 encNote okNote (fun _ => False) (W.alloc (.cells cs 50)) ⟨some ⟨W.heap.size, 0, none⟩, 3, [NF (some ⟨h + 1, 0, none⟩) (some ⟨h + 3, 0, none⟩), NS (some ⟨h + 5, 0, none⟩), NG]⟩ :=
  Sl.OK.ofBox (enc := encNote) (T := 50) (cs := cs) _ (fun _ => rfl) (BoxAt.new _ _ _) hcs (Nat.le_of_ble_eq_true rfl) (fun h => h) (fun y hy => by
   simp only [List.mem_cons, List.not_mem_nil, or_false] at hy
   rcases hy with rfl | rfl | rfl
   ·exact okNote.ext x.of (.of_below hB)
   ·exact okNote.ext x.os (.of_below hB)
   ·exact okNote.ext x.og (.of_below hB))
 refine (fold_any enters_145 (fun _ => False) ⟨some ⟨W.heap.size, 0, none⟩, 3, [NF (some ⟨h + 1, 0, none⟩) (some ⟨h + 3, 0, none⟩), NS (some ⟨h + 5, 0, none⟩), NG]⟩ _ hs (set2 _ _ _) (Nat.le_of_ble_eq_true rfl) (nod2 _ _ _) (by rw [abs2]; exact p2) (by rw [abs2]; exact small2) (by rw [abs2, eff2]; decide) (by rw [abs2, dang2]; decide)).mono ?_
 rintro e w' ⟨R, rfl, hRa, hRo, hb⟩
 rw [abs2] at hRa
 have hw : R.wher.val = [⟨9, 1, 2, ⟨0, false⟩, ⟨0, 0⟩⟩] := by have h1 := congrArg RegisterA.wher hRa; rw [where2] at h1; exact h1
 obtain ⟨b, o, ha, hbl, _, _, hcell⟩ := hRo.2.1.at (i := 0) (by rw [hw]; rfl)
 refine ⟨R, b, o, R.wher.cap, rfl, by unfold Sl.v; rw [ha, hw]; rfl, hbl, fun j hj => by simpa using hcell j hj, hB.trans (hb.mono (by simp))⟩
theorem fold_ex3 {h n : Nat} {W : World} {cs : Array Value} (x : ExAt h W) (hcs : cs.toList = flat encNote [NF (some ⟨h + 1, 0, none⟩) (some ⟨h + 3, 0, none⟩), NS (some ⟨h + 5, 0, none⟩), NB, NG]) (hn : n = W.heap.size) :
  Calls Tryz.prog 28 #[.slice (some ⟨n, 0, none⟩) 4 4] (W.alloc (.cells cs 50)) fun e w' => ∃ (R : Register) (b o c : Nat), e = .returned (.tuple #[.agg (encRegister R), .int .i64 0]) ∧ R.wher.v = .slice (some ⟨b, o, none⟩) 1 c ∧ b < w'.heap.size ∧
   (∀ j, j < 7 → w'.cell? ⟨b, o + j, none⟩ = (encWhere ⟨9, 1, 1, ⟨0, false⟩, ⟨0, 0⟩⟩)[j]?) ∧ (∃ b2 o2 c2, R.conflicts.v = .slice (some ⟨b2, o2, none⟩) 1 c2 ∧ b2 < w'.heap.size ∧ (∀ j, j < 2 → w'.cell? ⟨b2, o2 + j, none⟩ = (encRef ⟨2, 1⟩)[j]?)) ∧ Below W.heap.size W w' := by
 subst hn
 have hB : Below W.heap.size W (W.alloc (.cells cs 50)) := (Below.refl _ _).alloc (Nat.le_refl _) _
 have hs : Sl.OK 29 encNote okNote (fun _ => False) (W.alloc (.cells cs 50)) ⟨some ⟨W.heap.size, 0, none⟩, 4, [NF (some ⟨h + 1, 0, none⟩) (some ⟨h + 3, 0, none⟩), NS (some ⟨h + 5, 0, none⟩), NB, NG]⟩ :=
  Sl.OK.ofBox (enc := encNote) (T := 50) (cs := cs) _ (fun _ => rfl) (BoxAt.new _ _ _) hcs (Nat.le_of_ble_eq_true rfl) (fun h => h) (fun y hy => by
   simp only [List.mem_cons, List.not_mem_nil, or_false] at hy
   rcases hy with rfl | rfl | rfl | rfl
   ·exact okNote.ext x.of (.of_below hB)
   ·exact okNote.ext x.os (.of_below hB)
   ·exact okNote.ext x.ob (.of_below hB)
   ·exact okNote.ext x.og (.of_below hB))
 refine (fold_any enters_145 (fun _ => False) ⟨some ⟨W.heap.size, 0, none⟩, 4, [NF (some ⟨h + 1, 0, none⟩) (some ⟨h + 3, 0, none⟩), NS (some ⟨h + 5, 0, none⟩), NB, NG]⟩ _ hs (set3 _ _ _) (Nat.le_of_ble_eq_true rfl) (nod3 _ _ _) (by rw [abs3]; exact p3) (by rw [abs3]; exact small3) (by rw [abs3, eff3]; decide) (by rw [abs3, dang3]; decide)).mono ?_
 rintro e w' ⟨R, rfl, hRa, hRo, hb⟩
 rw [abs3] at hRa
 have hw : R.wher.val = [⟨9, 1, 1, ⟨0, false⟩, ⟨0, 0⟩⟩] := by have h1 := congrArg RegisterA.wher hRa; rw [where3] at h1; exact h1
 obtain ⟨b, o, ha, hbl, _, _, hcell⟩ := hRo.2.1.at (i := 0) (by rw [hw]; rfl)
 refine ⟨R, b, o, R.wher.cap, rfl, by unfold Sl.v; rw [ha, hw]; rfl, hbl, fun j hj => by simpa using hcell j hj, (by
  have hw2 : R.conflicts.val = [⟨2, 1⟩] := by have h1 := congrArg RegisterA.conflicts hRa; rw [conf3] at h1; exact h1
  obtain ⟨b2, o2, ha2, hbl2, _, _, hcell2⟩ := hRo.2.2.2.2.2.at (i := 0) (by rw [hw2]; rfl)
  exact ⟨b2, o2, R.conflicts.cap, by unfold Sl.v; rw [ha2, hw2]; rfl, hbl2, fun j hj => by simpa using hcell2 j hj⟩), hB.trans (hb.mono (by simp))⟩
end Go.Proofs.YtjmgnnpddbganaaGreat
