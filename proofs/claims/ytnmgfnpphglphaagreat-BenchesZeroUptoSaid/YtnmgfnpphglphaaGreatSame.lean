/-
  Two pieces, two items, two notes are equal: walked.
  slices.EqualFunc at samePiece, walked.
-/
import Derived.Test.YtnmgfnpphglphaaGreatNotes2
import Derived.Deep.QuietTactic
import Derived.BigQuiet
set_option maxHeartbeats 16000000
set_option maxRecDepth 100000
section
set_option linter.unusedVariables false
set_option linter.unusedSimpArgs false
namespace Go.Proofs.YtnmgfnpphglphaaGreat
open Go.RowKit
theorem Below.call {n : Nat} {w W w1 : World} (h0 : Below n w W) (hb : Below W.heap.size W w1) (hn : n ≤ w.heap.size) : Below n w w1 := h0.trans (hb.mono (Nat.le_trans hn h0.size))
theorem samePiece_any (D : Nat → Prop) (a b : Piece) (w : World) (ha : okPiece D w a) (hb : okPiece D w b) :
  Calls Tryz.prog 122 #[.agg (encPiece a), .agg (encPiece b)] w fun e w' => e = .returned (.bool (decide (a.abs = b.abs))) ∧ Below w.heap.size w w' := by
 have HG : Hid (∀ W, Below w.heap.size w W → Calls Tryz.prog 172 #[.slice a.gauges.a a.gauges.val.length a.gauges.cap, .slice b.gauges.a b.gauges.val.length b.gauges.cap] W fun e w' => e = .returned (.bool (decide (a.gauges.val = b.gauges.val))) ∧ Below W.heap.size W w') := Lib.hid fun W hW => equal_Gauge D a.gauges b.gauges W ((okPiece.ext ha (.of_below hW)).2.2.2.2.2.1) ((okPiece.ext hb (.of_below hW)).2.2.2.2.2.1)
 have HM : Hid (∀ W, Below w.heap.size w W → Calls Tryz.prog 173 #[.slice a.marks.a a.marks.val.length a.marks.cap, .slice b.marks.a b.marks.val.length b.marks.cap] W fun e w' => e = .returned (.bool (decide (a.marks.val = b.marks.val))) ∧ Below W.heap.size W w') := Lib.hid fun W hW => equal_Mark D a.marks b.marks W ((okPiece.ext ha (.of_below hW)).2.2.2.2.2.2) ((okPiece.ext hb (.of_below hW)).2.2.2.2.2.2)
 have HE : Hid (decide (a.abs = b.abs) = (decide (a.id = b.id) && (decide (a.colour = b.colour) && (decide (a.reverse = b.reverse) && (decide (a.made = b.made) && (decide (a.swell = b.swell) && (decide (a.gauges.val = b.gauges.val) && decide (a.marks.val = b.marks.val)))))))) := Lib.hid (by
  rw [Bool.eq_iff_iff]; simp [Piece.abs])
 clear ha hb
 by_cases hg : a.gauges.val = b.gauges.val
 ·by_cases hm : a.marks.val = b.marks.val
  ·simp only [hg, hm, decide_true] at HG HM HE
   go_enter Tryz.func122, Tryz.ntmps122
   go_wp2_with (first
    | (go_at_call 172; refine (HG.out _ (by first | exact (((Below.refl _ _).alloc (Nat.le_refl _) _).alloc (by simp) _) | exact Below.refl _ _)).mono ?_; rintro e w1 ⟨rfl, hb1⟩; have hB1 := Below.call (((Below.refl _ _).alloc (Nat.le_refl _) _).alloc (by simp) _) hb1 (Nat.le_refl _); have hE1 : ∀ o', w1.cell? ⟨w.heap.size, o', none⟩ = _ := fun o' => hb1.cell (p := ⟨w.heap.size, o', none⟩) (by simp; omega); have hE2 : ∀ o', w1.cell? ⟨w.heap.size + 1, o', none⟩ = _ := fun o' => hb1.cell (p := ⟨w.heap.size + 1, o', none⟩) (by simp))
    | (go_at_call 173; refine (HM.out _ hB1).mono ?_; rintro e w2 ⟨rfl, hb2⟩; have hB2 := Below.call hB1 hb2 (Nat.le_refl _)))
   all_goals go_ret
   all_goals first
    | exact ⟨by simp [HE.out, *], hB2⟩
    | exact ⟨by simp [HE.out, *], hB1⟩
    | exact ⟨by simp [HE.out, *], ((Below.refl _ _).alloc (Nat.le_refl _) _).alloc (by simp) _⟩
  ·simp only [hg, hm, decide_true, decide_false] at HG HM HE
   go_enter Tryz.func122, Tryz.ntmps122
   go_wp2_with (first
    | (go_at_call 172; refine (HG.out _ (by first | exact (((Below.refl _ _).alloc (Nat.le_refl _) _).alloc (by simp) _) | exact Below.refl _ _)).mono ?_; rintro e w1 ⟨rfl, hb1⟩; have hB1 := Below.call (((Below.refl _ _).alloc (Nat.le_refl _) _).alloc (by simp) _) hb1 (Nat.le_refl _); have hE1 : ∀ o', w1.cell? ⟨w.heap.size, o', none⟩ = _ := fun o' => hb1.cell (p := ⟨w.heap.size, o', none⟩) (by simp; omega); have hE2 : ∀ o', w1.cell? ⟨w.heap.size + 1, o', none⟩ = _ := fun o' => hb1.cell (p := ⟨w.heap.size + 1, o', none⟩) (by simp))
    | (go_at_call 173; refine (HM.out _ hB1).mono ?_; rintro e w2 ⟨rfl, hb2⟩; have hB2 := Below.call hB1 hb2 (Nat.le_refl _)))
   all_goals go_ret
   all_goals first
    | exact ⟨by simp [HE.out, *], hB2⟩
    | exact ⟨by simp [HE.out, *], hB1⟩
    | exact ⟨by simp [HE.out, *], ((Below.refl _ _).alloc (Nat.le_refl _) _).alloc (by simp) _⟩
 ·simp only [hg, decide_false] at HG HE
  go_enter Tryz.func122, Tryz.ntmps122
  go_wp2_with (first
   | (go_at_call 172; refine (HG.out _ (by first | exact (((Below.refl _ _).alloc (Nat.le_refl _) _).alloc (by simp) _) | exact Below.refl _ _)).mono ?_; rintro e w1 ⟨rfl, hb1⟩; have hB1 := Below.call (((Below.refl _ _).alloc (Nat.le_refl _) _).alloc (by simp) _) hb1 (Nat.le_refl _); have hE1 : ∀ o', w1.cell? ⟨w.heap.size, o', none⟩ = _ := fun o' => hb1.cell (p := ⟨w.heap.size, o', none⟩) (by simp; omega); have hE2 : ∀ o', w1.cell? ⟨w.heap.size + 1, o', none⟩ = _ := fun o' => hb1.cell (p := ⟨w.heap.size + 1, o', none⟩) (by simp))
   | (go_at_call 173; refine (HM.out _ hB1).mono ?_; rintro e w2 ⟨rfl, hb2⟩; have hB2 := Below.call hB1 hb2 (Nat.le_refl _)))
  all_goals go_ret
  all_goals first
   | exact ⟨by simp [HE.out, *], hB2⟩
   | exact ⟨by simp [HE.out, *], hB1⟩
   | exact ⟨by simp [HE.out, *], ((Below.refl _ _).alloc (Nat.le_refl _) _).alloc (by simp) _⟩
end Go.Proofs.YtnmgfnpphglphaaGreat
end
section
set_option linter.unusedVariables false
set_option linter.unusedSimpArgs false
namespace Go.Proofs.YtnmgfnpphglphaaGreat
open Go.RowKit
theorem cells_new (w : World) (cs : Array Value) (t : TypeId) : ∀ j, j < cs.size → (w.alloc (.cells cs t)).cell? ⟨w.heap.size, 0 + j, none⟩ = cs[j]? := fun j hj => by
 simp only [World.cell?, (MapKept.heap_alloc w _).1]; simp
theorem cells_new2 (w : World) (cs : Array Value) (t : TypeId) (ob : Obj) : ∀ j, j < cs.size → ((w.alloc (.cells cs t)).alloc ob).cell? ⟨w.heap.size, 0 + j, none⟩ = cs[j]? := fun j hj => by
 have : ((w.alloc (.cells cs t)).alloc ob).heap[w.heap.size]? = (w.alloc (.cells cs t)).heap[w.heap.size]? := (MapKept.heap_alloc (w.alloc (.cells cs t)) ob).2 _ (by simp)
 rw [World.cell?_of_block (w := w.alloc (.cells cs t)) this]
 exact cells_new w cs t j hj
theorem at_dst (n : Nat) {P : Program} {ops : Array Oper} {rest : List Oper} {op : Op} {ty : TypeId} {pos : String} {af : Array Edge} {g : Option (Nat × Bool)} {a : Act} {w : World} {Q : Exit → Act → World → Prop}
  (h : wpList P ops Q (⟨some n, op, ty, pos, af, g⟩ :: rest) a w) : wpList P ops Q (⟨some n, op, ty, pos, af, g⟩ :: rest) a w := h
theorem at_store {P : Program} {ops : Array Oper} {rest : List Oper} {tt : TypeId} {x y : Operand} {ty : TypeId} {pos : String} {af : Array Edge} {g : Option (Nat × Bool)} {a : Act} {w : World} {Q : Exit → Act → World → Prop}
  (h : wpList P ops Q (⟨none, .store tt x y, ty, pos, af, g⟩ :: rest) a w) : wpList P ops Q (⟨none, .store tt x y, ty, pos, af, g⟩ :: rest) a w := h
theorem wpList_store_last {P : Program} {ops : Array Oper} {rest : List Oper} {o : Oper} {a : Act} {Q : Exit → Act → World → Prop} (hgd : o.guard = none) (ty : TypeId) (x y : Operand) (ho : o.op = .store ty x y)
  {W : World} {old cs : Array Value} {n : Nat} (hn : n = W.heap.size) (hx : a.eval x = .pointer (some ⟨n, 0, none⟩)) (hy : a.eval y = .agg cs)
  (hi : (P.info? ty).map (·.size) = some cs.size) (ho2 : old.size = cs.size) (h1 : cs.all (·.oneCell') = true)
  (h : wpList P ops Q rest (a.put o.dst undef) (W.alloc (.cells cs ty))) : wpList P ops Q (o :: rest) a (W.alloc (.cells old ty)) := by
 subst hn; exact wpList_store_new hgd ty x y ho W old cs hx hy hi ho2 h1 h
theorem cells_new' (w W : World) (cs : Array Value) (t : TypeId) (n : Nat) (hn : n = W.heap.size) : ∀ j, j < cs.size → (W.alloc (.cells cs t)).cell? ⟨n, 0 + j, none⟩ = cs[j]? := by subst hn; exact cells_new W cs t
theorem equalFunc_Piece (D : Nat → Prop) (s t : Sl Piece) (w : World) (hs : s.OK 7 encPiece okPiece D w) (ht : t.OK 7 encPiece okPiece D w) :
  Calls Tryz.prog 121 #[.slice s.a s.val.length s.cap, .slice t.a t.val.length t.cap, .func (.func 122) #[] #[]] w
   fun e w' => e = .returned (.bool (decide (s.val.map Piece.abs = t.val.map Piece.abs))) ∧ Below w.heap.size w w' := by
 have hroom := hs.room
 have hroom2 := ht.room
 have HS := Lib.hid hs
 have HT := Lib.hid ht
 clear hs ht
 obtain ⟨a, cap, val⟩ := s
 obtain ⟨a2, cap2, val2⟩ := t
 simp only at hroom hroom2
 by_cases hlen : val.length = val2.length
 case neg =>
  have hb : (((val.length : Int)) != (val2.length : Int)) = true := by simp; omega
  have hne : Hid (val.map Piece.abs ≠ val2.map Piece.abs) := Lib.hid fun h => hlen (by have := congrArg List.length h; simpa using this)
  go_enter Tryz.func121, Tryz.ntmps121
  go_wp2
  go_ret
  exact ⟨by simp [hne.out], Below.refl _ _⟩
 have hb : (((val.length : Int)) != (val2.length : Int)) = false := by simp; omega
 have HL := Lib.hid hlen
 clear hlen
 go_enter Tryz.func121, Tryz.ntmps121
 go_wp2
 go_loopw [7, 8, 9, 17] (fun _ _ _ i wr => ∃ k : Nat, k ≤ val.length ∧ i = .int .i64 k ∧ Hid ((val.take k).map Piece.abs = (val2.take k).map Piece.abs) ∧ Below w.heap.size w wr) (fun _ _ _ i _ => val.length - (intOf i).toNat)
 case atStart => exact ⟨0, Nat.zero_le _, rfl, Lib.hid (by simp), Below.refl _ _⟩
 case round =>
  obtain ⟨k, hk, rfl, hz, hB⟩ := hrel
  by_cases hlt : k < val.length
  ·have hlt2 : k < val2.length := by have := HL.out; omega
   have hi1 : (k : Int) < (val.length : Int) := by omega
   have hi2 : (k : Int) < (val2.length : Int) := by omega
   obtain ⟨x, hx⟩ : ∃ x, val[k]? = some x := ⟨_, List.getElem?_eq_getElem hlt⟩
   obtain ⟨y, hy⟩ : ∃ y, val2[k]? = some y := ⟨_, List.getElem?_eq_getElem hlt2⟩
   obtain ⟨b, o, rfl, hb, _, hokx, hcell⟩ := HS.out.at hx
   obtain ⟨b2, o2, rfl, hb2, _, hoky, hcell2⟩ := HT.out.at hy
   have HC : Hid (∀ W, Below wr.heap.size wr W → ∀ j, j < (encPiece x).size → W.cell? ⟨b, o + k * 7 + j, none⟩ = (encPiece x)[j]?) := Lib.hid fun W hW j hj => by
    rw [((Ext.of_below (D := fun _ => False) hB).trans (Ext.of_below hW)).cell hb id]; exact hcell j hj
   have HC2 : Hid (∀ W, Below wr.heap.size wr W → ∀ j, j < (encPiece y).size → W.cell? ⟨b2, o2 + k * 7 + j, none⟩ = (encPiece y)[j]?) := Lib.hid fun W hW j hj => by
    rw [((Ext.of_below (D := fun _ => False) hB).trans (Ext.of_below hW)).cell hb2 id]; exact hcell2 j hj
   have HCL : Hid (∀ W, Below wr.heap.size wr W → Calls Tryz.prog 122 #[.agg (encPiece x), .agg (encPiece y)] W fun e w' => e = .returned (.bool (decide (x.abs = y.abs))) ∧ Below W.heap.size W w') := Lib.hid fun W hW =>
    samePiece_any D x y W (okPiece.ext hokx ((Ext.of_below hB).trans (Ext.of_below hW))) (okPiece.ext hoky ((Ext.of_below hB).trans (Ext.of_below hW)))
   have HX := Lib.hid hx
   have HY := Lib.hid hy
   clear hx hy hcell hcell2 hokx hoky
   by_cases hxy : x.abs = y.abs
   ·simp only [hxy, decide_true] at HCL
    have HN := Lib.hid hxy
    clear hxy
    go_wp2_with (first
     | (with_reducible refine at_dst 21 ?_; refine wpList_load_at rfl 93 _ rfl b (o + k * 7) rfl (encPiece x) _ (HC.out _ (Below.refl _ _)) Tryz.underlying93 rfl (by kernel_rfl) ?_)
     | (with_reducible refine at_store ?_; refine wpList_store_last (cs := encPiece x) rfl 93 _ _ rfl (by simp) rfl rfl (by kernel_rfl) rfl (encPiece_one _) ?_)
     | (with_reducible refine at_store ?_; refine wpList_store_last (cs := encPiece y) rfl 93 _ _ rfl (by simp) rfl rfl (by kernel_rfl) rfl (encPiece_one _) ?_)
     | (with_reducible refine at_dst 25 ?_; refine wpList_load_at rfl 93 _ rfl b2 (o2 + k * 7) rfl (encPiece y) _ (HC2.out _ ((Below.refl _ _).alloc (Nat.le_refl _) _)) Tryz.underlying93 rfl (by kernel_rfl) ?_)
     | (with_reducible refine at_dst 27 ?_; refine wpList_load_at rfl 93 _ rfl wr.heap.size 0 rfl (encPiece x) _ (cells_new2 wr _ _ _) Tryz.underlying93 rfl (by kernel_rfl) ?_)
     | (with_reducible refine at_dst 28 ?_; refine wpList_load_at rfl 93 _ rfl (wr.heap.size + 1) 0 rfl (encPiece y) _ (cells_new' wr _ _ _ _ (by simp)) Tryz.underlying93 rfl (by kernel_rfl) ?_)
     | (go_at_call 122; refine (HCL.out _ (((Below.refl _ _).alloc (Nat.le_refl _) _).alloc (by simp) _)).mono ?_; rintro e w1 ⟨rfl, hb1⟩; have hB1 := Below.call ((hB.alloc hB.size _).alloc (by simp; have := hB.size; omega) _) hb1 (Nat.le_refl _)))
    go_roundw
    case rel =>
     refine ⟨k + 1, by omega, by go_num, Lib.hid ?_, hB1⟩
     rw [List.take_add_one, List.take_add_one, List.map_append, List.map_append, hz.out, HX.out, HY.out]
     simp [HN.out]
    case measure => simp [intOf]; omega
   ·simp only [hxy, decide_false] at HCL
    have HN := Lib.hid hxy
    clear hxy
    go_wp2_with (first
     | (with_reducible refine at_dst 21 ?_; refine wpList_load_at rfl 93 _ rfl b (o + k * 7) rfl (encPiece x) _ (HC.out _ (Below.refl _ _)) Tryz.underlying93 rfl (by kernel_rfl) ?_)
     | (with_reducible refine at_store ?_; refine wpList_store_last (cs := encPiece x) rfl 93 _ _ rfl (by simp) rfl rfl (by kernel_rfl) rfl (encPiece_one _) ?_)
     | (with_reducible refine at_store ?_; refine wpList_store_last (cs := encPiece y) rfl 93 _ _ rfl (by simp) rfl rfl (by kernel_rfl) rfl (encPiece_one _) ?_)
     | (with_reducible refine at_dst 25 ?_; refine wpList_load_at rfl 93 _ rfl b2 (o2 + k * 7) rfl (encPiece y) _ (HC2.out _ ((Below.refl _ _).alloc (Nat.le_refl _) _)) Tryz.underlying93 rfl (by kernel_rfl) ?_)
     | (with_reducible refine at_dst 27 ?_; refine wpList_load_at rfl 93 _ rfl wr.heap.size 0 rfl (encPiece x) _ (cells_new2 wr _ _ _) Tryz.underlying93 rfl (by kernel_rfl) ?_)
     | (with_reducible refine at_dst 28 ?_; refine wpList_load_at rfl 93 _ rfl (wr.heap.size + 1) 0 rfl (encPiece y) _ (cells_new' wr _ _ _ _ (by simp)) Tryz.underlying93 rfl (by kernel_rfl) ?_)
     | (go_at_call 122; refine (HCL.out _ (((Below.refl _ _).alloc (Nat.le_refl _) _).alloc (by simp) _)).mono ?_; rintro e w1 ⟨rfl, hb1⟩; have hB1 := Below.call ((hB.alloc hB.size _).alloc (by simp; have := hB.size; omega) _) hb1 (Nat.le_refl _)))
    go_ret
    refine ⟨?_, hB1⟩
    have : val.map Piece.abs ≠ val2.map Piece.abs := fun h => by
     have h1 : (val.map Piece.abs)[k]? = some x.abs := by rw [List.getElem?_map, HX.out]; rfl
     have h2 : (val2.map Piece.abs)[k]? = some y.abs := by rw [List.getElem?_map, HY.out]; rfl
     rw [h, h2] at h1
     exact HN.out (by simpa using h1.symm)
    simp [this]
  ·go_wp2
   go_ret
   refine ⟨?_, hB⟩
   have hk' : k = val.length := by omega
   have := hz.out
   rw [hk', List.take_length, HL.out, List.take_length] at this
   simp [this]
end Go.Proofs.YtnmgfnpphglphaaGreat
end
