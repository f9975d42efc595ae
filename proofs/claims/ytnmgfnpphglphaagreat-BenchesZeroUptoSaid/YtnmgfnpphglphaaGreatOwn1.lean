/-
  All IDs that a note gives are its bench's own: walked.
  All IDs that a note gives are its bench's own: walked.
-/
import Derived.Test.YtnmgfnpphglphaaGreatSameNote
import Derived.Test.YtnmgfnpphglphaaGreatBox
import Derived.Test.YtnmgfnpphglphaaGreatSpec
import Derived.Deep.QuietTactic
import Derived.BigQuiet
set_option maxHeartbeats 16000000
set_option maxRecDepth 100000
section
set_option linter.unusedVariables false
set_option linter.unusedSimpArgs false
namespace Go.Proofs.YtnmgfnpphglphaaGreat
open Go.RowKit
def itsB (bench id : Int) : Bool := id.tmod 8 == bench.tmod 8
def ownB (n : Note) : Bool := !(n.data.val.any fun p => !itsB n.bench p.id) && (decide (n.item.abs = zItem.abs) || itsB n.bench n.item.id)
theorem own1_any (n : Note) (id : Int) (b : Nat) (w : World) (hb : BoxAt w b 43 (encNote n)) (hi : I64 id) (hn : I64 n.bench) :
  Calls Tryz.prog 133 #[.int .i64 id, .pointer (some ⟨b, 0, none⟩)] w fun e w' => e = .returned (.bool (itsB n.bench id)) ∧ w = w' := by
 have hc : w.cell? ⟨b, 0, none⟩ = some (vi n.bench) := by rw [hb.cell]; rfl
 have h1 : IntKind.i64.wrap (id.tmod 8) = id.tmod 8 := by
  obtain ⟨h1, h2⟩ := hi
  refine IntWalk.i64_in _ ?_
  have := Int.tmod_lt_of_pos id (show (0 : Int) < 8 by decide)
  have := Int.lt_tmod_of_pos id (show (0 : Int) < 8 by decide)
  omega
 have h2 : IntKind.i64.wrap (n.bench.tmod 8) = n.bench.tmod 8 := by
  refine IntWalk.i64_in _ ?_
  have := Int.tmod_lt_of_pos n.bench (show (0 : Int) < 8 by decide)
  have := Int.lt_tmod_of_pos n.bench (show (0 : Int) < 8 by decide)
  omega
 go_enter Tryz.func133, Tryz.ntmps133
 go_wp2
 go_ret
 exact ⟨by simp [itsB], rfl⟩
theorem own2_any (n : Note) (p : Piece) (b c : Nat) (w : World) (hb : BoxAt w b 43 (encNote n)) (hc : BoxAt w c 210 #[.func (.func 133) #[] #[.pointer (some ⟨b, 0, none⟩)]]) (hi : I64 p.id) (hn : I64 n.bench) :
  Calls Tryz.prog 135 #[.agg (encPiece p), .pointer (some ⟨c, 0, none⟩)] w fun e w' => e = .returned (.bool (!itsB n.bench p.id)) ∧ Below w.heap.size w w' := by
 have hc0 : ∀ ob, (w.alloc ob).cell? ⟨c, 0, none⟩ = some (.func (.func 133) #[] #[.pointer (some ⟨b, 0, none⟩)]) := fun ob => by rw [(hc.alloc ob).cell]; rfl
 have hcl : c < w.heap.size := hc.lt
 have hne : w.heap.size ≠ c := Nat.ne_of_gt hcl
 have hc1 : w.cell? ⟨c, 0, none⟩ = some (.func (.func 133) #[] #[.pointer (some ⟨b, 0, none⟩)]) := by rw [hc.cell]; rfl
 go_enter Tryz.func135, Tryz.ntmps135
 go_wp2_with (go_at_call 133; refine (own1_any n p.id b _ (hb.alloc _) hi hn).mono ?_; rintro e w1 ⟨rfl, rfl⟩)
 go_ret
 exact ⟨by simp, (Below.refl _ _).alloc (Nat.le_refl _) _⟩
theorem index_own (c0 : Value) (D : Nat → Prop) (s : Sl Piece) (w : World) (hs : s.OK 7 encPiece okPiece D w) (p : Piece → Bool)
  (hp : ∀ x, okPiece D w x → ∀ W, Below w.heap.size w W → Calls Tryz.prog 135 #[.agg (encPiece x), c0] W fun e W' => e = .returned (.bool (p x)) ∧ Below W.heap.size W W') :
  Calls Tryz.prog 178 #[.slice s.a s.val.length s.cap, .func (.func 135) #[] #[c0]] w fun e w' => e = .returned (.int .i64 (idxI p s.val)) ∧ Below w.heap.size w w' := by
 have hroom := hs.room
 have HP := Lib.hid hp
 have HS := Lib.hid hs
 clear hp hs
 obtain ⟨a, cap, val⟩ := s
 simp only at hroom
 go_enter Tryz.func178, Tryz.ntmps178
 go_wp2
 go_loopw [5, 8] (fun _ i wr => ∃ k : Nat, k ≤ val.length ∧ i = .int .i64 k ∧ Hid (∀ j y, j < k → val[j]? = some y → p y = false) ∧ Below w.heap.size w wr) (fun _ i _ => val.length - (intOf i).toNat)
 case atStart => exact ⟨0, Nat.zero_le _, rfl, Lib.hid (by omega), Below.refl _ _⟩
 case round =>
  obtain ⟨k, hk, rfl, hn, hB⟩ := hrel
  by_cases hlt : k < val.length
  ·obtain ⟨x, hx⟩ : ∃ x, val[k]? = some x := ⟨_, List.getElem?_eq_getElem hlt⟩
   have HX := Lib.hid hx
   obtain ⟨b, o, rfl, hb, _, hok, hcell⟩ := HS.out.at hx
   have HC : Hid (∀ j, j < (encPiece x).size → wr.cell? ⟨b, o + k * 7 + j, none⟩ = (encPiece x)[j]?) := Lib.hid fun j hj => by
    rw [(Ext.of_below (D := fun _ => False) hB).cell hb id]; exact hcell j hj
   clear hx hcell
   have hcall := HP.out x hok wr hB
   have HCL := Lib.hid hcall
   clear hcall
   by_cases hpx : p x = true
   ·have HPX := Lib.hid hpx
    clear hpx
    go_wp2_with (first
     | (refine wpList_load_at rfl 93 _ rfl b (o + k * 7) rfl (encPiece x) _ HC.out Tryz.underlying93 rfl (by kernel_rfl) ?_)
     | (go_at_call 135; refine HCL.out.mono ?_; rintro e w1 ⟨rfl, hb1⟩; rw [HPX.out]))
    go_ret
    exact ⟨by simp [idxI_hit HX.out hn.out HPX.out], hB.trans (hb1.mono hB.size)⟩
   ·have HPX : Hid (p x = false) := Lib.hid (by simpa using hpx)
    clear hpx
    go_wp2_with (first
     | (refine wpList_load_at rfl 93 _ rfl b (o + k * 7) rfl (encPiece x) _ HC.out Tryz.underlying93 rfl (by kernel_rfl) ?_)
     | (go_at_call 135; refine HCL.out.mono ?_; rintro e w1 ⟨rfl, hb1⟩; rw [HPX.out]))
    go_roundw
    case rel =>
     refine ⟨k + 1, by omega, by go_num, Lib.hid fun j y hj hy => ?_, hB.trans (hb1.mono hB.size)⟩
     rcases Nat.lt_succ_iff_lt_or_eq.1 hj with h | rfl
     ·exact hn.out j y h hy
     ·rw [HX.out] at hy; cases hy; exact HPX.out
    case measure => simp [intOf]; omega
  ·go_wp2
   go_ret
   refine ⟨?_, hB⟩
   rw [idxI_none fun j y hy => hn.out j y (by have := (List.getElem?_eq_some_iff.1 hy).1; omega) hy]
   rfl
theorem contains_own (c0 : Value) (D : Nat → Prop) (s : Sl Piece) (w : World) (hs : s.OK 7 encPiece okPiece D w) (p : Piece → Bool)
  (hp : ∀ x, okPiece D w x → ∀ W, Below w.heap.size w W → Calls Tryz.prog 135 #[.agg (encPiece x), c0] W fun e W' => e = .returned (.bool (p x)) ∧ Below W.heap.size W W') :
  Calls Tryz.prog 134 #[.slice s.a s.val.length s.cap, .func (.func 135) #[] #[c0]] w fun e w' => e = .returned (.bool (s.val.any p)) ∧ Below w.heap.size w w' := by
 have H := Lib.hid (index_own c0 D s w hs p hp)
 have hg := Lib.hid (idxI_ge p s.val)
 clear hp hs
 go_enter Tryz.func134, Tryz.ntmps134
 go_wp2_with (go_at_call 178; refine H.out.mono ?_; rintro e w1 ⟨rfl, hb1⟩)
 go_ret
 exact ⟨by simp [← hg.out], hb1⟩
end Go.Proofs.YtnmgfnpphglphaaGreat
end
section
set_option linter.unusedVariables false
set_option linter.unusedSimpArgs false
namespace Go.Proofs.YtnmgfnpphglphaaGreat
open Go.RowKit
theorem encNote_item (n : Note) : ∀ j, j < (encItem n.item).size → (encNote n)[17 + j]? = (encItem n.item)[j]? := by
 intro j hj
 rcases j with _|_|_|_|_|_|_|_|_|_|_|_|j <;> first | rfl | (rw [encItem_size] at hj; omega)
theorem okItem_zero (D : Nat → Prop) (w : World) : okItem D w zItem := by
 unfold okItem zItem
 refine ⟨?_, ?_, ?_, ?_, ?_, ?_, ?_, ?_, ?_, Sl.OK.nil _ _ _ _ _, Sl.OK.nil _ _ _ _ _, Sl.OK.nil _ _ _ _ _⟩ <;> (unfold I64; decide)
theorem okNote_data {D : Nat → Prop} {w : World} {x : Note} (h : okNote D w x) : x.data.OK 7 encPiece okPiece D w := by
 simp only [okNote] at h; simp only [h]
theorem okNote_bench {D : Nat → Prop} {w : World} {x : Note} (h : okNote D w x) : I64 x.bench := h.1
theorem okItem_id {D : Nat → Prop} {w : World} {x : Item} (h : okItem D w x) : I64 x.id := h.1
theorem own_any (D : Nat → Prop) (n : Note) (w : World) (hok : okNote D w n) :
  Calls Tryz.prog 89 #[.agg (encNote n)] w fun e w' => e = .returned (.bool (ownB n)) ∧ Below w.heap.size w w' := by
 have hbA0 : ∀ ob, BoxAt ((w.alloc (.cells (encNote n) 43)).alloc ob) w.heap.size 43 (encNote n) := fun ob => (BoxAt.new _ _ _).alloc _
 have hbF0 : ∀ ob cs, BoxAt ((w.alloc ob).alloc (.cells cs 210)) (w.heap.size + 1) 210 cs := fun ob cs => by have := BoxAt.new (w.alloc ob) 210 cs; rwa [World.size_alloc] at this
 have hB0 : ∀ ob1 ob2, Below w.heap.size w ((w.alloc ob1).alloc ob2) := fun _ _ => ((Below.refl _ _).alloc (Nat.le_refl _) _).alloc (by simp) _
 have HC : Hid (∀ W, Below w.heap.size w W → BoxAt W w.heap.size 43 (encNote n) → BoxAt W (w.heap.size + 1) 210 #[.func (.func 133) #[] #[.pointer (some ⟨w.heap.size, 0, none⟩)]] →
   Calls Tryz.prog 134 #[.slice n.data.a n.data.val.length n.data.cap, .func (.func 135) #[] #[.pointer (some ⟨w.heap.size + 1, 0, none⟩)]] W fun e w' =>
    e = .returned (.bool (n.data.val.any fun p => !itsB n.bench p.id)) ∧ Below W.heap.size W w') := Lib.hid fun W hW h1 h2 =>
  contains_own _ D n.data W (okNote_data (okNote.ext hok (.of_below hW))) (fun p => !itsB n.bench p.id) fun x hx W' hW' => own2_any n x _ _ W' (h1.belowAll hW') (h2.belowAll hW') hx.1 (okNote_bench hok)
 have HS : Hid (∀ W, Below w.heap.size w W → Calls Tryz.prog 123 #[.agg (encItem n.item), .agg (encItem zItem)] W fun e w' => e = .returned (.bool (decide (n.item.abs = zItem.abs))) ∧ Below W.heap.size W w') := Lib.hid fun W hW =>
  sameItem_any D n.item zItem W (okNote_item (okNote.ext hok (.of_below hW))) (okItem_zero _ _)
 have hib := Lib.hid (okNote_bench hok)
 have hid' := Lib.hid (okItem_id (okNote_item hok))
 clear hok
 have HE : Hid (ownB n = (!(n.data.val.any fun p => !itsB n.bench p.id) && (decide (n.item.abs = zItem.abs) || itsB n.bench n.item.id))) := Lib.hid rfl
 rcases h0 : (n.data.val.any fun p => !itsB n.bench p.id)
 ·simp only [h0] at HC HE
  rcases h1 : decide (n.item.abs = zItem.abs)
  ·simp only [h1] at HS HE
   go_enter Tryz.func89, Tryz.ntmps89
   go_wp2_with (first
    | (with_reducible refine at_storeT 210 ?_; refine wpList_store_box (hbF0 _ _) rfl _ _ _ rfl rfl (.func (.func 133) #[] #[.pointer (some ⟨w.heap.size, 0, none⟩)]) rfl (by kernel_rfl) rfl (by simp [Value.cells, Value.oneCell']) ?_; intro w1 hbF hT; have hbA := (hbA0 _).turn hT (Nat.ne_of_lt (Nat.lt_succ_self _)); have hB1 := (hB0 _ _).trans (hT.below (Nat.le_succ _)); clear hT; replace hbF := hbF.eqv (cs' := #[.func (.func 133) #[] #[.pointer (some ⟨w.heap.size, 0, none⟩)]]) (by simp [splice, Value.cells]); have hd1 : w1.cell? ⟨w.heap.size, 16, none⟩ = some n.data.v := by (rw [hbA.cell]; exact encNote_16 n))
    | (go_at_call 134; refine (HC.out _ hB1 hbA hbF).mono ?_; rintro e w2 ⟨rfl, hb2⟩; have hB2 := Below.call hB1 hb2 (Nat.le_refl _); have hbA2 := hbA.belowAll hb2; have hbF2 := hbF.belowAll hb2; clear hb2)
    | (with_reducible refine at_dst 10 ?_; refine wpList_load_at rfl 41 _ rfl w.heap.size 17 rfl (encItem n.item) _ (hbA2.cellsAt 17 _ (encNote_item n)) Tryz.underlying41 rfl (by kernel_rfl) ?_)
    | (go_at_call 123; refine (HS.out _ hB2).mono ?_; rintro e w3 ⟨rfl, hb3⟩; have hB3 := Below.call hB2 hb3 (Nat.le_refl _); have hbA3 := hbA2.belowAll hb3; have hbF3 := hbF2.belowAll hb3; clear hb3; have hf3 : w3.cell? ⟨w.heap.size + 1, 0, none⟩ = some (.func (.func 133) #[] #[.pointer (some ⟨w.heap.size, 0, none⟩)]) := (by rw [hbF3.cell]; rfl); have hi3 : w3.cell? ⟨w.heap.size, 17, none⟩ = some (vi n.item.id) := (by rw [hbA3.cell]; rfl))
    | (go_at_call 133; refine (own1_any n n.item.id _ _ hbA3 hid'.out hib.out).mono ?_; rintro e w4 ⟨rfl, rfl⟩))
   go_ret
   exact ⟨by simp [HE.out], hB3⟩
  ·simp only [h1] at HS HE
   go_enter Tryz.func89, Tryz.ntmps89
   go_wp2_with (first
    | (with_reducible refine at_storeT 210 ?_; refine wpList_store_box (hbF0 _ _) rfl _ _ _ rfl rfl (.func (.func 133) #[] #[.pointer (some ⟨w.heap.size, 0, none⟩)]) rfl (by kernel_rfl) rfl (by simp [Value.cells, Value.oneCell']) ?_; intro w1 hbF hT; have hbA := (hbA0 _).turn hT (Nat.ne_of_lt (Nat.lt_succ_self _)); have hB1 := (hB0 _ _).trans (hT.below (Nat.le_succ _)); clear hT; replace hbF := hbF.eqv (cs' := #[.func (.func 133) #[] #[.pointer (some ⟨w.heap.size, 0, none⟩)]]) (by simp [splice, Value.cells]); have hd1 : w1.cell? ⟨w.heap.size, 16, none⟩ = some n.data.v := by (rw [hbA.cell]; exact encNote_16 n))
    | (go_at_call 134; refine (HC.out _ hB1 hbA hbF).mono ?_; rintro e w2 ⟨rfl, hb2⟩; have hB2 := Below.call hB1 hb2 (Nat.le_refl _); have hbA2 := hbA.belowAll hb2; have hbF2 := hbF.belowAll hb2; clear hb2)
    | (with_reducible refine at_dst 10 ?_; refine wpList_load_at rfl 41 _ rfl w.heap.size 17 rfl (encItem n.item) _ (hbA2.cellsAt 17 _ (encNote_item n)) Tryz.underlying41 rfl (by kernel_rfl) ?_)
    | (go_at_call 123; refine (HS.out _ hB2).mono ?_; rintro e w3 ⟨rfl, hb3⟩; have hB3 := Below.call hB2 hb3 (Nat.le_refl _); have hbA3 := hbA2.belowAll hb3; have hbF3 := hbF2.belowAll hb3; clear hb3; have hf3 : w3.cell? ⟨w.heap.size + 1, 0, none⟩ = some (.func (.func 133) #[] #[.pointer (some ⟨w.heap.size, 0, none⟩)]) := (by rw [hbF3.cell]; rfl); have hi3 : w3.cell? ⟨w.heap.size, 17, none⟩ = some (vi n.item.id) := (by rw [hbA3.cell]; rfl))
    | (go_at_call 133; refine (own1_any n n.item.id _ _ hbA3 hid'.out hib.out).mono ?_; rintro e w4 ⟨rfl, rfl⟩))
   go_ret
   exact ⟨by simp [HE.out], hB3⟩
 ·simp only [h0] at HC HE
  go_enter Tryz.func89, Tryz.ntmps89
  go_wp2_with (first
   | (with_reducible refine at_storeT 210 ?_; refine wpList_store_box (hbF0 _ _) rfl _ _ _ rfl rfl (.func (.func 133) #[] #[.pointer (some ⟨w.heap.size, 0, none⟩)]) rfl (by kernel_rfl) rfl (by simp [Value.cells, Value.oneCell']) ?_; intro w1 hbF hT; have hbA := (hbA0 _).turn hT (Nat.ne_of_lt (Nat.lt_succ_self _)); have hB1 := (hB0 _ _).trans (hT.below (Nat.le_succ _)); clear hT; replace hbF := hbF.eqv (cs' := #[.func (.func 133) #[] #[.pointer (some ⟨w.heap.size, 0, none⟩)]]) (by simp [splice, Value.cells]); have hd1 : w1.cell? ⟨w.heap.size, 16, none⟩ = some n.data.v := by (rw [hbA.cell]; exact encNote_16 n))
   | (go_at_call 134; refine (HC.out _ hB1 hbA hbF).mono ?_; rintro e w2 ⟨rfl, hb2⟩; have hB2 := Below.call hB1 hb2 (Nat.le_refl _); have hbA2 := hbA.belowAll hb2; have hbF2 := hbF.belowAll hb2; clear hb2)
   | (with_reducible refine at_dst 10 ?_; refine wpList_load_at rfl 41 _ rfl w.heap.size 17 rfl (encItem n.item) _ (hbA2.cellsAt 17 _ (encNote_item n)) Tryz.underlying41 rfl (by kernel_rfl) ?_)
   | (go_at_call 123; refine (HS.out _ hB2).mono ?_; rintro e w3 ⟨rfl, hb3⟩; have hB3 := Below.call hB2 hb3 (Nat.le_refl _); have hbA3 := hbA2.belowAll hb3; have hbF3 := hbF2.belowAll hb3; clear hb3; have hf3 : w3.cell? ⟨w.heap.size + 1, 0, none⟩ = some (.func (.func 133) #[] #[.pointer (some ⟨w.heap.size, 0, none⟩)]) := (by rw [hbF3.cell]; rfl); have hi3 : w3.cell? ⟨w.heap.size, 17, none⟩ = some (vi n.item.id) := (by rw [hbA3.cell]; rfl))
   | (go_at_call 133; refine (own1_any n n.item.id _ _ hbA3 hid'.out hib.out).mono ?_; rintro e w4 ⟨rfl, rfl⟩))
  go_ret
  exact ⟨by simp [HE.out], hB2⟩
end Go.Proofs.YtnmgfnpphglphaaGreat
end
