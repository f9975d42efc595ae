/-
  Found, of the reference.
-/
import Derived.Test.YtendmmhfjhgdaaaGreatHolding
set_option linter.unusedVariables false
set_option linter.unusedSimpArgs false
namespace Go.Proofs.YtendmmhfjhgdaaaGreat
open Go.RowKit

theorem holding_own (base : Nat) (v : Value) (l : List Held) (h : Held) (w : World) (hown : OwnL encHeld 5 w base 114 v l) (hbase : base ≤ w.heap.size) (hlen : l.length ≤ 2000) :
    Calls Tryz.prog 72 #[v, .agg (encHeld h)] w fun e w' => ∃ v', e = .returned v' ∧ OwnL encHeld 5 w' base 114 v' (holdingR l h) ∧ Below w.heap.size w w' := by
  rcases hown.2 with ⟨rfl, h0⟩ | ⟨g, cap, cur, rfl, _⟩
  · obtain rfl : l = [] := List.eq_nil_of_length_eq_zero h0
    exact holding_nil base h w hbase
  · exact holding_any base g 0 cap l h w hown hbase hlen
theorem holdingR_len : ∀ (l : List Held) (h : Held), (holdingR l h).length ≤ l.length + 1
  | [], _ => by simp [holdingR]
  | y :: r, h => by
    have := holdingR_len r h
    unfold holdingR
    split
    · simp; omega
    · split <;> simp
theorem foldl_holdingR_len : ∀ (l m : List Held), (l.foldl holdingR m).length ≤ m.length + l.length
  | [], m => by simp
  | x :: l, m => by
    have h1 := foldl_holdingR_len l (holdingR m x)
    have h2 := holdingR_len m x
    simp only [List.foldl_cons, List.length_cons]; omega

set_option maxRecDepth 20000 in
set_option maxHeartbeats 4000000 in
theorem foundRef_any (D : Nat → Prop) (R : Register) (w : World) (hs : R.wher.OK 7 encWhere okWhere D w) (hg : R.new_.OK 5 encHeld okHeld D w) (hl1 : R.wher.val.length ≤ 1000) (hl2 : R.new_.val.length ≤ 1000) :
    Calls Tryz.prog 36 #[.agg (encRegister R)] w fun e w' => ∃ v, e = .returned v ∧ OwnL encHeld 5 w' w.heap.size 114 v (foundR R.wher.val R.new_.val) ∧ Below w.heap.size w w' := by
  have hbR1 : BoxAt (w.alloc (.cells (encRegister R) 58)) w.heap.size 58 (encRegister R) := BoxAt.new _ _ _
  have hB1 : Below w.heap.size w (w.alloc (.cells (encRegister R) 58)) := (Below.refl _ _).alloc (Nat.le_refl _) _
  have HS := Lib.hid hs
  have HG := Lib.hid hg
  clear hs hg
  obtain ⟨⟨a, cap, val⟩, hwv⟩ : ∃ s, R.wher = s := ⟨_, rfl⟩
  obtain ⟨⟨a2, cap2, val2⟩, hgv⟩ : ∃ s, R.new_ = s := ⟨_, rfl⟩
  rw [hwv] at HS hl1 ⊢
  rw [hgv] at HG hl2 ⊢
  simp only at hl1 hl2
  have HCW : Hid ((encRegister R)[1]? = some (.slice a val.length cap)) := Lib.hid (by rw [show (encRegister R)[1]? = some R.wher.v from rfl, hwv]; rfl)
  have HCG : Hid ((encRegister R)[2]? = some (.slice a2 val2.length cap2)) := Lib.hid (by rw [show (encRegister R)[2]? = some R.new_.v from rfl, hgv]; rfl)
  clear hwv hgv
  go_enter Tryz.func36, Tryz.ntmps36
  go_wp2
  go_loopw [3, 4] (fun r i wr => ∃ k : Nat, k ≤ val.length ∧ i = .int .i64 k ∧ Hid (OwnL encHeld 5 wr w.heap.size 114 r ((ofWhere (val.take k)).foldl holdingR [])) ∧ BoxAt wr w.heap.size 58 (encRegister R) ∧ Below w.heap.size w wr) (fun _ i _ => val.length - (Go.RowKit.intOf i).toNat)
  case atStart => exact ⟨0, Nat.zero_le _, rfl, Lib.hid (OwnL.nil _ _ _ _ _), hbR1, hB1⟩
  case round =>
    obtain ⟨k, hk, rfl, HO, hR, hB⟩ := hrel
    have hcR : wr.cell? ⟨w.heap.size, 1, none⟩ = some (.slice a val.length cap) := (hR.cell 1).trans HCW.out
    by_cases hlt : k < val.length
    · obtain ⟨x, hx⟩ : ∃ x, val[k]? = some x := ⟨_, List.getElem?_eq_getElem hlt⟩
      obtain ⟨bb, o, rfl, hb, _, hok, hcell⟩ := HS.out.at hx
      have HC : Hid (∀ j, j < (encWhere x).size → wr.cell? ⟨bb, o + k * 7 + j, none⟩ = (encWhere x)[j]?) := Lib.hid fun j hj => by rw [hB.cell (p := ⟨bb, o + k * 7 + j, none⟩) hb]; exact hcell j hj
      have hi1 : (k : Int) < (val.length : Int) := by omega
      have HX := Lib.hid hx
      have hgsz : w.heap.size < wr.heap.size := hR.lt
      have hol : ((ofWhere (val.take k)).foldl holdingR []).length ≤ 2000 := by
        have h1 := foldl_holdingR_len (ofWhere (val.take k)) []
        have h2 := ofWhere_len (val.take k)
        simp only [List.length_nil, List.length_take] at h1 h2; omega
      clear hx hok hcell hb
      by_cases hp : x.kind = 3
      · go_wp2_with (first
          | ((with_reducible refine at_dst 18 ?_); refine wpList_load_at rfl 66 _ rfl bb (o + k * 7) rfl (encWhere x) _ HC.out Tryz.underlying66 rfl (by kernel_rfl) ?_)
          | ((with_reducible refine at_storeTo 5 ?_); refine wpList_store_box (BoxAt.newN (n := wr.heap.size) _ _ _ rfl) rfl 66 _ _ rfl rfl (.agg (encWhere x)) rfl (by kernel_rfl) rfl (one_agg (encWhere_one _)) ?_; intro w4 hb4 hT4; have hbx4 := hb4.eqv (splice_whole _ (encWhere x) rfl); have hk4 : w4.cell? ⟨wr.heap.size, 1, none⟩ = some (vi x.kind) := (hbx4.cell 1).trans rfl; have ha4 : w4.cell? ⟨wr.heap.size, 2, none⟩ = some (vi x.at_) := (hbx4.cell 2).trans rfl; have hp4 : w4.cell? ⟨wr.heap.size, 0, none⟩ = some (vi x.piece) := (hbx4.cell 0).trans rfl; have hB4 : Below wr.heap.size wr w4 := ((Below.refl _ _).alloc (Nat.le_refl _) _).trans (hT4.below (Nat.le_refl _)); have hR4 := hR.belowAll hB4; have HF := Lib.hid (holding_own _ _ _ (heldOf x) w4 (HO.out.belowAll hB4) (by have := hB4.size; omega) hol))
          | ((with_reducible refine at_dst 28 ?_); refine wpList_loadB hbx4 rfl 29 _ rfl rfl (encSetting x.setting) (fun j hj => by (have hj : j < 2 := hj; rcases j with _ | _ | j; rfl; rfl; omega)) Tryz.underlying29 rfl (by kernel_rfl) ?_)
          | (go_at_call 72; refine HF.out.mono ?_; rintro e w5 ⟨v5, rfl, ho5, hB5⟩))
        go_roundw
        case rel => exact ⟨k + 1, by omega, by go_num, Lib.hid (by rw [take_snoc HX.out, ofWhere_snoc, if_pos hp, List.foldl_append]; exact ho5), hR4.belowAll hB5, hB.trans ((hB4.trans (hB5.mono hB4.size)).mono hB.size)⟩
        case measure => simp [Go.RowKit.intOf]; omega
      · go_wp2_with (first
          | ((with_reducible refine at_dst 18 ?_); refine wpList_load_at rfl 66 _ rfl bb (o + k * 7) rfl (encWhere x) _ HC.out Tryz.underlying66 rfl (by kernel_rfl) ?_)
          | ((with_reducible refine at_storeTo 5 ?_); refine wpList_store_box (BoxAt.newN (n := wr.heap.size) _ _ _ rfl) rfl 66 _ _ rfl rfl (.agg (encWhere x)) rfl (by kernel_rfl) rfl (one_agg (encWhere_one _)) ?_; intro w4 hb4 hT4; have hbx4 := hb4.eqv (splice_whole _ (encWhere x) rfl); have hk4 : w4.cell? ⟨wr.heap.size, 1, none⟩ = some (vi x.kind) := (hbx4.cell 1).trans rfl; have hB4 : Below wr.heap.size wr w4 := ((Below.refl _ _).alloc (Nat.le_refl _) _).trans (hT4.below (Nat.le_refl _))))
        go_roundw
        case rel => exact ⟨k + 1, by omega, by go_num, Lib.hid (by rw [take_snoc HX.out, ofWhere_snoc, if_neg hp]; exact HO.out.belowAll hB4), hR.belowAll hB4, hB.trans (hB4.mono hB.size)⟩
        case measure => simp [Go.RowKit.intOf]; omega
    · have hk' : k = val.length := by omega
      have HO1 : Hid (OwnL encHeld 5 wr w.heap.size 114 _ ((ofWhere val).foldl holdingR [])) := Lib.hid (by have h := HO.out; rwa [hk', List.take_length] at h)
      have hRS := hR
      have hBS := hB
      clear HO
      go_wp2
      clear hcR hk hk' hlt hR hB
      go_loopw [3, 6] (fun r i wr => ∃ k : Nat, k ≤ val2.length ∧ i = .int .i64 k ∧ Hid (OwnL encHeld 5 wr w.heap.size 114 r ((ofWhere val ++ val2.take k).foldl holdingR [])) ∧ BoxAt wr w.heap.size 58 (encRegister R) ∧ Below w.heap.size w wr) (fun _ i _ => val2.length - (Go.RowKit.intOf i).toNat)
      case atStart => exact ⟨0, Nat.zero_le _, rfl, Lib.hid (by simpa using HO1.out), hRS, hBS⟩
      case round =>
        obtain ⟨k, hk, rfl, HO, hR, hB⟩ := hrel
        have hcR : wr.cell? ⟨w.heap.size, 2, none⟩ = some (.slice a2 val2.length cap2) := (hR.cell 2).trans HCG.out
        by_cases hlt : k < val2.length
        · obtain ⟨x, hx⟩ : ∃ x, val2[k]? = some x := ⟨_, List.getElem?_eq_getElem hlt⟩
          obtain ⟨bb, o, rfl, hb, _, hok, hcell⟩ := HG.out.at hx
          have HC : Hid (∀ j, j < (encHeld x).size → wr.cell? ⟨bb, o + k * 5 + j, none⟩ = (encHeld x)[j]?) := Lib.hid fun j hj => by rw [hB.cell (p := ⟨bb, o + k * 5 + j, none⟩) hb]; exact hcell j hj
          have hi1 : (k : Int) < (val2.length : Int) := by omega
          have HX := Lib.hid hx
          have hol : ((ofWhere val ++ val2.take k).foldl holdingR []).length ≤ 2000 := by
            have h1 := foldl_holdingR_len (ofWhere val ++ val2.take k) []
            have h2 := ofWhere_len val
            simp only [List.length_nil, List.length_append, List.length_take] at h1 h2; omega
          have HF := Lib.hid (holding_own _ _ _ x wr HO.out hB.size hol)
          clear hx hok hcell hb
          go_wp2_with (first
            | ((with_reducible refine at_dst 43 ?_); refine wpList_load_at rfl 114 _ rfl bb (o + k * 5) rfl (encHeld x) _ HC.out Tryz.underlying114 rfl (by kernel_rfl) ?_)
            | (go_at_call 72; (with_reducible refine HF.out.mono ?_); rintro e w5 ⟨v5, rfl, ho5, hB5⟩))
          go_roundw
          case rel => exact ⟨k + 1, by omega, by go_num, Lib.hid (by rw [take_snoc HX.out, ← List.append_assoc, List.foldl_append]; exact ho5), hR.belowAll hB5, hB.trans (hB5.mono hB.size)⟩
          case measure => simp [Go.RowKit.intOf]; omega
        · have hk' : k = val2.length := by omega
          have HO1 : Hid (OwnL encHeld 5 wr w.heap.size 114 _ (foundR val val2)) := Lib.hid (by have h := HO.out; rwa [hk', List.take_length] at h)
          clear HO
          go_wp2
          go_ret
          exact ⟨_, rfl, HO1.out, hB⟩
end Go.Proofs.YtendmmhfjhgdaaaGreat
