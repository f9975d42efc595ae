/-
  The ledger: send, walked.
-/
import Derived.Test.YtnmgfnpphglphaaGreatLed4
set_option maxHeartbeats 16000000
set_option maxRecDepth 100000
set_option linter.unusedVariables false
set_option linter.unusedSimpArgs false
namespace Go.Proofs.YtnmgfnpphglphaaGreat
open Go.RowKit
theorem send1_any (b N c : Nat) (L : Led) (n : Note) (x : Int) (w : World) (h : LedAt b N w L) (hc : BoxAt w c 179 #[.pointer (some ⟨b + 6, 0, none⟩)]) (hn : BoxAt w (c + 1) 43 (encNote n)) (hx : I64 x) :
  Calls Tryz.prog 188 #[vi x, .pointer (some ⟨c, 0, none⟩), .pointer (some ⟨c + 1, 0, none⟩)] w fun e w' => e = .returned (.bool (!atW L.wher x n.bench)) ∧ Below w.heap.size w w' := by
 have hcc : w.cell? ⟨c, 0, none⟩ = some (.pointer (some ⟨b + 6, 0, none⟩)) := (hc.cell 0).trans rfl
 have hcn : w.cell? ⟨c + 1, 0, none⟩ = some (vi n.bench) := (hn.cell 0).trans rfl
 have HA := Lib.hid (at_any b N L x n.bench w h hx)
 clear h hc hn hx
 go_enter Tryz.func188, Tryz.ntmps188
 go_wp2_with (go_at_call 189; refine HA.out.mono ?_; rintro e w1 ⟨rfl, hb1⟩)
 go_ret
 exact ⟨by simp, hb1⟩
theorem index_send (c0 c1 : Value) (D : Nat → Prop) (s : Sl Int) (w : World) (hs : s.OK 1 encInt okInt D w) (p : Int → Bool)
  (hp : ∀ x, okInt D w x → ∀ W, Below w.heap.size w W → Calls Tryz.prog 188 #[vi x, c0, c1] W fun e W' => e = .returned (.bool (p x)) ∧ Below W.heap.size W W') :
  Calls Tryz.prog 215 #[.slice s.a s.val.length s.cap, .func (.func 188) #[] #[c0, c1]] w fun e w' => e = .returned (.int .i64 (idxI p s.val)) ∧ Below w.heap.size w w' := by
 have hroom := hs.room
 have HP := Lib.hid hp
 have HS := Lib.hid hs
 clear hp hs
 obtain ⟨a, cap, val⟩ := s
 simp only at hroom
 go_enter Tryz.func215, Tryz.ntmps215
 go_wp2
 go_loopw [5, 8] (fun _ i wr => ∃ k : Nat, k ≤ val.length ∧ i = .int .i64 k ∧ Hid (∀ j y, j < k → val[j]? = some y → p y = false) ∧ Below w.heap.size w wr) (fun _ i _ => val.length - (intOf i).toNat)
 case atStart => exact ⟨0, Nat.zero_le _, rfl, Lib.hid (by omega), Below.refl _ _⟩
 case round =>
  obtain ⟨k, hk, rfl, hn, hB⟩ := hrel
  by_cases hlt : k < val.length
  ·obtain ⟨x, hx⟩ : ∃ x, val[k]? = some x := ⟨_, List.getElem?_eq_getElem hlt⟩
   have HX := Lib.hid hx
   obtain ⟨b, o, rfl, hb, _, hok, hcell⟩ := HS.out.at hx
   have hc0 : wr.cell? ⟨b, o + k, none⟩ = some (vi x) := by
    rw [(Ext.of_below (D := fun _ => False) hB).cell hb id]; simpa [encInt] using hcell 0 (by decide)
   clear hx hcell
   have hcall := HP.out x hok wr hB
   have HCL := Lib.hid hcall
   clear hcall
   by_cases hpx : p x = true
   ·have HPX := Lib.hid hpx
    clear hpx
    go_wp2_with (first
     | (go_at_call 188; refine HCL.out.mono ?_; rintro e w1 ⟨rfl, hb1⟩; rw [HPX.out]))
    go_ret
    exact ⟨by simp [idxI_hit HX.out hn.out HPX.out], hB.trans (hb1.mono hB.size)⟩
   ·have HPX : Hid (p x = false) := Lib.hid (by simpa using hpx)
    clear hpx
    go_wp2_with (first
     | (go_at_call 188; refine HCL.out.mono ?_; rintro e w1 ⟨rfl, hb1⟩; rw [HPX.out]))
    go_roundw
    case rel =>
     refine ⟨k + 1, by omega, by go_num, Lib.hid fun j y hj hy => ?_, hB.trans (hb1.mono hB.size)⟩
     rcases Nat.lt_succ_iff_lt_or_eq.1 hj with h | rfl
     ·exact hn.out j y h hy
     ·rw [HX.out] at hy; cases hy; exact HPX.out
    case measure => simp [intOf]; omega
  ·go_wp2
   go_ret
   refine ⟨?_, hB⟩
   rw [idxI_none fun j y hy => hn.out j y (by have := (List.getElem?_eq_some_iff.1 hy).1; omega) hy]
   rfl
theorem contains_send (c0 c1 : Value) (D : Nat → Prop) (s : Sl Int) (w : World) (hs : s.OK 1 encInt okInt D w) (p : Int → Bool)
  (hp : ∀ x, okInt D w x → ∀ W, Below w.heap.size w W → Calls Tryz.prog 188 #[vi x, c0, c1] W fun e W' => e = .returned (.bool (p x)) ∧ Below W.heap.size W W') :
  Calls Tryz.prog 187 #[.slice s.a s.val.length s.cap, .func (.func 188) #[] #[c0, c1]] w fun e w' => e = .returned (.bool (s.val.any p)) ∧ Below w.heap.size w w' := by
 have H := Lib.hid (index_send c0 c1 D s w hs p hp)
 have hg := Lib.hid (idxI_ge p s.val)
 clear hp hs
 go_enter Tryz.func187, Tryz.ntmps187
 go_wp2_with (go_at_call 215; refine H.out.mono ?_; rintro e w1 ⟨rfl, hb1⟩)
 go_ret
 exact ⟨by simp [← hg.out], hb1⟩
structure SendS (b c : Nat) (n : Note) (W : World) : Prop where
 lt : b + 6 < c
 ptr : BoxAt W c 179 #[.pointer (some ⟨b + 6, 0, none⟩)]
 note : BoxAt W (c + 1) 43 (encNote n)
 led : ∃ vr vc, BoxAt W (b + 6) 190 #[.map (some b), .map (some (b + 1)), .map (some (b + 2)), .map (some (b + 3)), vr, vc, .map (some (b + 4)), .map (some (b + 5))]
theorem SendS.below {b c : Nat} {n : Note} {W W' : World} (h : SendS b c n W) (hb : Below W.heap.size W W') : SendS b c n W' := by
 obtain ⟨vr, vc, hl⟩ := h.led
 exact ⟨h.lt, h.ptr.belowAll hb, h.note.belowAll hb, vr, vc, hl.belowAll hb⟩
theorem SendS.turn {b c k : Nat} {n : Note} {W W' : World} (h : SendS b c n W) (hb : Turn k W W') (hk : k < b + 6) : SendS b c n W' := by
 obtain ⟨vr, vc, hl⟩ := h.led
 have := h.lt
 exact ⟨h.lt, h.ptr.turn hb (by omega), h.note.turn hb (by omega), vr, vc, hl.turn hb (by omega)⟩
theorem SendS.cT {b c : Nat} {n : Note} {W : World} (h : SendS b c n W) : W.cell? ⟨b + 6, 6, none⟩ = some (.map (some (b + 4))) := by obtain ⟨vr, vc, hl⟩ := h.led; exact hl.cell 6
theorem SendS.cO {b c : Nat} {n : Note} {W : World} (h : SendS b c n W) : W.cell? ⟨b + 6, 7, none⟩ = some (.map (some (b + 5))) := by obtain ⟨vr, vc, hl⟩ := h.led; exact hl.cell 7
theorem SendS.cP {b c : Nat} {n : Note} {W : World} (h : SendS b c n W) : W.cell? ⟨c, 0, none⟩ = some (.pointer (some ⟨b + 6, 0, none⟩)) := (h.ptr.cell 0).trans rfl
def trayW (x : Int) (r : Ref) : Where := ⟨x, 2, 0, ⟨0, false⟩, r⟩
theorem sendW_snoc (m : List (Int × Where)) (l : List Int) (x : Int) (r : Ref) : sendW m (l ++ [x]) r = aput (sendW m l r) x (trayW x r) := by simp [sendW, trayW]
theorem send_does : DoesS 159 sendA fun _ _ => True := by
 intro b N L n w h hn _
 have hB1 : Below w.heap.size w (w.alloc (.cells #[.pointer (some ⟨b + 6, 0, none⟩)] 179)) := (Below.refl _ _).alloc (Nat.le_refl _) _
 have hB2 : Below w.heap.size w ((w.alloc (.cells #[.pointer (some ⟨b + 6, 0, none⟩)] 179)).alloc (.cells (encNote n) 43)) := hB1.alloc (by simp) _
 have hL2 : LedAt b N ((w.alloc (.cells #[.pointer (some ⟨b + 6, 0, none⟩)] 179)).alloc (.cells (encNote n) 43)) L := h.below hB2
 have hbc : BoxAt ((w.alloc (.cells #[.pointer (some ⟨b + 6, 0, none⟩)] 179)).alloc (.cells (encNote n) 43)) w.heap.size 179 #[.pointer (some ⟨b + 6, 0, none⟩)] := (BoxAt.new _ _ _).alloc _
 have hbn : BoxAt ((w.alloc (.cells #[.pointer (some ⟨b + 6, 0, none⟩)] 179)).alloc (.cells (encNote n) 43)) (w.heap.size + 1) 43 (encNote n) := BoxAt.newN _ _ _ (by simp)
 have hn2 : okNote (LD b N) ((w.alloc (.cells #[.pointer (some ⟨b + 6, 0, none⟩)] 179)).alloc (.cells (encNote n) 43)) n := okNote.ext hn (.of_below hB2)
 have hlt := h.lt7
 have HCT := Lib.hid (contains_send (.pointer (some ⟨w.heap.size, 0, none⟩)) (.pointer (some ⟨w.heap.size + 1, 0, none⟩)) (LD b N) n.pieces ((w.alloc (.cells #[.pointer (some ⟨b + 6, 0, none⟩)] 179)).alloc (.cells (encNote n) 43)) (okNote_pieces hn2) (fun p => !atW L.wher p n.bench)
  fun x hx W hW => send1_any b N w.heap.size L n x W (hL2.below hW) (hbc.belowAll hW) (hbn.belowAll hW) hx)
 have HS := Lib.hid (okNote_pieces hn2)
 have HNM := Lib.hid (okNote_name hn2)
 have HL2 := Lib.hid hL2
 have HTO : Hid (I64 n.to) := Lib.hid (by have := hn2; simp only [okNote] at this; exact this.2.2.2.2.2.2.2.2.2.1)
 have HOKW : Hid (∀ p ∈ L.wher, okWhere (LD b N) ((w.alloc (.cells #[.pointer (some ⟨b + 6, 0, none⟩)] 179)).alloc (.cells (encNote n) 43)) p.2) := Lib.hid hL2.okW
 clear h hn hL2 hn2
 by_cases heq : n.to = n.bench
 ·have e0 : sendNo L n = true := by simp [sendNo, heq]
  obtain ⟨e1, e2⟩ := Does.of_no (sendL_abs L n) e0
  have E1 := Lib.hid e1
  have E2 := Lib.hid e2
  clear e0 e1 e2
  go_enter Tryz.func159, Tryz.ntmps159
  go_wp2
  go_ret
  exact ⟨L, by rw [E1.out]; rfl, E2.out, HL2.out, .of_below hB2⟩
 by_cases hany : (n.pieces.val.any fun p => !atW L.wher p n.bench) = true
 ·have e0 : sendNo L n = true := by simp only [sendNo, hany]; simp
  obtain ⟨e1, e2⟩ := Does.of_no (sendL_abs L n) e0
  have E1 := Lib.hid e1
  have E2 := Lib.hid e2
  have HANY := Lib.hid hany
  clear e0 e1 e2 hany
  go_enter Tryz.func159, Tryz.ntmps159
  go_wp2_with (go_at_call 187; refine HCT.out.mono ?_; rintro e w1 ⟨rfl, hb1⟩; rw [HANY.out])
  go_ret
  exact ⟨L, by rw [E1.out]; rfl, E2.out, HL2.out.below hb1, .of_below (Below.call hB2 hb1 (Nat.le_refl _))⟩
 have e0 : ¬ sendNo L n = true := by simp only [sendNo, heq, decide_false, Bool.false_or]; exact hany
 obtain ⟨e1, e2⟩ := Does.of_yes (sendL_abs L n) e0
 have E1 := Lib.hid e1
 have E2 := Lib.hid e2
 have HANY : Hid ((n.pieces.val.any fun p => !atW L.wher p n.bench) = false) := Lib.hid (by simpa using hany)
 clear e0 e1 e2 hany
 go_enter Tryz.func159, Tryz.ntmps159
 go_wp2_with (go_at_call 187; refine HCT.out.mono ?_; rintro e w1 ⟨rfl, hb1⟩; rw [HANY.out]; have hbn1 := hbn.belowAll hb1; have hcp : w1.cell? ⟨w.heap.size + 1, 14, none⟩ = some n.pieces.v := (hbn1.cell 14).trans rfl; clear hbn1)
 have hs1 : w.heap.size + 2 ≤ w1.heap.size := by have := hb1.size; simp at this; omega
 have HC1 : Hid (Chg b w.heap.size w w1) := Lib.hid (.of_below (Below.call hB2 hb1 (Nat.le_refl _)))
 have HL1 := Lib.hid (HL2.out.below hb1)
 have HS1 : Hid (Sl.OK 1 encInt okInt (LD b N) w1 n.pieces) := Lib.hid (okInts_ext HS.out (.of_below (D := LD b N) hb1))
 have hN1 : N ≤ w1.heap.size := HL1.out.le
 have hbc1 := hbc.belowAll hb1
 have hbn1 := hbn.belowAll hb1
 have hroom := HS.out.room
 obtain ⟨sl, hsl⟩ : ∃ sl, n.pieces = sl := ⟨_, rfl⟩
 have HSL := Lib.hid hsl
 rw [hsl] at HS1 hroom ⊢
 clear hcp hsl hb1 HCT HS hbc hbn
 obtain ⟨a, cap, val⟩ := sl
 simp only at hroom
 go_wp2
 go_loopw [6, 21] (fun _ i wr => ∃ k : Nat, k ≤ val.length ∧ i = .int .i64 k ∧ Hid (LedAt b N wr { L with wher := sendW L.wher (val.take k) (refN n) }) ∧ BoxAt wr w.heap.size 179 #[.pointer (some ⟨b + 6, 0, none⟩)] ∧ BoxAt wr (w.heap.size + 1) 43 (encNote n) ∧ Hid (Chg b w1.heap.size w1 wr)) (fun _ i _ => val.length - (intOf i).toNat)
 case atStart => exact ⟨0, Nat.zero_le _, rfl, Lib.hid (by simpa [sendW] using HL1.out), hbc1, hbn1, Lib.hid (Chg.refl _ _ _)⟩
 case round =>
  obtain ⟨k, hk, rfl, HL, hbc, hbn, HCh⟩ := hrel
  by_cases hlt : k < val.length
  ·obtain ⟨x, hx⟩ : ∃ x, val[k]? = some x := ⟨_, List.getElem?_eq_getElem hlt⟩
   obtain ⟨bb, o, rfl, hb, hnd, hok, hcell⟩ := HS1.out.at hx
   have hcx : wr.cell? ⟨bb, o + k, none⟩ = some (vi x) := by
    have h1 := hcell 0 (by decide)
    rw [(HCh.out.weak hN1).ext.cell hb hnd]
    simpa [encInt] using h1
   have hi1 : (k : Int) < (val.length : Int) := by omega
   have HX := Lib.hid hx
   have HOK : Hid (I64 x) := Lib.hid hok
   have HLd := Lib.hid HL.out.drew
   have hbcd := hbc.drew
   have hbnd := hbn.drew
   have hgl : b + 6 < wr.drew.heap.size := by have := HLd.out.lt7; omega
   clear hx hok hcell hnd hb
   go_wp2
   refine wp_region_mark 9 [(4, none), (5, none), (0, some true), (1, none), (2, none), (3, some true), (6, some true), (7, some false), (8, none), (9, some false)] rfl (by kernel_rfl) (by kernel_rfl) (fun d _ _ _ _ h => by cases d <;> exact h) ?_
   iterate 2 (refine wpC_pure rfl rfl (fun W => by go_simp; with_reducible rfl) ?_; simp only [pTs, pTn, pTz, pTc])
   refine wpC_fix (v := .pointer (some ⟨b + 6, 0, none⟩)) rfl rfl (fun W hW => by have e : W.cell? ⟨w.heap.size, 0, none⟩ = some (.pointer (some ⟨b + 6, 0, none⟩)) := ((hbcd.belowAll hW).cell 0).trans rfl; go_simp) ?_; simp only [pTs, pTn, pTz, pTc]
   iterate 2 (refine wpC_pure rfl rfl (fun W => by go_simp; with_reducible rfl) ?_; simp only [pTs, pTn, pTz, pTc])
   refine wpC_fix (v := .map (some (b + 1))) rfl rfl (fun W hW => by have e : W.cell? ⟨b + 6, 1, none⟩ = some (.map (some (b + 1))) := (hW.cell (p := ⟨b + 6, 1, none⟩) hgl).trans HLd.out.cW; go_simp) ?_; simp only [pTs, pTn, pTz, pTc]
   refine wpC_fix (v := .agg (encNote n)) rfl rfl (fun W hW => run_load_box (encNote n) (hbnd.belowAll hW) rfl (whole_cells _) Tryz.underlying43 rfl (by kernel_rfl)) ?_; simp only [pTs, pTn, pTz, pTc]
   refine wpC_act rfl rfl rfl (fun K hK => ?_)
   go_simp
   refine (refOf_any n _).mono ?_
   rintro e w2 ⟨rfl, hb2⟩
   refine hK _ _ hb2 ?_
   clear hK K
   try simp only [pTs, pTn, pTz, pTc]
   refine wpC_pure rfl rfl (fun W => by go_simp; with_reducible rfl) ?_; simp only [pTs, pTn, pTz, pTc]
   refine wpC_mark rfl rfl (fun K hK => ?_)
   refine wp_store_map _ _ _ 184 rfl intKey Tryz.underlying184 rfl (HLd.out.below hb2).wher x HOK.out rfl (trayW x (refN n)) rfl ?_
   intro w3 hm hT
   have hL3 := (HLd.out.below hb2).setW hm hT (fun p hp => by rcases mem_aput hp with rfl | hp; exact ⟨HOK.out, (show I64 2 from by unfold I64; decide), I64_zero, I64_zero, HNM.out.1, HNM.out.2⟩; exact (HLd.out.below hb2).okW p hp)
   have HL3 := Lib.hid hL3
   have HC3 : Hid (Chg b w1.heap.size w1 w3) := Lib.hid (HCh.out.trans ((Chg.of_below ((Below.refl _ _).drew)).trans ((Chg.of_below hb2).trans (Chg.of_turn hT (.inl (by omega))))))
   have hbc3 := (hbcd.belowAll hb2).turn hT (by omega)
   have hbn3 := (hbnd.belowAll hb2).turn hT (by omega)
   clear hT hm hL3
   refine hK _ _ ?_
   clear hK K
   try simp only [pTs, pTn, pTz, pTc]
   simp only [wpC]
   go_wp2
   go_roundw
   case rel => exact ⟨k + 1, by omega, by go_num, Lib.hid (by rw [take_snoc HX.out, sendW_snoc]; exact HL3.out), hbc3, hbn3, HC3⟩
   case measure => simp [intOf]; omega
  ·have hk' : k = val.length := by omega
   have hLF : LedAt b N wr { L with wher := sendW L.wher val (refN n) } := by have h := HL.out; rwa [hk', List.take_length] at h
   have HLd := Lib.hid hLF.drew
   have hS : SendS b w.heap.size n wr.drew := ⟨by omega, hbc.drew, hbn.drew, by obtain ⟨vr, vc, h1, _⟩ := hLF.drew.box; exact ⟨vr, vc, h1⟩⟩
   have HCd : Hid (Chg b w1.heap.size w1 wr.drew) := Lib.hid (HCh.out.trans (.of_below ((Below.refl _ _).drew)))
   have HCF : Hid (Chg b w.heap.size w wr.drew) := Lib.hid (HC1.out.trans (HCd.out.weak HC1.out.size))
   clear hLF HL HCh hbc hbn
   go_wp2
   refine wp_region_S (SendS b w.heap.size n) [(0, true), (1, true), (2, true), (3, true), (4, true), (6, true), (7, true), (8, true), (9, true), (10, true), (12, true), (13, true), (14, true), (15, true), (5, false), (11, false), (16, false), (17, true), (18, false), (19, false), (20, true), (21, false)] rfl (by kernel_rfl) (by kernel_rfl) (fun d _ _ _ _ h => by cases d <;> exact h) hS ?_
   refine wpS_fix (v := .pointer (some ⟨b + 6, 0, none⟩)) rfl rfl (fun W hW => by have e := hW.cP; go_simp) ?_; simp only [pTs, pTn, pTz, pTc]
   iterate 2 (refine wpS_fix rfl rfl (fun W hW => by go_simp; with_reducible rfl) ?_; simp only [pTs, pTn, pTz, pTc])
   refine wpS_fix (v := .map (some (b + 4))) rfl rfl (fun W hW => by have e := hW.cT; go_simp) ?_; simp only [pTs, pTn, pTz, pTc]
   refine wpS_fix (v := .agg (encNote n)) rfl rfl (fun W hW => run_load_box (encNote n) hW.note rfl (whole_cells _) Tryz.underlying43 rfl (by kernel_rfl)) ?_; simp only [pTs, pTn, pTz, pTc]
   refine wpS_fix (v := .pointer (some ⟨b + 6, 0, none⟩)) rfl rfl (fun W hW => by have e := hW.cP; go_simp) ?_; simp only [pTs, pTn, pTz, pTc]
   iterate 2 (refine wpS_fix rfl rfl (fun W hW => by go_simp; with_reducible rfl) ?_; simp only [pTs, pTn, pTz, pTc])
   refine wpS_fix (v := .map (some (b + 5))) rfl rfl (fun W hW => by have e := hW.cO; go_simp) ?_; simp only [pTs, pTn, pTz, pTc]
   refine wpS_fix (v := .agg (encNote n)) rfl rfl (fun W hW => run_load_box (encNote n) hW.note rfl (whole_cells _) Tryz.underlying43 rfl (by kernel_rfl)) ?_; simp only [pTs, pTn, pTz, pTc]
   refine wpS_fix rfl rfl (fun W hW => by go_simp; with_reducible rfl) ?_; simp only [pTs, pTn, pTz, pTc]
   refine wpS_fix (v := n.pieces.v) rfl rfl (fun W hW => by have e : W.cell? ⟨w.heap.size + 1, 14, none⟩ = some n.pieces.v := (hW.note.cell 14).trans rfl; go_simp) ?_; simp only [pTs, pTn, pTz, pTc]
   refine wpS_fix rfl rfl (fun W hW => by go_simp; with_reducible rfl) ?_; simp only [pTs, pTn, pTz, pTc]
   refine wpS_fix (v := vi n.to) rfl rfl (fun W hW => by have e : W.cell? ⟨w.heap.size + 1, 9, none⟩ = some (vi n.to) := (hW.note.cell 9).trans rfl; go_simp) ?_; simp only [pTs, pTn, pTz, pTc]
   refine wpS_act rfl rfl (fun K hK => ?_)
   go_simp
   refine (refOf_any n _).mono ?_
   rintro e w2 ⟨rfl, hb2⟩
   have hS := hS.below hb2
   refine hK _ _ hS ?_
   clear hK K
   try simp only [pTs, pTn, pTz, pTc]
   refine wpS_act rfl rfl (fun K hK => ?_)
   go_simp
   refine (refOf_any n _).mono ?_
   rintro e w3 ⟨rfl, hb3⟩
   have hS := hS.below hb3
   have HLe := Lib.hid ((HLd.out.below hb2).below hb3)
   have HCe := Lib.hid (HCF.out.trans ((Chg.of_below hb2).trans (Chg.of_below hb3)))
   have HSP : Hid (Sl.OK 1 encInt okInt (LD b N) w3 n.pieces) := Lib.hid (by rw [HSL.out]; exact okInts_ext HS1.out (((HCd.out.trans ((Chg.of_below hb2).trans (Chg.of_below hb3))).weak hN1).ext))
   clear hb2 hb3
   refine hK _ _ hS ?_
   clear hK K
   try simp only [pTs, pTn, pTz, pTc]
   refine wpS_act rfl rfl (fun K hK => ?_)
   refine wp_map_entry _ _ 187 rfl refKey Tryz.underlying187 Sl.nil zeroInts rfl HLe.out.trays (refN n) HNM.out rfl ?_
   intro w4 st v hE hT4
   have hS := hS.turn hT4 (by omega)
   refine hK _ _ hS ?_
   clear hK K
   try simp only [pTs, pTn, pTz, pTc]
   refine wpS_fix rfl rfl (fun W hW => by go_simp; with_reducible rfl) ?_; simp only [pTs, pTn, pTz, pTc]
   refine wpS_act rfl rfl (fun K hK => ?_)
   refine wp_entry_store _ _ _ 187 rfl rfl hE rfl n.pieces rfl ?_
   intro w5 hm5 hT5
   have hS := hS.turn hT5 (by omega)
   have HL5 := Lib.hid (HLe.out.setT hm5 (hT4.trans hT5) (fun p hp => by rcases mem_aput hp with rfl | hp; exact HSP.out; exact HLe.out.okT p hp))
   have HC5 := Lib.hid (HCe.out.trans (Chg.of_turn (hT4.trans hT5) (.inl (by omega))))
   clear hT4 hT5 hm5 hE
   refine hK _ _ hS ?_
   clear hK K
   try simp only [pTs, pTn, pTz, pTc]
   refine wpS_act rfl rfl (fun K hK => ?_)
   refine wp_map_entry _ _ 188 rfl refKey Tryz.underlying188 0 zeroI rfl HL5.out.to_ (refN n) HNM.out rfl ?_
   intro w6 st v hE hT4
   have hS := hS.turn hT4 (by omega)
   refine hK _ _ hS ?_
   clear hK K
   try simp only [pTs, pTn, pTz, pTc]
   refine wpS_fix rfl rfl (fun W hW => by go_simp; with_reducible rfl) ?_; simp only [pTs, pTn, pTz, pTc]
   refine wpS_act rfl rfl (fun K hK => ?_)
   refine wp_entry_store _ _ _ 188 rfl rfl hE rfl n.to rfl ?_
   intro w7 hm7 hT5
   have hS := hS.turn hT5 (by omega)
   have HL7 := Lib.hid (HL5.out.setO hm7 (hT4.trans hT5) (fun p hp => by rcases mem_aput hp with rfl | hp; exact HTO.out; exact HL5.out.okO p hp))
   have HC7 := Lib.hid (HC5.out.trans (Chg.of_turn (hT4.trans hT5) (.inl (by omega))))
   clear hT4 hT5 hm7 hE
   refine hK _ _ hS ?_
   clear hK K
   try simp only [pTs, pTn, pTz, pTc]
   simp only [wpS]
   go_wp2
   go_ret
   refine ⟨by rw [E1.out]; rfl, sendL L n, E2.out, ?_, HC7.out⟩
   have e3 : sendL L n = { { { L with wher := sendW L.wher val (refN n) } with trays := aput L.trays (refN n) n.pieces } with to_ := aput L.to_ (refN n) n.to } := by simp only [sendL, HSL.out]
   rw [e3]; exact HL7.out
end Go.Proofs.YtnmgfnpphglphaaGreat
