/-
  Walks; the sides of a web, how often a side is in walks.
  How often a side is in walks.
  .. where two operations that make memory may come up in either order: both ways.
  WebRounds answers true.
-/
import Derived.Test.YtbbblemfodpmaaaGreatWebGr
import Derived.Test.YtbbblemfodpmaaaGreatWebGn
import Derived.Test.YtbbblemfodpmaaaGreatOrd
import Derived.Test.YtbbblemfodpmaaaGreatWebGm
set_option maxHeartbeats 16000000
set_option maxRecDepth 100000
section
set_option linter.unusedVariables false
set_option linter.unusedSimpArgs false
namespace Go.Proofs.YtbbblemfodpmaaaGreat
open Go.RowKit
theorem Walks_ok (sj : Sl Joint) (sl : Sl Lead) (w : World) (hj : sj.OK 3 encJoint okJoint (fun _ => False) w) (hl : sl.OK 8 encLead okLead (fun _ => False) w) (h0 : (checkA sj.val sl.val).1 = 0) :
  Calls Tryz.prog 39 #[.agg #[.slice sj.a sj.val.length sj.cap, .slice sl.a sl.val.length sl.cap]] w fun e w' => ∃ v, e = .returned (.tuple #[v, .int .i64 0]) ∧ OwnSS w' w.heap.size v (walksA sj.val sl.val) ∧ Below w.heap.size w w' := by
 have HV := Lib.hid (valid_w h0)
 have hB : Below w.heap.size w (w.alloc (.cells #[.slice sj.a sj.val.length sj.cap, .slice sl.a sl.val.length sl.cap] 25)) := (Below.refl _ _).alloc (Nat.le_refl _) _
 have hb : BoxAt (w.alloc (.cells #[.slice sj.a sj.val.length sj.cap, .slice sl.a sl.val.length sl.cap] 25)) w.heap.size 25 #[.slice sj.a sj.val.length sj.cap, .slice sl.a sl.val.length sl.cap] := BoxAt.new _ _ _
 have HVA := Lib.hid (valid_ok sj sl _ (hj.jmoved hB) (hl.lmoved hB) h0)
 have HL := Lib.hid (hl.lmoved hB)
 have HB := Lib.hid hB
 clear hj hl h0 hB
 go_enter Tryz.func39, Tryz.ntmps39
 go_wp2_with (first
  | ((with_reducible refine at_dst 7 ?_); refine wpList_loadB hb rfl 25 _ rfl rfl #[.slice sj.a sj.val.length sj.cap, .slice sl.a sl.val.length sl.cap] (whole_cells _) Tryz.underlying25 rfl (by kernel_rfl) ?_)
  | (go_at_call 86; refine HVA.out.mono ?_; rintro e w1 ⟨b, rfl, hbb, hn1, hb1⟩)
  | (go_at_call 96; refine (walks_any HV.out w1 hn1 (HL.out.lmoved hb1)).mono ?_; rintro e w2 ⟨v, rfl, ho, hb2⟩))
 go_ret2
 have hB1 := HB.out.trans (hb1.mono HB.out.size)
 have hle : w.heap.size ≤ w1.heap.size + 1 := Nat.le_trans hB1.size (Nat.le_succ _)
 obtain ⟨ss, h1, h2, h3⟩ := ho
 exact ⟨v, rfl, ⟨ss, h1.base_le hle, fun s hs => (h2 s hs).base_le hle, h3⟩, hB1.trans (hb2.mono hB1.size)⟩
theorem Walks_bad (sj : Sl Joint) (sl : Sl Lead) (w : World) (hj : sj.OK 3 encJoint okJoint (fun _ => False) w) (hl : sl.OK 8 encLead okLead (fun _ => False) w) (h0 : (checkA sj.val sl.val).1 ≠ 0) :
  Calls Tryz.prog 39 #[.agg #[.slice sj.a sj.val.length sj.cap, .slice sl.a sl.val.length sl.cap]] w fun e w' => e = .returned (.tuple #[.slice none 0 0, .int .i64 (checkA sj.val sl.val).1]) ∧ Below w.heap.size w w' := by
 have hB : Below w.heap.size w (w.alloc (.cells #[.slice sj.a sj.val.length sj.cap, .slice sl.a sl.val.length sl.cap] 25)) := (Below.refl _ _).alloc (Nat.le_refl _) _
 have hb : BoxAt (w.alloc (.cells #[.slice sj.a sj.val.length sj.cap, .slice sl.a sl.val.length sl.cap] 25)) w.heap.size 25 #[.slice sj.a sj.val.length sj.cap, .slice sl.a sl.val.length sl.cap] := BoxAt.new _ _ _
 have HVA := Lib.hid (valid_bad sj sl _ (hj.jmoved hB) (hl.lmoved hB) h0)
 have HB := Lib.hid hB
 obtain ⟨n, hn⟩ : ∃ n, (checkA sj.val sl.val).1 = n := ⟨_, rfl⟩
 simp only [hn] at HVA h0 ⊢
 clear hj hl hB hn
 go_enter Tryz.func39, Tryz.ntmps39
 go_wp2_with (first
  | ((with_reducible refine at_dst 7 ?_); refine wpList_loadB hb rfl 25 _ rfl rfl #[.slice sj.a sj.val.length sj.cap, .slice sl.a sl.val.length sl.cap] (whole_cells _) Tryz.underlying25 rfl (by kernel_rfl) ?_)
  | (go_at_call 86; refine HVA.out.mono ?_; rintro e w1 ⟨rfl, hb1⟩))
 go_ret2
 exact ⟨rfl, HB.out.trans (hb1.mono HB.out.size)⟩
theorem sides_snoc : ∀ (l : List Lead) (x : Lead), sidesA (l ++ [x]) = sidesA l ++ [⟨x.id, false⟩, ⟨x.id, true⟩]
 | [], x => rfl
 | y :: l, x => by simp only [List.cons_append, sidesA, sides_snoc l x]
theorem two_cells (W : World) (i : Int) : ∀ (j : Nat) (y : Side), ([⟨i, false⟩, ⟨i, true⟩] : List Side)[j]? = some y → ∀ q, q < 2 → (W.alloc (.cells #[.int .i64 i, .bool false, .int .i64 i, .bool true] 59)).cell? ⟨W.heap.size, 0 + j * 2 + q, none⟩ = (encSide y)[q]? := by
 intro j y hj q hq
 have h := fun j => (BoxAt.new W 59 #[.int .i64 i, .bool false, .int .i64 i, .bool true]).cell j
 rcases j with _ | _ | j
 ·simp at hj; subst hj
  rcases q with _ | _ | q
  ·exact (h 0).trans rfl
  ·exact (h 1).trans rfl
  ·omega
 ·simp at hj; subst hj
  rcases q with _ | _ | q
  ·exact (h 2).trans rfl
  ·exact (h 3).trans rfl
  ·omega
 ·simp at hj
theorem sides_any (sj : Sl Joint) (sl : Sl Lead) (w : World) (hl : sl.OK 8 encLead okLead (fun _ => False) w) (h8 : sl.val.length ≤ 1000) :
  Calls Tryz.prog 43 #[.agg #[.slice sj.a sj.val.length sj.cap, .slice sl.a sl.val.length sl.cap]] w fun e w' => ∃ v, e = .returned v ∧ OwnL encSide 2 w' w.heap.size 59 v (sidesA sl.val) ∧ Below w.heap.size w w' := by
 have HL := Lib.hid hl
 clear hl
 obtain ⟨jv, hjv⟩ : ∃ z, Value.slice sj.a sj.val.length sj.cap = z := ⟨_, rfl⟩
 obtain ⟨a, cap, val⟩ := sl
 simp only [hjv] at h8 HL ⊢
 clear hjv
 obtain ⟨n, hn⟩ : ∃ n, val.length = n := ⟨_, rfl⟩
 have HN := Lib.hid hn
 rw [hn] at h8 ⊢
 clear hn
 have HB0 : Hid (Below w.heap.size w (w.alloc (.cells #[jv, .slice a n cap] 25))) := Lib.hid ((Below.refl _ _).alloc (Nat.le_refl _) _)
 have HX0 := Lib.hid (BoxAt.new w 25 #[jv, .slice a n cap])
 have HZ0 : Hid (w.heap.size + 1 ≤ (w.alloc (.cells #[jv, .slice a n cap] 25)).heap.size) := Lib.hid (by simp)
 go_enter Tryz.func43, Tryz.ntmps43
 go_wp2
 go_loopw [3, 4] (fun v i wr => ∃ k : Nat, k ≤ n ∧ i = .int .i64 k ∧ Hid (OwnL encSide 2 wr (w.heap.size + 1) 59 v (sidesA (val.take k))) ∧ Hid (Below w.heap.size w wr ∧ BoxAt wr w.heap.size 25 #[jv, .slice a n cap] ∧ w.heap.size + 1 ≤ wr.heap.size)) (fun _ i _ => n - (intOf i).toNat)
 case atStart => exact ⟨0, Nat.zero_le _, rfl, Lib.hid (OwnL.nil _ _ _ _ _), Lib.hid ⟨HB0.out, HX0.out, HZ0.out⟩⟩
 case round =>
  obtain ⟨k, hk, rfl, HOW, HS1⟩ := hrel
  have q1 : wr.cell? ⟨w.heap.size, 1, none⟩ = some (.slice a n cap) := (HS1.out.2.1.cell 1).trans rfl
  by_cases hlt : k < n
  ·obtain ⟨x, hx⟩ : ∃ x, val[k]? = some x := ⟨_, List.getElem?_eq_getElem (by rw [HN.out]; exact hlt)⟩
   obtain ⟨bb, o, rfl, hbb, _, _, hc⟩ := HL.out.at hx
   have HCX : Hid (∀ W, Below w.heap.size w W → W.cell? ⟨bb, o + k * 8, none⟩ = some (.int .i64 x.id)) := Lib.hid fun W hW => (hW.cell (p := ⟨bb, o + k * 8, none⟩) hbb).trans ((hc 0 (by decide : 0 < 8)).trans rfl)
   have HX := Lib.hid hx
   have HLN : Hid ((sidesA (val.take k)).length + 2 ≤ 4294967296) := Lib.hid (by rw [sides_length, List.length_take]; omega)
   have HGR : Hid (∀ w6, (wr.drew.alloc (.cells #[.int .i64 x.id, .bool false, .int .i64 x.id, .bool true] 59)).grownBy w6 u3.ownBlock → Below w.heap.size w w6 ∧ BoxAt w6 w.heap.size 25 #[jv, .slice (some ⟨bb, o, none⟩) n cap] ∧ w.heap.size + 1 ≤ w6.heap.size) := Lib.hid fun w6 hg => by
    have h1 := HS1.out.1.trans ((((Lays.refl wr).drew.alloc (.cells #[.int .i64 x.id, .bool false, .int .i64 x.id, .bool true] 59)).below (Nat.le_refl _)).mono HS1.out.1.size)
    have hne : ∀ g, u3.ownBlock = some g → w.heap.size + 1 ≤ g := fun g e => (HOW.out.block g e).1
    refine ⟨h1.grown hg h1.size fun g e => by have := hne g e; omega, (HS1.out.2.1.drew.alloc _).of_block (hg.block _ (Nat.lt_of_lt_of_le (Nat.lt_of_succ_le HS1.out.2.2) (by simp)) fun e => by have := hne _ e.symm; omega), Nat.le_trans HS1.out.2.2 (Nat.le_trans (by simp) hg.size)⟩
   have HS2 : Hid (Below w.heap.size w wr.drew ∧ BoxAt wr.drew w.heap.size 25 #[jv, .slice (some ⟨bb, o, none⟩) n cap] ∧ w.heap.size + 1 ≤ wr.drew.heap.size) := Lib.hid ⟨HS1.out.1.trans (((Lays.refl wr).drew.below (Nat.le_refl _)).mono HS1.out.1.size), HS1.out.2.1.drew, Nat.le_trans HS1.out.2.2 (by simp)⟩
   clear hx hc hbb
   go_wp2
   refine wp_region_S (fun W => Below w.heap.size w W ∧ BoxAt W w.heap.size 25 #[jv, .slice (some ⟨bb, o, none⟩) n cap] ∧ w.heap.size + 1 ≤ W.heap.size) [(0, true), (1, true), (2, true), (3, true), (4, true), (5, true), (6, true), (7, true), (8, true), (9, true), (10, true), (11, true), (12, true), (13, true), (14, true), (15, false), (16, false), (17, true)] rfl (by kernel_rfl) (by kernel_rfl) (fun d _ _ _ _ h => by cases d <;> exact h) HS2.out ?_
   iterate 2 (refine wpS_fix rfl rfl (fun W hW => by go_simp; with_reducible rfl) ?_; simp only [pTs, pTn, pTz, pTc])
   refine wpS_fix (v := .slice (some ⟨bb, o, none⟩) n cap) rfl rfl (fun W hW => by have e : W.cell? ⟨w.heap.size, 1, none⟩ = some (.slice (some ⟨bb, o, none⟩) n cap) := (hW.2.1.cell 1).trans rfl; go_simp) ?_; simp only [pTs, pTn, pTz, pTc]
   iterate 3 (refine wpS_fix rfl rfl (fun W hW => by go_simp; with_reducible rfl) ?_; simp only [pTs, pTn, pTz, pTc])
   refine wpS_fix (v := .int .i64 x.id) rfl rfl (fun W hW => by have e : W.cell? ⟨bb, o + k * 8, none⟩ = some (.int .i64 x.id) := HCX.out W hW.1; go_simp) ?_; simp only [pTs, pTn, pTz, pTc]
   iterate 2 (refine wpS_fix rfl rfl (fun W hW => by go_simp; with_reducible rfl) ?_; simp only [pTs, pTn, pTz, pTc])
   refine wpS_fix (v := .slice (some ⟨bb, o, none⟩) n cap) rfl rfl (fun W hW => by have e : W.cell? ⟨w.heap.size, 1, none⟩ = some (.slice (some ⟨bb, o, none⟩) n cap) := (hW.2.1.cell 1).trans rfl; go_simp) ?_; simp only [pTs, pTn, pTz, pTc]
   iterate 3 (refine wpS_fix rfl rfl (fun W hW => by go_simp; with_reducible rfl) ?_; simp only [pTs, pTn, pTz, pTc])
   refine wpS_fix (v := .int .i64 x.id) rfl rfl (fun W hW => by have e : W.cell? ⟨bb, o + k * 8, none⟩ = some (.int .i64 x.id) := HCX.out W hW.1; go_simp) ?_; simp only [pTs, pTn, pTz, pTc]
   refine wpS_fix rfl rfl (fun W hW => by go_simp; with_reducible rfl) ?_; simp only [pTs, pTn, pTz, pTc]
   refine wpS_act rfl rfl (fun K hK => ?_)
   go_simp
   refine hK _ _ ⟨HS1.out.1.trans ((((Lays.refl wr).drew.alloc _).below (Nat.le_refl _)).mono HS1.out.1.size), HS1.out.2.1.drew.alloc _, Nat.le_trans HS1.out.2.2 (by simp)⟩ ?_
   clear hK K
   try simp only [pTs, pTn, pTz, pTc]
   refine wpS_act rfl rfl (fun K hK => ?_)
   refine wp_append_moreAt _ _ 62 rfl (w.heap.size + 1) einfo_Side (fun _ => rfl) (by decide) encSide_one (by decide) u3 (sidesA (val.take k)) rfl (HOW.out.belowAll (((Lays.refl wr).drew.alloc _).below (Nat.le_refl _))) wr.drew.heap.size 0 2 [⟨x.id, false⟩, ⟨x.id, true⟩] rfl (two_cells _ x.id) HLN.out (Nat.le_trans HS1.out.2.2 (by simp)) ?_
   intro v2 w6 ho6 hg6 hv6
   refine hK _ _ (HGR.out _ hg6) ?_
   clear hK K
   try simp only [pTs, pTn, pTz, pTc]
   refine wpS_fix rfl rfl (fun W hW => by go_simp; with_reducible rfl) ?_; simp only [pTs, pTn, pTz, pTc]
   simp only [wpS]
   go_wp2
   go_roundw
   case rel =>
    have h6 := HGR.out _ hg6
    refine ⟨k + 1, by omega, by go_num, Lib.hid ?_, Lib.hid h6⟩
    rw [List.take_add_one, HX.out]
    show OwnL encSide 2 w6 (w.heap.size + 1) 59 v2 (sidesA (val.take k ++ [x]))
    rw [sides_snoc]; exact ho6
   case measure => simp [intOf]; omega
  ·go_wp2
   go_ret
   have hkn : k = n := by omega
   subst hkn
   refine ⟨_, rfl, ?_, HS1.out.1⟩
   have h := HOW.out
   rw [List.take_of_length_le (by rw [HN.out]; exact Nat.le_refl _)] at h
   exact h.base_le (Nat.le_succ _)
end Go.Proofs.YtbbblemfodpmaaaGreat
end
section
set_option linter.unusedVariables false
set_option linter.unusedSimpArgs false
namespace Go.Proofs.YtbbblemfodpmaaaGreat
open Go.RowKit
theorem flat_take {α : Type} {L : List (List α)} {k : Nat} {l : List α} (h : L[k]? = some l) : (L.take (k + 1)).flatten = (L.take k).flatten ++ l := by
 rw [List.take_add_one, h]; simp
theorem flat_take_le {α : Type} (L : List (List α)) (k : Nat) : (L.take k).flatten.length ≤ L.flatten.length := by
 conv => rhs; rw [← List.take_append_drop k L, List.flatten_append, List.length_append]
 omega
theorem times_any {N : Nat} (v : Value) (L : List (List Side)) (s : Side) (w : World) (hv : OwnSS w N v L) (hL : L.length ≤ 1000) (hf : L.flatten.length ≤ 1000) :
  Calls Tryz.prog 44 #[v, .agg (encSide s)] w fun e w' => e = .returned (.int .i64 (L.flatten.count s : Nat)) ∧ Below w.heap.size w w' := by
 obtain ⟨va, vc, rfl⟩ := hv.shape
 have HV := Lib.hid hv
 have HF := Lib.hid hf
 clear hv hf
 have HB0 : Hid (Below w.heap.size w (w.alloc (.cells (encSide s) 59))) := Lib.hid ((Below.refl _ _).alloc (Nat.le_refl _) _)
 have HSB : Hid (∀ W, Below (w.heap.size + 1) (w.alloc (.cells (encSide s) 59)) W → BoxAt W w.heap.size 59 (encSide s)) := Lib.hid fun W hW => (BoxAt.new w 59 (encSide s)).belowAll (by rw [World.size_alloc]; exact hW)
 have HR0 : Hid (Below (w.heap.size + 1) (w.alloc (.cells (encSide s) 59)) (w.alloc (.cells (encSide s) 59))) := Lib.hid (Below.refl _ _)
 have HTR : Hid (∀ W, Below (w.heap.size + 1) (w.alloc (.cells (encSide s) 59)) W → Below w.heap.size w W) := Lib.hid fun W hW => HB0.out.trans (hW.mono (Nat.le_succ _))
 obtain ⟨n, hn⟩ : ∃ n, L.length = n := ⟨_, rfl⟩
 have HN := Lib.hid hn
 rw [hn] at hL ⊢
 clear hn
 go_enter Tryz.func44, Tryz.ntmps44
 go_wp2
 go_loopw [5, 6] (fun c i wr => ∃ k : Nat, k ≤ n ∧ i = .int .i64 k ∧ c = .int .i64 (((L.take k).flatten.count s : Nat) : Int) ∧ Hid (Below (w.heap.size + 1) (w.alloc (.cells (encSide s) 59)) wr)) (fun _ i _ => n - (intOf i).toNat)
 case atStart => exact ⟨0, Nat.zero_le _, rfl, by simp, HR0⟩
 case round =>
  obtain ⟨k, hk, rfl, rfl, HB1⟩ := hrel
  by_cases hlt : k < n
  ·obtain ⟨l, hl⟩ : ∃ l, L[k]? = some l := ⟨_, List.getElem?_eq_getElem (by rw [HN.out]; exact hlt)⟩
   obtain ⟨g, cap, ⟨sa, sc, sv⟩, e, _, hg, hq, hsv, hos⟩ := HV.out.place hl
   simp only [Value.slice.injEq] at e
   obtain ⟨rfl, _, rfl⟩ := e
   simp only at hq hos hsv
   have HLt := Lib.hid hlt
   have HLG := Lib.hid hl
   have HOS := Lib.hid hos
   obtain ⟨m, hm⟩ : ∃ m, l.length = m := ⟨_, rfl⟩
   have HM := Lib.hid hm
   rw [hm] at hq
   have HQ : Hid (∀ W, Below (w.heap.size + 1) (w.alloc (.cells (encSide s) 59)) W → W.cell? ⟨g, k, none⟩ = some (.slice sa m sc)) := Lib.hid fun W hW => ((HTR.out W hW).cell (p := ⟨g, k, none⟩) hg).trans hq
   obtain ⟨c0, hc0⟩ : ∃ c, (L.take k).flatten.count s = c := ⟨_, rfl⟩
   have HC0 := Lib.hid hc0
   have HCB : Hid (c0 + m ≤ 1000) := Lib.hid (by
    have h1 := flat_take_le L (k + 1)
    rw [flat_take hl, List.length_append, hm] at h1
    have h2 := List.count_le_length (a := s) (l := (L.take k).flatten)
    have h3 := HF.out
    omega)
   have hm1000 : m ≤ 1000 := by have := HCB.out; omega
   simp only [hc0]
   clear hl hos hm hc0 hsv hq hg
   go_wp2
   go_loopw [5, 7] (fun c j wr2 => ∃ q : Nat, q ≤ m ∧ j = .int .i64 q ∧ c = .int .i64 ((c0 + (l.take q).count s : Nat) : Int) ∧ Hid (Below (w.heap.size + 1) (w.alloc (.cells (encSide s) 59)) wr2)) (fun _ j _ => m - (intOf j).toNat)
   case atStart => exact ⟨0, Nat.zero_le _, rfl, by simp, HB1⟩
   case round =>
    obtain ⟨q, hq, rfl, rfl, HB2⟩ := hrel
    have q1 := HQ.out _ HB2.out
    have HZZ : Hid (w.heap.size + 1 ≤ wr.heap.size) := Lib.hid (by have h := HB2.out.size; rwa [World.size_alloc] at h)
    by_cases hqlt : q < m
    ·obtain ⟨y, hy⟩ : ∃ y, l[q]? = some y := ⟨_, List.getElem?_eq_getElem (by rw [HM.out]; exact hqlt)⟩
     obtain ⟨g2, c2, e, _, hg2, hcy⟩ := OwnL.cellOf (enc := encSide) (sz := 2) (fun _ => rfl) HOS.out hy
     rw [HM.out] at e
     simp only [Value.slice.injEq, true_and] at e
     obtain ⟨rfl, rfl⟩ := e
     have HCY : Hid (∀ W, Below (w.heap.size + 1) (w.alloc (.cells (encSide s) 59)) W → ∀ j, j < (encSide y).size → W.cell? ⟨g2, q * 2 + j, none⟩ = (encSide y)[j]?) := Lib.hid fun W hW j hj => by
      rw [(HTR.out W hW).cell (p := ⟨g2, q * 2 + j, none⟩) hg2]; exact hcy j hj
     obtain ⟨cq, hcq⟩ : ∃ c, (l.take q).count s = c := ⟨_, rfl⟩
     have HCQ : Hid ((l.take (q + 1)).count s = cq + if y = s then 1 else 0) := Lib.hid (by
      rw [List.take_add_one, hy, List.count_append, hcq]
      by_cases h : y = s
      ·subst h; simp
      ·simp [h])
     have HC1 : c0 + cq + 1 ≤ 1001 := by
      have h := List.count_le_length (a := s) (l := l.take q)
      rw [hcq, List.length_take] at h
      have := HCB.out
      omega
     have W1 : IntKind.i64.wrap (((c0 + cq : Nat) : Int) + 1) = ((c0 + cq + 1 : Nat) : Int) := by rw [IntWalk.i64_in _ (by omega)]; rfl
     simp only [hcq]
     clear hy hcy hcq
     by_cases hys : y = s
     ·have HE : Hid (eqSide y s = true) := Lib.hid (by unfold eqSide; exact decide_eq_true hys)
      have HYS := Lib.hid hys
      clear hys
      go_wp2
      refine wp_region_ord [(0, true), (1, true), (2, true), (3, true), (4, true), (5, true), (6, true), (7, true), (8, true)] rfl (by kernel_rfl) (by kernel_rfl) (fun d _ _ _ _ h => by cases d <;> exact h) ?_
      iterate 3 (refine wpB_fix rfl rfl (fun W hW => by go_simp; with_reducible rfl) ?_; simp only [pTs, pTn, pTz, pTc])
      refine wpB_fix (v := .slice (some ⟨g2, 0, none⟩) m sc) rfl rfl (fun W hW => by have e : W.cell? ⟨g, k, none⟩ = some (.slice (some ⟨g2, 0, none⟩) m sc) := HQ.out W (HB2.out.trans ((Lays.refl wr).drew.below (Nat.le_refl _) |>.trans hW |>.mono HZZ.out)); go_simp) ?_; simp only [pTs, pTn, pTz, pTc]
      iterate 2 (refine wpB_fix rfl rfl (fun W hW => by go_simp; with_reducible rfl) ?_; simp only [pTs, pTn, pTz, pTc])
      refine wpB_fix (v := .agg (encSide y)) rfl rfl (fun W hW => run_load_cell (encSide y) (HCY.out _ (HB2.out.trans ((Lays.refl wr).drew.below (Nat.le_refl _) |>.trans hW |>.mono HZZ.out))) rfl Tryz.underlying59 rfl (by kernel_rfl)) ?_; simp only [pTs, pTn, pTz, pTc]
      refine wpB_fix (v := .agg (encSide s)) rfl rfl (fun W hW => run_load_box (encSide s) (HSB.out _ (HB2.out.trans ((Lays.refl wr).drew.below (Nat.le_refl _) |>.trans hW |>.mono HZZ.out))) rfl (whole_cells _) Tryz.underlying59 rfl (by kernel_rfl)) ?_; simp only [pTs, pTn, pTz, pTc]
      refine wpB_fix rfl rfl (fun W hW => by go_simp; with_reducible rfl) ?_; simp only [pTs, pTn, pTz, pTc]
      simp only [wpB]
      rw [HE.out]
      go_wp2
      go_roundw
      case rel =>
       refine ⟨q + 1, by omega, by go_num, ?_, Lib.hid (HB2.out.trans ((Lays.refl wr).drew.below (Nat.le_refl _) |>.mono HZZ.out))⟩
       rw [HCQ.out, if_pos HYS.out]; rfl
      case measure => simp [intOf]; omega
     ·have HE : Hid (eqSide y s = false) := Lib.hid (by unfold eqSide; exact decide_eq_false hys)
      have HYS := Lib.hid hys
      clear hys
      go_wp2
      refine wp_region_ord [(0, true), (1, true), (2, true), (3, true), (4, true), (5, true), (6, true), (7, true), (8, true)] rfl (by kernel_rfl) (by kernel_rfl) (fun d _ _ _ _ h => by cases d <;> exact h) ?_
      iterate 3 (refine wpB_fix rfl rfl (fun W hW => by go_simp; with_reducible rfl) ?_; simp only [pTs, pTn, pTz, pTc])
      refine wpB_fix (v := .slice (some ⟨g2, 0, none⟩) m sc) rfl rfl (fun W hW => by have e : W.cell? ⟨g, k, none⟩ = some (.slice (some ⟨g2, 0, none⟩) m sc) := HQ.out W (HB2.out.trans ((Lays.refl wr).drew.below (Nat.le_refl _) |>.trans hW |>.mono HZZ.out)); go_simp) ?_; simp only [pTs, pTn, pTz, pTc]
      iterate 2 (refine wpB_fix rfl rfl (fun W hW => by go_simp; with_reducible rfl) ?_; simp only [pTs, pTn, pTz, pTc])
      refine wpB_fix (v := .agg (encSide y)) rfl rfl (fun W hW => run_load_cell (encSide y) (HCY.out _ (HB2.out.trans ((Lays.refl wr).drew.below (Nat.le_refl _) |>.trans hW |>.mono HZZ.out))) rfl Tryz.underlying59 rfl (by kernel_rfl)) ?_; simp only [pTs, pTn, pTz, pTc]
      refine wpB_fix (v := .agg (encSide s)) rfl rfl (fun W hW => run_load_box (encSide s) (HSB.out _ (HB2.out.trans ((Lays.refl wr).drew.below (Nat.le_refl _) |>.trans hW |>.mono HZZ.out))) rfl (whole_cells _) Tryz.underlying59 rfl (by kernel_rfl)) ?_; simp only [pTs, pTn, pTz, pTc]
      refine wpB_fix rfl rfl (fun W hW => by go_simp; with_reducible rfl) ?_; simp only [pTs, pTn, pTz, pTc]
      simp only [wpB]
      rw [HE.out]
      go_wp2
      go_roundw
      case rel =>
       refine ⟨q + 1, by omega, by go_num, ?_, Lib.hid (HB2.out.trans ((Lays.refl wr).drew.below (Nat.le_refl _) |>.mono HZZ.out))⟩
       rw [HCQ.out, if_neg HYS.out]; rfl
      case measure => simp [intOf]; omega
    ·go_wp2
     go_roundw
     case rel =>
      have hqm : q = m := by omega
      subst hqm
      refine ⟨k + 1, by omega, by go_num, ?_, HB2⟩
      rw [flat_take HLG.out, List.count_append, HC0.out]
      rw [List.take_of_length_le (by rw [HM.out]; exact Nat.le_refl _)]
     case measure => have := HLt.out; simp [intOf]; omega
  ·go_wp2
   go_ret
   have hkn : k = n := by omega
   subst hkn
   refine ⟨?_, HTR.out _ HB1.out⟩
   rw [List.take_of_length_le (by rw [HN.out]; exact Nat.le_refl _)]; rfl
end Go.Proofs.YtbbblemfodpmaaaGreat
end
section
set_option linter.unusedVariables false
set_option linter.unusedSimpArgs false
namespace Go.Proofs.YtbbblemfodpmaaaGreat
open Go.RowKit
section
variable {P : Program} {ops : Array Oper} {Q : Exit → Act → World → Prop} {m i j : Nat} {o1 o2 : List (Nat × Option Bool)}
def ordOKF (ops : Array Oper) (m i : Nat) (o1 : List (Nat × Option Bool)) (j : Nat) (o2 : List (Nat × Option Bool)) : List (Nat × Option Bool) → Array Bool → Bool
 | [], listed => (Region.ready .any ops listed == [i, j]) && !(i == m) && !(j == m) && ordOK2 ops m o1 false (listed.setIfInBounds i true) && ordOK2 ops m o2 false (listed.setIfInBounds j true)
 | (k, f) :: rest, listed => !(f == some false) && stepOK ops m false listed k f && ordOKF ops m i o1 j o2 rest (listed.setIfInBounds k true)
def wpF (P : Program) (ops : Array Oper) (Q : Exit → Act → World → Prop) (m i : Nat) (o1 : List (Nat × Option Bool)) (j : Nat) (o2 : List (Nat × Option Bool)) : List (Nat × Option Bool) → Act → World → Prop
 | [], a, w => wpC P ops Q m ((i, some false) :: o1) false a w ∧ wpC P ops Q m ((j, some false) :: o2) false a w
 | (k, none) :: rest, a, w => ∃ o v, ops[k]? = some o ∧ YieldsIf P ops (fun _ => True) o v a ∧ wpF P ops Q m i o1 j o2 rest (a.put o.dst v) w
 | (k, some true) :: rest, a, w => ∃ o v, ops[k]? = some o ∧ YieldsIf P ops (Below w.heap.size w) o v a ∧ wpF P ops Q m i o1 j o2 rest (a.put o.dst v) w
 | (_, some false) :: _, _, _ => False
theorem fork_step (hs : Region.noSelect ops = true) (hQ : ∀ d c (a : Act) v w, Q (.panic c) (a.put d v) w → Q (.panic c) a w) {k : Nat} {ord : List (Nat × Option Bool)} {fuel : Nat} {listed : Array Bool} {a : Act} {w : World}
  (hkm : k ≠ m) (hp : listed.getD m true = false) (hok : ordOK2 ops m ord false (listed.setIfInBounds k true) = true) (hl : ord.length ≤ fuel) (h : wpC P ops Q m ((k, some false) :: ord) false a w) :
  wpOp P ops Q k (fun a' w' => ((listed.setIfInBounds k true).getD m true = false → Below w.heap.size w w') ∧ wpAnyM P .any ops Q (Below w.heap.size w) m fuel (listed.setIfInBounds k true) a' w') a w := by
 have e : (k == m) = false := by simpa using hkm
 unfold wpC at h
 rw [e] at h
 refine wpOp_mono (fun a' w' h' => ?_) h
 have hb := h'.1 hkm
 have ih := wpC_sound hs hQ ord false fuel _ a' w' hok hl (by rw [getD_set_ne true hkm]; exact hp) h'.2
 exact ⟨fun _ => hb, wpAnyM_mono (fun W hW => hb.trans (hW.mono hb.size)) fuel _ a' w' ih⟩
theorem wpF_sound (hs : Region.noSelect ops = true) (hQ : ∀ d c (a : Act) v w, Q (.panic c) (a.put d v) w → Q (.panic c) a w) : ∀ (pre : List (Nat × Option Bool)) (fuel : Nat) (listed : Array Bool) (a : Act) (w : World),
  ordOKF ops m i o1 j o2 pre listed = true → pre.length + max o1.length o2.length + 1 ≤ fuel → listed.getD m true = false → wpF P ops Q m i o1 j o2 pre a w → wpAnyM P .any ops Q (Below w.heap.size w) m fuel listed a w
 | pre, 0, _, _, _, _, hl, _, _ => by omega
 | [], fuel + 1, listed, a, w, hok, hl, hp, h => by
  simp only [ordOKF, Bool.and_eq_true, beq_iff_eq, Bool.not_eq_true'] at hok
  obtain ⟨⟨⟨⟨hr, him⟩, hjm⟩, h1⟩, h2⟩ := hok
  have him' : i ≠ m := by simpa using him
  have hjm' : j ≠ m := by simpa using hjm
  simp only [List.length_nil] at hl
  refine ⟨fun h0 => absurd (hr ▸ h0) (by simp), fun k hk => ?_⟩
  rw [hr] at hk
  simp only [List.mem_cons, List.not_mem_nil, or_false] at hk
  rcases hk with rfl | rfl
  ·exact fork_step hs hQ him' hp h1 (by omega) h.1
  ·exact fork_step hs hQ hjm' hp h2 (by omega) h.2
 | (k, none) :: rest, fuel + 1, listed, a, w, hok, hl, hp, h => by
  obtain ⟨o, v, hi, hy, hrest⟩ := h
  simp only [ordOKF, stepOK, Bool.and_eq_true, Bool.not_eq_true'] at hok
  obtain ⟨⟨_, ⟨hr, hf⟩, him⟩, hok'⟩ := hok
  have him' : k ≠ m := by simpa using him
  exact wpAnyM_pure hi him' (Region.noSelect_spec hs) (fun c a w h => hQ o.dst c a v w h) fuel listed a w (Region.free_spec hi hf) (by simpa using hr) hy (fun _ => Below.refl _ _)
   (wpF_sound hs hQ rest fuel _ _ w hok' (by simp only [List.length_cons] at hl; omega) (by rw [getD_set_ne true him']; exact hp) hrest)
 | (k, some true) :: rest, fuel + 1, listed, a, w, hok, hl, hp, h => by
  obtain ⟨o, v, hi, hy, hrest⟩ := h
  simp only [ordOKF, stepOK, Bool.and_eq_true, Bool.not_eq_true'] at hok
  obtain ⟨⟨_, ⟨⟨⟨_, hr⟩, hf⟩, hd⟩, him⟩, hok'⟩ := hok
  have him' : k ≠ m := by simpa using him
  exact wpAnyM_first hi him' (Region.noSelect_spec hs) (fun c a w h => hQ o.dst c a v w h) fuel listed a w hd (Region.free_spec hi hf) (by simpa using hr) hy (Below.refl _ _) hp
   (wpF_sound hs hQ rest fuel _ _ w hok' (by simp only [List.length_cons] at hl; omega) (by rw [getD_set_ne true him']; exact hp) hrest)
 | (k, some false) :: rest, fuel + 1, listed, a, w, hok, hl, hp, h => h.elim
theorem wp_region_fork (m : Nat) (pre : List (Nat × Option Bool)) (i : Nat) (o1 : List (Nat × Option Bool)) (j : Nat) (o2 : List (Nat × Option Bool)) {id : Nat} {a : Act} {w : World} (hm : P.follows .mixedOrders = true) (hs : Region.noSelect ops = true)
  (hok : (decide (pre.length + max o1.length o2.length + 1 ≤ ops.size) && decide (m < ops.size) && ordOKF ops m i o1 j o2 pre (Array.replicate ops.size false)) = true)
  (hQ : ∀ d c (a : Act) v w, Q (.panic c) (a.put d v) w → Q (.panic c) a w) (h : wpF P ops Q m i o1 j o2 pre a w.drew) : (Code.region id ops true).wp P Q a w := by
 simp only [Bool.and_eq_true, decide_eq_true_eq] at hok
 exact wp_region_any hm (wpAny_of_m (S := Below w.drew.heap.size w.drew) _ _ _ _ (wpF_sound hs hQ pre ops.size _ a w.drew hok.2 hok.1.1 (by simp [hok.1.2]) h))
theorem wpF_pure {k : Nat} {rest : List (Nat × Option Bool)} {a : Act} {w : World} {dst : Option Tmp} {op : Op} {ty : TypeId} {pos : String} {after : Array Edge} {g : Option (Nat × Bool)} {v : Value} (hi : ops[k]? = some ⟨dst, op, ty, pos, after, g⟩)
  (hw : Region.wanted ⟨dst, op, ty, pos, after, g⟩ (yielded ops a.tmps) = true)
  (hrun : ∀ W, (execOp a.eval ⟨dst, op, ty, pos, after, g⟩).run P W = .ok (.value v) W) (h : wpF P ops Q m i o1 j o2 rest (a.put dst v) w) : wpF P ops Q m i o1 j o2 ((k, none) :: rest) a w :=
 ⟨_, v, hi, .inl ⟨hw, fun W _ => hrun W⟩, h⟩
theorem wpF_fix {k : Nat} {rest : List (Nat × Option Bool)} {a : Act} {w : World} {dst : Option Tmp} {op : Op} {ty : TypeId} {pos : String} {after : Array Edge} {g : Option (Nat × Bool)} {v : Value} (hi : ops[k]? = some ⟨dst, op, ty, pos, after, g⟩)
  (hw : Region.wanted ⟨dst, op, ty, pos, after, g⟩ (yielded ops a.tmps) = true)
  (hrun : ∀ W, Below w.heap.size w W → (execOp a.eval ⟨dst, op, ty, pos, after, g⟩).run P W = .ok (.value v) W) (h : wpF P ops Q m i o1 j o2 rest (a.put dst v) w) : wpF P ops Q m i o1 j o2 ((k, some true) :: rest) a w :=
 ⟨_, v, hi, .inl ⟨hw, hrun⟩, h⟩
end
end Go.Proofs.YtbbblemfodpmaaaGreat
end
section
set_option linter.unusedVariables false
set_option linter.unusedSimpArgs false
namespace Go.Proofs.YtbbblemfodpmaaaGreat
open Go.RowKit
theorem side_ok {js : List Joint} {ls : List Lead} (h0 : (checkA js ls).1 = 0) {s : Side} (h : IsSide ls s) : I64 s.lead ∧ sidedE js ls s = 0 := by
 have V := valid_w h0
 obtain ⟨x, hx, e⟩ := h
 have hl := V.lead hx
 rw [e] at hl
 exact ⟨by rw [← e]; exact (V.leadI hx).1, by unfold sidedE; rw [if_neg (by simp [h0]), if_pos (by rw [hl]; rfl)]⟩
theorem flat_small {js : List Joint} {ls : List Lead} (V : ValidW js ls) : (walksA js ls).flatten.length ≤ 800 := by
 have h := nodup_le V.walks_inv.2 (m := sidesA ls) fun x hx => by
  obtain ⟨l, hl, hxl⟩ := List.mem_flatten.1 hx
  obtain ⟨s, hs, rfl⟩ := V.walks_inv.1 l hl
  exact mem_sides.2 (V.walk_next hs hxl).1
 rw [sides_length] at h
 have := V.nl
 omega
theorem next_at (sj : Sl Joint) (sl : Sl Lead) (s : Side) (w : World) (hj : sj.OK 3 encJoint okJoint (fun _ => False) w) (hl : sl.OK 8 encLead okLead (fun _ => False) w) (h0 : (checkA sj.val sl.val).1 = 0) (hs : IsSide sl.val s) {t : Side} (ht : nextA sj.val sl.val s = t) :
  Calls Tryz.prog 31 #[.agg #[.slice sj.a sj.val.length sj.cap, .slice sl.a sl.val.length sl.cap], .agg (encSide s)] w fun e w' => e = .returned (.tuple #[.agg (encSide t), .int .i64 0]) ∧ Below w.heap.size w w' := by
 rw [← ht]; exact Next_ok sj sl s w hj hl (side_ok h0 hs).1 (side_ok h0 hs).2
theorem prior_at (sj : Sl Joint) (sl : Sl Lead) (s : Side) (w : World) (hj : sj.OK 3 encJoint okJoint (fun _ => False) w) (hl : sl.OK 8 encLead okLead (fun _ => False) w) (h0 : (checkA sj.val sl.val).1 = 0) (hs : IsSide sl.val s) {t : Side} (ht : priorA sj.val sl.val s = t) :
  Calls Tryz.prog 33 #[.agg #[.slice sj.a sj.val.length sj.cap, .slice sl.a sl.val.length sl.cap], .agg (encSide s)] w fun e w' => e = .returned (.tuple #[.agg (encSide t), .int .i64 0]) ∧ Below w.heap.size w w' := by
 rw [← ht]; exact Prior_ok sj sl s w hj hl (side_ok h0 hs).1 (side_ok h0 hs).2
theorem rounds_big (sj : Sl Joint) (sl : Sl Lead) (w : World) (hbig : 40 < sj.val.length ∨ 60 < sl.val.length) :
  Calls Tryz.prog 7 #[.agg #[.slice sj.a sj.val.length sj.cap, .slice sl.a sl.val.length sl.cap]] w fun e w' => e = .returned (.bool true) ∧ Below w.heap.size w w' := by
 have HB0 : Hid (Below w.heap.size w (w.alloc (.cells #[.slice sj.a sj.val.length sj.cap, .slice sl.a sl.val.length sl.cap] 25))) := Lib.hid ((Below.refl _ _).alloc (Nat.le_refl _) _)
 have HX0 := Lib.hid (BoxAt.new w 25 #[.slice sj.a sj.val.length sj.cap, .slice sl.a sl.val.length sl.cap])
 obtain ⟨n, hn⟩ : ∃ n, sj.val.length = n := ⟨_, rfl⟩
 obtain ⟨m, hm⟩ : ∃ m, sl.val.length = m := ⟨_, rfl⟩
 rw [hn, hm] at hbig
 simp only [hn, hm] at HB0 HX0 ⊢
 clear hn hm
 go_enter Tryz.func7, Tryz.ntmps7
 by_cases h1 : 40 < n
 ·go_wp2_with (first
   | (go_at_call 13; refine (awake_any _).mono ?_; rintro e w1 ⟨rfl, hb1⟩; have q0 := ((HX0.out.belowAll hb1).cell 0).trans (show _ = some (.slice sj.a n sj.cap) from rfl); have q1 := ((HX0.out.belowAll hb1).cell 1).trans (show _ = some (.slice sl.a m sl.cap) from rfl)))
  go_ret
  exact ⟨rfl, HB0.out.trans (hb1.mono HB0.out.size)⟩
 ·have h2 : 60 < m := by omega
  clear hbig
  go_wp2_with (first
   | (go_at_call 13; refine (awake_any _).mono ?_; rintro e w1 ⟨rfl, hb1⟩; have q0 := ((HX0.out.belowAll hb1).cell 0).trans (show _ = some (.slice sj.a n sj.cap) from rfl); have q1 := ((HX0.out.belowAll hb1).cell 1).trans (show _ = some (.slice sl.a m sl.cap) from rfl)))
  go_ret
  exact ⟨rfl, HB0.out.trans (hb1.mono HB0.out.size)⟩
theorem rounds_bad (sj : Sl Joint) (sl : Sl Lead) (w : World) (hj : sj.OK 3 encJoint okJoint (fun _ => False) w) (hl : sl.OK 8 encLead okLead (fun _ => False) w) (h1 : sj.val.length ≤ 40) (h2 : sl.val.length ≤ 60) (h0 : (checkA sj.val sl.val).1 ≠ 0) :
  Calls Tryz.prog 7 #[.agg #[.slice sj.a sj.val.length sj.cap, .slice sl.a sl.val.length sl.cap]] w fun e w' => e = .returned (.bool true) ∧ Below w.heap.size w w' := by
 have HB0 : Hid (Below w.heap.size w (w.alloc (.cells #[.slice sj.a sj.val.length sj.cap, .slice sl.a sl.val.length sl.cap] 25))) := Lib.hid ((Below.refl _ _).alloc (Nat.le_refl _) _)
 have HX0 := Lib.hid (BoxAt.new w 25 #[.slice sj.a sj.val.length sj.cap, .slice sl.a sl.val.length sl.cap])
 have HC : Hid (∀ W, Below w.heap.size w W → Calls Tryz.prog 18 #[.agg #[.slice sj.a sj.val.length sj.cap, .slice sl.a sl.val.length sl.cap]] W fun e w' => e = .returned (.tuple #[.int .i64 (checkA sj.val sl.val).1, .int .i64 (checkA sj.val sl.val).2]) ∧ Below W.heap.size W w') := Lib.hid fun W hW => check_any sj sl W (hj.jmoved hW) (hl.lmoved hW)
 have HK : Hid (∀ W, Below w.heap.size w W → Calls Tryz.prog 39 #[.agg #[.slice sj.a sj.val.length sj.cap, .slice sl.a sl.val.length sl.cap]] W fun e w' => e = .returned (.tuple #[.slice none 0 0, .int .i64 (checkA sj.val sl.val).1]) ∧ Below W.heap.size W w') := Lib.hid fun W hW => Walks_bad sj sl W (hj.jmoved hW) (hl.lmoved hW) h0
 clear hj hl
 obtain ⟨n, hn⟩ : ∃ n, sj.val.length = n := ⟨_, rfl⟩
 obtain ⟨m, hm⟩ : ∃ m, sl.val.length = m := ⟨_, rfl⟩
 obtain ⟨c, hc⟩ : ∃ c, (checkA sj.val sl.val).1 = c := ⟨_, rfl⟩
 obtain ⟨c2, hc2⟩ : ∃ c, (checkA sj.val sl.val).2 = c := ⟨_, rfl⟩
 rw [hn] at h1
 rw [hm] at h2
 rw [hc] at h0
 simp only [hn, hm, hc, hc2] at HB0 HX0 HC HK ⊢
 clear hn hm hc hc2
 go_enter Tryz.func7, Tryz.ntmps7
 go_wp2_with (first
  | (go_at_call 13; refine (awake_any _).mono ?_; rintro e w1 ⟨rfl, hb1⟩; have b1 := HX0.out.belowAll hb1; have hB1 := HB0.out.trans (hb1.mono HB0.out.size); have q0 := (b1.cell 0).trans (show _ = some (.slice sj.a n sj.cap) from rfl); have q1 := (b1.cell 1).trans (show _ = some (.slice sl.a m sl.cap) from rfl))
  | ((with_reducible refine at_dst 35 ?_); refine wpList_loadB b1 rfl 25 _ rfl rfl #[.slice sj.a n sj.cap, .slice sl.a m sl.cap] (whole_cells _) Tryz.underlying25 rfl (by kernel_rfl) ?_)
  | (go_at_call 18; refine (HC.out _ hB1).mono ?_; rintro e w2 ⟨rfl, hb2⟩; have b2 := b1.belowAll hb2; have hB2 := hB1.trans (hb2.mono hB1.size))
  | ((with_reducible refine at_dst 40 ?_); refine wpList_loadB b2 rfl 25 _ rfl rfl #[.slice sj.a n sj.cap, .slice sl.a m sl.cap] (whole_cells _) Tryz.underlying25 rfl (by kernel_rfl) ?_)
  | (go_at_call 39; refine (HK.out _ hB2).mono ?_; rintro e w3 ⟨rfl, hb3⟩))
 go_ret
 exact ⟨by simp, hB2.trans (hb3.mono hB2.size)⟩
end Go.Proofs.YtbbblemfodpmaaaGreat
end
