/-
  The law BenchesTakesBack, walked.
-/
import Derived.Test.YtendmmhfjhgdaaaGreatEnter8
import Derived.Test.YtendmmhfjhgdaaaGreatTakes2
import Derived.Test.YtendmmhfjhgdaaaGreatRefReg
import Derived.Test.YtendmmhfjhgdaaaGreatMerge
import Derived.Test.YtendmmhfjhgdaaaGreatCuts
import Derived.Test.YtendmmhfjhgdaaaGreatAwake
set_option linter.unusedVariables false
set_option linter.unusedSimpArgs false
namespace Go.Proofs.YtendmmhfjhgdaaaGreat
open Go.RowKit

def goneN (n : Note) (num clock : Int) : Note := ⟨n.bench, num, clock, 3, 10, 0, 0, 0, 0, 0, ⟨0, false⟩, refN n, Sl.nil, Sl.nil, Sl.nil, zItem⟩
def againN (n : Note) (num clock : Int) : Note := { n with num := num, clock := clock, kind := 9, fix := n.kind, ref := refN n }
theorem goneN_abs (n : Note) (num clock : Int) : (goneN n num clock).abs = goneA n.abs num clock := rfl
theorem againN_abs (n : Note) (num clock : Int) : (againN n num clock).abs = againA n.abs num clock := rfl
theorem takes_ok {D : Nat → Prop} {W : World} {n : Note} {a b c d : Int} (h : okNote D W n) (ha : I64 a) (hb : I64 b) (hc : I64 c) (hd : I64 d) : okNote D W (goneN n a b) ∧ okNote D W (againN n c d) := by
  have z := I64_zero
  have z3 := I64_small 3 (by decide) (by decide)
  have z9 := I64_small 9 (by decide) (by decide)
  have z10 := I64_small 10 (by decide) (by decide)
  have hn : ∀ {α : Type} (sz : Nat) (e : α → Array Value) (ok : (Nat → Prop) → World → α → Prop), Sl.OK sz e ok D W Sl.nil := fun _ _ _ => Sl.OK.nil _ _ _ _ _
  constructor
  · simp only [okNote, goneN, refN, zItem] at h ⊢
    simp only [z, z3, z10, h, ha, hb, hn, and_self]
  · simp only [okNote, againN, refN] at h ⊢
    simp only [z9, h, hc, hd, and_self]
theorem cutsN_len (val : List Note) (k : Nat) (h : val.length ≤ 4294967296) : (val.take k ++ val.drop (k + 1)).length ≤ 4294967296 := by
  refine Nat.le_trans ?_ h
  rw [List.length_append, List.length_take, List.length_drop]; omega
theorem cuts1_len {a b : List Note} (h : a.length ≤ 150 ∧ b.length ≤ 150) : ([] : List Note).length + a.length ≤ 4294967296 := by simp only [List.length_nil]; omega
theorem cuts2_len {a b : List Note} (h : a.length ≤ 150 ∧ b.length ≤ 150) : ([] ++ a).length + b.length ≤ 4294967296 := by simp only [List.nil_append]; omega
theorem wrap64_small {x : Int} (h : -9223372036854775808 ≤ x) (k : x ≤ 9223372036854775807) : wrap64 x = x := by unfold wrap64; omega
theorem cuts150 (val : List Note) (k : Nat) (h : ¬ (150 : Int) < (val.length : Int)) : (val.take k).length ≤ 150 ∧ (val.drop (k + 1)).length ≤ 150 := by rw [List.length_take, List.length_drop]; omega
theorem kwrap (val : List Note) (k : Nat) (hk : k < val.length) (h : ¬ (150 : Int) < (val.length : Int)) : wrap64 ((k : Int) + 1) = (k : Int) + 1 ∧ IntKind.i64.wrap ((k : Int) + 1) = (k : Int) + 1 := ⟨wrap64_small (by omega) (by omega), IntWalk.i64_in _ (by omega)⟩
theorem note_nums {x : Note} (h : wellA x.abs = true) : 0 ≤ x.num ∧ x.num ≤ 400 ∧ 0 ≤ x.clock ∧ x.clock ≤ 1048576 := by
  have h1 := wellA_nums h
  have hv := wellA_name h
  unfold wellA wellB at h
  simp only [validRefB, inB, NoteA.name, Bool.and_eq_true, decide_eq_true_eq] at hv h
  have g1 : x.num ≤ 400 := by first | exact hv.2.2 | exact of_decide_eq_true hv.2.2
  have g2 : x.clock ≤ 1048576 := by first | exact h.1.1.1.2.2 | exact of_decide_eq_true h.1.1.1.2.2
  have g3 : 1 ≤ x.num := h1.1
  have g4 : 1 ≤ x.clock := h1.2
  exact ⟨by omega, g1, by omega, g2⟩
set_option maxRecDepth 100000 in
set_option maxHeartbeats 16000000 in
theorem takes_any (s : Sl Note) (q : Int) (w : World) (hs : NOK w s) (hq64 : I64 q) :
    Calls Tryz.prog 7 #[.slice s.a s.val.length s.cap, .int .i64 q] w fun e w' => e = .returned (.bool true) ∧ Below w.heap.size w w' := by
  have hroom := hs.room
  have hcap := hs.le
  have HS := Lib.hid hs
  clear hs
  obtain ⟨a, cap, val⟩ := s
  simp only at hroom hcap
  by_cases h150 : (150 : Int) < (val.length : Int)
  · go_enter Tryz.func7, Tryz.ntmps7
    go_wp2_with (go_at_call 12; (with_reducible refine (awake_any _).mono ?_); rintro e w1 ⟨rfl, hb1⟩)
    go_ret
    exact ⟨by simp, hb1⟩
  by_cases hq0 : q < 0
  · go_enter Tryz.func7, Tryz.ntmps7
    go_wp2_with (go_at_call 12; (with_reducible refine (awake_any _).mono ?_); rintro e w1 ⟨rfl, hb1⟩)
    go_ret
    exact ⟨by simp, hb1⟩
  by_cases hql : (val.length : Int) ≤ q
  · go_enter Tryz.func7, Tryz.ntmps7
    go_wp2_with (go_at_call 12; (with_reducible refine (awake_any _).mono ?_); rintro e w1 ⟨rfl, hb1⟩)
    go_ret
    exact ⟨by simp, hb1⟩
  obtain ⟨k, hk⟩ : ∃ k : Nat, (k : Int) = q := ⟨q.toNat, by omega⟩
  subst hk
  have hkl : k < val.length := by omega
  obtain ⟨n, hn⟩ : ∃ n, val[k]? = some n := ⟨_, List.getElem?_eq_getElem hkl⟩
  obtain ⟨b, o, ha, hb, _, hokn, hcell⟩ := HS.out.at hn
  simp only at ha
  subst ha
  have HCN : Hid (∀ W, Below w.heap.size w W → ∀ j, j < (encNote n).size → W.cell? ⟨b, o + k * 29 + j, none⟩ = (encNote n)[j]?) := Lib.hid fun W hW j hj => (hW.cell (p := ⟨b, o + k * 29 + j, none⟩) hb).trans (hcell j hj)
  have HNN := Lib.hid hn
  have HON := Lib.hid hokn
  clear hn hcell hokn
  by_cases hset : isSetB val = true
  rotate_left
  · have HF := Lib.hid (fold_bad (fun _ => False) ⟨some ⟨b, o, none⟩, cap, val⟩ w HS.out (by simpa using hset))
    clear hset
    go_enter Tryz.func7, Tryz.ntmps7
    go_wp2_with (first
      | (go_at_call 25; (with_reducible refine HF.out.mono ?_); rintro e w1 ⟨rfl, hb1⟩)
      | ((with_reducible refine at_storeTo 5 ?_); refine wpList_store_box (BoxAt.newN (n := w1.heap.size) _ _ _ rfl) rfl 58 _ _ rfl rfl (.agg (encRegister zRegister)) rfl (by kernel_rfl) rfl (one_agg (encRegister_one _)) ?_; intro u1 hq hT; have br := hq.eqv (splice_whole _ (encRegister zRegister) rfl); have hLu1 : Below w1.heap.size w1 u1 := ((Below.refl _ _).alloc (Nat.le_refl _) _).trans (hT.below (Nat.le_refl _)); clear hq hT; have hBu1 : Below w.heap.size w u1 := hb1.trans (hLu1.mono hb1.size); have HCN1 := Lib.hid (HCN.out u1 hBu1))
      | (with_reducible refine at_dst 44 ?_; refine wpList_load_at rfl 40 _ rfl b (o + k * 29) rfl (encNote n) _ HCN1.out Tryz.underlying40 rfl (by kernel_rfl) ?_)
      | ((with_reducible refine at_storeTo 7 ?_); refine wpList_store_box (BoxAt.newN (n := u1.heap.size) _ _ _ rfl) rfl 40 _ _ rfl rfl (.agg (encNote n)) rfl (by kernel_rfl) rfl (one_agg (encNote_one _)) ?_; intro u2 hq hT; have bn := hq.eqv (splice_whole _ (encNote n) rfl); have hLu2 : Below u1.heap.size u1 u2 := ((Below.refl _ _).alloc (Nat.le_refl _) _).trans (hT.below (Nat.le_refl _)); clear hq hT; have hBu2 : Below w.heap.size w u2 := hBu1.trans (hLu2.mono hBu1.size); have br2 := br.belowAll hLu2; have hn0 : u2.cell? ⟨u1.heap.size, 0, none⟩ = some (vi n.bench) := (bn.cell 0).trans rfl; have hn1 : u2.cell? ⟨u1.heap.size, 1, none⟩ = some (vi n.num) := (bn.cell 1).trans rfl; have hn4 : u2.cell? ⟨u1.heap.size, 4, none⟩ = some (vi n.kind) := (bn.cell 4).trans rfl)
      | (go_at_call 12; (with_reducible refine (awake_any _).mono ?_); rintro e wa ⟨rfl, hba⟩))
    go_ret
    exact ⟨by simp, hBu2.trans (hba.mono hBu2.size)⟩
  have hset' := (isSetB_iff val).1 hset
  have HSET := Lib.hid hset'
  have HF := Lib.hid (fold_set (fun _ => False) ⟨some ⟨b, o, none⟩, cap, val⟩ w HS.out hset')
  clear hset hset'
  by_cases h8 : 8 < n.kind
  · go_enter Tryz.func7, Tryz.ntmps7
    go_wp2_with (first
      | (go_at_call 25; (with_reducible refine HF.out.mono ?_); rintro e w1 ⟨R, rfl, HRA, HRO, hb1⟩)
      | ((with_reducible refine at_storeTo 5 ?_); refine wpList_store_box (BoxAt.newN (n := w1.heap.size) _ _ _ rfl) rfl 58 _ _ rfl rfl (.agg (encRegister R)) rfl (by kernel_rfl) rfl (one_agg (encRegister_one _)) ?_; intro u1 hq hT; have br := hq.eqv (splice_whole _ (encRegister R) rfl); have hLu1 : Below w1.heap.size w1 u1 := ((Below.refl _ _).alloc (Nat.le_refl _) _).trans (hT.below (Nat.le_refl _)); clear hq hT; have hBu1 : Below w.heap.size w u1 := hb1.trans (hLu1.mono hb1.size); have HCN1 := Lib.hid (HCN.out u1 hBu1))
      | (with_reducible refine at_dst 44 ?_; refine wpList_load_at rfl 40 _ rfl b (o + k * 29) rfl (encNote n) _ HCN1.out Tryz.underlying40 rfl (by kernel_rfl) ?_)
      | ((with_reducible refine at_storeTo 7 ?_); refine wpList_store_box (BoxAt.newN (n := u1.heap.size) _ _ _ rfl) rfl 40 _ _ rfl rfl (.agg (encNote n)) rfl (by kernel_rfl) rfl (one_agg (encNote_one _)) ?_; intro u2 hq hT; have bn := hq.eqv (splice_whole _ (encNote n) rfl); have hLu2 : Below u1.heap.size u1 u2 := ((Below.refl _ _).alloc (Nat.le_refl _) _).trans (hT.below (Nat.le_refl _)); clear hq hT; have hBu2 : Below w.heap.size w u2 := hBu1.trans (hLu2.mono hBu1.size); have br2 := br.belowAll hLu2; have hn0 : u2.cell? ⟨u1.heap.size, 0, none⟩ = some (vi n.bench) := (bn.cell 0).trans rfl; have hn1 : u2.cell? ⟨u1.heap.size, 1, none⟩ = some (vi n.num) := (bn.cell 1).trans rfl; have hn4 : u2.cell? ⟨u1.heap.size, 4, none⟩ = some (vi n.kind) := (bn.cell 4).trans rfl)
      | (go_at_call 12; (with_reducible refine (awake_any _).mono ?_); rintro e wa ⟨rfl, hba⟩))
    go_ret
    exact ⟨by simp, hBu2.trans (hba.mono hBu2.size)⟩
  by_cases h5 : n.kind = 5
  · go_enter Tryz.func7, Tryz.ntmps7
    go_wp2_with (first
      | (go_at_call 25; (with_reducible refine HF.out.mono ?_); rintro e w1 ⟨R, rfl, HRA, HRO, hb1⟩)
      | ((with_reducible refine at_storeTo 5 ?_); refine wpList_store_box (BoxAt.newN (n := w1.heap.size) _ _ _ rfl) rfl 58 _ _ rfl rfl (.agg (encRegister R)) rfl (by kernel_rfl) rfl (one_agg (encRegister_one _)) ?_; intro u1 hq hT; have br := hq.eqv (splice_whole _ (encRegister R) rfl); have hLu1 : Below w1.heap.size w1 u1 := ((Below.refl _ _).alloc (Nat.le_refl _) _).trans (hT.below (Nat.le_refl _)); clear hq hT; have hBu1 : Below w.heap.size w u1 := hb1.trans (hLu1.mono hb1.size); have HCN1 := Lib.hid (HCN.out u1 hBu1))
      | (with_reducible refine at_dst 44 ?_; refine wpList_load_at rfl 40 _ rfl b (o + k * 29) rfl (encNote n) _ HCN1.out Tryz.underlying40 rfl (by kernel_rfl) ?_)
      | ((with_reducible refine at_storeTo 7 ?_); refine wpList_store_box (BoxAt.newN (n := u1.heap.size) _ _ _ rfl) rfl 40 _ _ rfl rfl (.agg (encNote n)) rfl (by kernel_rfl) rfl (one_agg (encNote_one _)) ?_; intro u2 hq hT; have bn := hq.eqv (splice_whole _ (encNote n) rfl); have hLu2 : Below u1.heap.size u1 u2 := ((Below.refl _ _).alloc (Nat.le_refl _) _).trans (hT.below (Nat.le_refl _)); clear hq hT; have hBu2 : Below w.heap.size w u2 := hBu1.trans (hLu2.mono hBu1.size); have br2 := br.belowAll hLu2; have hn0 : u2.cell? ⟨u1.heap.size, 0, none⟩ = some (vi n.bench) := (bn.cell 0).trans rfl; have hn1 : u2.cell? ⟨u1.heap.size, 1, none⟩ = some (vi n.num) := (bn.cell 1).trans rfl; have hn4 : u2.cell? ⟨u1.heap.size, 4, none⟩ = some (vi n.kind) := (bn.cell 4).trans rfl)
      | (go_at_call 12; (with_reducible refine (awake_any _).mono ?_); rintro e wa ⟨rfl, hba⟩))
    go_ret
    exact ⟨by simp, hBu2.trans (hba.mono hBu2.size)⟩
  have h5' : (n.kind == 5) = false := by simpa using h5
  have hkn : n.kind ≤ 8 := by omega
  have HKW : Hid (1 ≤ n.kind ∧ n.kind ≤ 8) := Lib.hid (by
    have h1 := HSET.out.well n.abs (List.mem_map_of_mem (List.mem_of_getElem? HNN.out))
    by_cases hj : judgingI n.abs.kind = true
    · simp only [judgingI, Bool.or_eq_true, decide_eq_true_eq] at hj
      have : n.abs.kind = n.kind := rfl
      omega
    · exact ((well_usual h1).1 (by simpa using hj)).1)
  go_enter Tryz.func7, Tryz.ntmps7
  go_wp2_with (first
    | (go_at_call 25; (with_reducible refine HF.out.mono ?_); rintro e w1 ⟨R, rfl, HRA, HRO, hb1⟩)
    | ((with_reducible refine at_storeTo 5 ?_); refine wpList_store_box (BoxAt.newN (n := w1.heap.size) _ _ _ rfl) rfl 58 _ _ rfl rfl (.agg (encRegister R)) rfl (by kernel_rfl) rfl (one_agg (encRegister_one _)) ?_; intro u1 hq hT; have br := hq.eqv (splice_whole _ (encRegister R) rfl); have hLu1 : Below w1.heap.size w1 u1 := ((Below.refl _ _).alloc (Nat.le_refl _) _).trans (hT.below (Nat.le_refl _)); clear hq hT; have hBu1 : Below w.heap.size w u1 := hb1.trans (hLu1.mono hb1.size); have HCN1 := Lib.hid (HCN.out u1 hBu1))
    | (with_reducible refine at_dst 44 ?_; refine wpList_load_at rfl 40 _ rfl b (o + k * 29) rfl (encNote n) _ HCN1.out Tryz.underlying40 rfl (by kernel_rfl) ?_)
    | ((with_reducible refine at_storeTo 7 ?_); refine wpList_store_box (BoxAt.newN (n := u1.heap.size) _ _ _ rfl) rfl 40 _ _ rfl rfl (.agg (encNote n)) rfl (by kernel_rfl) rfl (one_agg (encNote_one _)) ?_; intro u2 hq hT; have bn := hq.eqv (splice_whole _ (encNote n) rfl); have hLu2 : Below u1.heap.size u1 u2 := ((Below.refl _ _).alloc (Nat.le_refl _) _).trans (hT.below (Nat.le_refl _)); clear hq hT; have hBu2 : Below w.heap.size w u2 := hBu1.trans (hLu2.mono hBu1.size); have br2 := br.belowAll hLu2; have hn0 : u2.cell? ⟨u1.heap.size, 0, none⟩ = some (vi n.bench) := (bn.cell 0).trans rfl; have hn1 : u2.cell? ⟨u1.heap.size, 1, none⟩ = some (vi n.num) := (bn.cell 1).trans rfl; have hn4 : u2.cell? ⟨u1.heap.size, 4, none⟩ = some (vi n.kind) := (bn.cell 4).trans rfl)
    | ((with_reducible refine at_storeTo 8 ?_); refine wpList_store_box (BoxAt.newN (n := u2.heap.size) _ _ _ rfl) rfl 31 _ _ rfl rfl (.agg (encRef (refN n))) rfl (by kernel_rfl) rfl (one_agg (encRef_one _)) ?_; intro u3 hq hT; have bf := hq.eqv (splice_whole _ (encRef (refN n)) rfl); have hLu3 : Below u2.heap.size u2 u3 := ((Below.refl _ _).alloc (Nat.le_refl _) _).trans (hT.below (Nat.le_refl _)); clear hq hT; have hBu3 : Below w.heap.size w u3 := hBu2.trans (hLu3.mono hBu2.size); have br3 := br2.belowAll hLu3; have bn3 := bn.belowAll hLu3))
  have HBU := Lib.hid hBu3
  have HBR := Lib.hid br3
  have HBN := Lib.hid bn3
  have HBF := Lib.hid bf
  go_loopw [9, 10, 11] (fun nv cv i wr => ∃ (m : Nat) (nm cl : Int), m ≤ val.length ∧ i = .int .i64 m ∧ nv = .int .i64 nm ∧ cv = .int .i64 cl ∧ 0 ≤ nm ∧ nm ≤ 400 ∧ 0 ≤ cl ∧ cl ≤ 1048576 ∧ Hid (∀ (j : Nat) (x : Note), j < m → val[j]? = some x → (8 < x.kind → x.ref ≠ refN n) ∧ (x.bench = n.bench → x.num ≤ nm) ∧ x.clock ≤ cl) ∧ Below u3.heap.size u3 wr) (fun _ _ i _ => val.length - (intOf i).toNat)
  case atStart => exact ⟨0, 0, 0, Nat.zero_le _, rfl, rfl, rfl, by decide, by decide, by decide, by decide, Lib.hid (fun j x hj => absurd hj (Nat.not_lt_zero _)), Below.refl _ _⟩
  case round =>
    obtain ⟨m, nm, cl, hm, him, hnm, hcl, hn1, hn2, hc1, hc2, HI, hB⟩ := hrel
    subst him hnm hcl
    have hBw : Below w.heap.size w wr := HBU.out.trans (hB.mono HBU.out.size)
    by_cases hml : m < val.length
    · obtain ⟨x, hx⟩ : ∃ x, val[m]? = some x := ⟨_, List.getElem?_eq_getElem hml⟩
      obtain ⟨bx, ox, hbo, hbx, _, hokx, hcellx⟩ := HS.out.at hx
      simp only [Option.some.injEq, Addr.mk.injEq, and_true] at hbo
      obtain ⟨rfl, rfl⟩ := hbo
      have HCX : Hid (∀ W, Below w.heap.size w W → ∀ j, j < (encNote x).size → W.cell? ⟨b, o + m * 29 + j, none⟩ = (encNote x)[j]?) := Lib.hid fun W hW j hj => (hW.cell (p := ⟨b, o + m * 29 + j, none⟩) hbx).trans (hcellx j hj)
      have HX := Lib.hid hx
      have hi1 : (m : Int) < (val.length : Int) := by omega
      have HXW : Hid (0 ≤ x.num ∧ x.num ≤ 400 ∧ 0 ≤ x.clock ∧ x.clock ≤ 1048576) := Lib.hid (note_nums (HSET.out.well x.abs (List.mem_map_of_mem (List.mem_of_getElem? hx))))
      have hx0 : wr.drew.drew.cell? ⟨b, o + m * 29, none⟩ = some (vi x.bench) := (HCX.out _ hBw.drew.drew 0 (by show 0 < 29; decide)).trans rfl
      have hx1 : wr.drew.drew.cell? ⟨b, o + m * 29 + 1, none⟩ = some (vi x.num) := (HCX.out _ hBw.drew.drew 1 (by show 1 < 29; decide)).trans rfl
      have hx2 : wr.drew.drew.cell? ⟨b, o + m * 29 + 2, none⟩ = some (vi x.clock) := (HCX.out _ hBw.drew.drew 2 (by show 2 < 29; decide)).trans rfl
      clear hx hcellx hokx
      by_cases hx8 : 8 < x.kind
      · by_cases hxr : x.ref = refN n
        · have hre : eqRef x.ref (refN n) = true := by simp [eqRef, hxr]
          clear hxr
          go_wp2
          refine wp_region_ord [(0, true), (1, true), (2, true), (3, true), (4, true), (5, true), (6, true), (7, true), (8, true), (9, true), (10, true), (11, true), (12, true), (13, true), (14, true)] rfl (by kernel_rfl) (by kernel_rfl) (fun d _ _ _ _ h => by cases d <;> exact h) ?_
          iterate 4 (refine wpB_fix rfl rfl (fun W hW => by go_simp; with_reducible rfl) ?_; simp only [pTs, pTn, pTz, pTc])
          refine wpB_fix (v := vi x.kind) rfl rfl (fun W hW => by have e : W.cell? ⟨b, o + m * 29 + 4, none⟩ = some (vi x.kind) := (HCX.out W (hBw.drew.trans (hW.mono hBw.drew.size)) 4 (by show 4 < 29; decide)).trans rfl; go_simp) ?_; simp only [pTs, pTn, pTz, pTc]
          iterate 6 (refine wpB_fix rfl rfl (fun W hW => by go_simp; with_reducible rfl) ?_; simp only [pTs, pTn, pTz, pTc])
          refine wpB_fix (v := .agg (encRef x.ref)) rfl rfl (fun W hW => run_load_mem (encRef x.ref) rfl (fun j hj => by rw [show o + m * 29 + 12 + j = o + m * 29 + (12 + j) by omega, HCX.out W (hBw.drew.trans (hW.mono hBw.drew.size)) (12 + j) (by have : j < 2 := hj; show 12 + j < 29; omega)]; exact note_ref x j hj) Tryz.underlying31 rfl (by kernel_rfl)) ?_; simp only [pTs, pTn, pTz, pTc]
          refine wpB_fix (v := .agg (encRef (refN n))) rfl rfl (fun W hW => run_load_mem (encRef (refN n)) rfl (fun j hj => (HBF.out.belowAll (hB.drew.trans (hW.mono hB.drew.size))).cells j hj) Tryz.underlying31 rfl (by kernel_rfl)) ?_; simp only [pTs, pTn, pTz, pTc]
          refine wpB_fix (v := .bool true) rfl rfl (fun W hW => by go_simp) ?_; simp only [pTs, pTn, pTz, pTc]
          refine wpB_fix rfl rfl (fun W hW => by go_simp; with_reducible rfl) ?_; simp only [pTs, pTn, pTz, pTc]
          simp only [wpB]
          go_wp2_with (first
            | (go_at_call 12; (with_reducible refine (awake_any _).mono ?_); rintro e wa ⟨rfl, hba⟩))
          go_ret
          exact ⟨by simp, hBw.drew.trans (hba.mono hBw.drew.size)⟩
        · have hre : eqRef x.ref (refN n) = false := by simp [eqRef, hxr]
          have HXR := Lib.hid hxr
          clear hxr
          by_cases hbe : x.bench = n.bench
          · have hbe2 : (x.bench == n.bench) = true := by simpa using hbe
            have HNE := Lib.hid hbe
            clear hbe
            go_wp2
            refine wp_region_ord [(0, true), (1, true), (2, true), (3, true), (4, true), (5, true), (6, true), (7, true), (8, true), (9, true), (10, true), (11, true), (12, true), (13, true), (14, true)] rfl (by kernel_rfl) (by kernel_rfl) (fun d _ _ _ _ h => by cases d <;> exact h) ?_
            iterate 4 (refine wpB_fix rfl rfl (fun W hW => by go_simp; with_reducible rfl) ?_; simp only [pTs, pTn, pTz, pTc])
            refine wpB_fix (v := vi x.kind) rfl rfl (fun W hW => by have e : W.cell? ⟨b, o + m * 29 + 4, none⟩ = some (vi x.kind) := (HCX.out W (hBw.drew.trans (hW.mono hBw.drew.size)) 4 (by show 4 < 29; decide)).trans rfl; go_simp) ?_; simp only [pTs, pTn, pTz, pTc]
            iterate 6 (refine wpB_fix rfl rfl (fun W hW => by go_simp; with_reducible rfl) ?_; simp only [pTs, pTn, pTz, pTc])
            refine wpB_fix (v := .agg (encRef x.ref)) rfl rfl (fun W hW => run_load_mem (encRef x.ref) rfl (fun j hj => by rw [show o + m * 29 + 12 + j = o + m * 29 + (12 + j) by omega, HCX.out W (hBw.drew.trans (hW.mono hBw.drew.size)) (12 + j) (by have : j < 2 := hj; show 12 + j < 29; omega)]; exact note_ref x j hj) Tryz.underlying31 rfl (by kernel_rfl)) ?_; simp only [pTs, pTn, pTz, pTc]
            refine wpB_fix (v := .agg (encRef (refN n))) rfl rfl (fun W hW => run_load_mem (encRef (refN n)) rfl (fun j hj => (HBF.out.belowAll (hB.drew.trans (hW.mono hB.drew.size))).cells j hj) Tryz.underlying31 rfl (by kernel_rfl)) ?_; simp only [pTs, pTn, pTz, pTc]
            refine wpB_fix (v := .bool false) rfl rfl (fun W hW => by go_simp) ?_; simp only [pTs, pTn, pTz, pTc]
            refine wpB_fix rfl rfl (fun W hW => by go_simp; with_reducible rfl) ?_; simp only [pTs, pTn, pTz, pTc]
            simp only [wpB]
            go_wp2
            refine wp_region_ord [(0, true), (1, true), (2, true), (3, true), (4, true), (5, true), (6, true), (7, true)] rfl (by kernel_rfl) (by kernel_rfl) (fun d _ _ _ _ h => by cases d <;> exact h) ?_
            iterate 4 (refine wpB_fix rfl rfl (fun W hW => by go_simp; with_reducible rfl) ?_; simp only [pTs, pTn, pTz, pTc])
            refine wpB_fix (v := vi x.bench) rfl rfl (fun W hW => by have e : W.cell? ⟨b, o + m * 29, none⟩ = some (vi x.bench) := (HCX.out W (hBw.drew.drew.trans (hW.mono hBw.drew.drew.size)) 0 (by show 0 < 29; decide)).trans rfl; go_simp) ?_; simp only [pTs, pTn, pTz, pTc]
            refine wpB_fix rfl rfl (fun W hW => by go_simp; with_reducible rfl) ?_; simp only [pTs, pTn, pTz, pTc]
            refine wpB_fix (v := vi n.bench) rfl rfl (fun W hW => by have e : W.cell? ⟨u1.heap.size, 0, none⟩ = some (vi n.bench) := ((HBN.out.belowAll (hB.drew.drew.trans (hW.mono hB.drew.drew.size))).cell 0).trans rfl; go_simp) ?_; simp only [pTs, pTn, pTz, pTc]
            refine wpB_fix rfl rfl (fun W hW => by go_simp; with_reducible rfl) ?_; simp only [pTs, pTn, pTz, pTc]
            simp only [wpB]
            go_wp2
            go_roundw
            case rel =>
              obtain ⟨y1, y2, y3, y4⟩ := HXW.out
              refine ⟨m + 1, max nm x.num, max cl x.clock, by omega, by go_num, (by first | rfl | (congr 1; split <;> omega)), (by first | rfl | (congr 1; split <;> omega)), by omega, by omega, by omega, by omega, Lib.hid fun j y hj hy => ?_, hB.drew.drew⟩
              rcases Nat.lt_succ_iff_lt_or_eq.1 hj with h | rfl
              · obtain ⟨z1, z2, z3⟩ := HI.out j y h hy
                exact ⟨z1, fun e => by have := z2 e; omega, by omega⟩
              · rw [HX.out] at hy; cases hy
                exact ⟨fun _ => HXR.out, fun e => by omega, by omega⟩
            case measure => simp [intOf]; omega
          · have hbe2 : (x.bench == n.bench) = false := by simpa using hbe
            have HNE := Lib.hid hbe
            clear hbe
            go_wp2
            refine wp_region_ord [(0, true), (1, true), (2, true), (3, true), (4, true), (5, true), (6, true), (7, true), (8, true), (9, true), (10, true), (11, true), (12, true), (13, true), (14, true)] rfl (by kernel_rfl) (by kernel_rfl) (fun d _ _ _ _ h => by cases d <;> exact h) ?_
            iterate 4 (refine wpB_fix rfl rfl (fun W hW => by go_simp; with_reducible rfl) ?_; simp only [pTs, pTn, pTz, pTc])
            refine wpB_fix (v := vi x.kind) rfl rfl (fun W hW => by have e : W.cell? ⟨b, o + m * 29 + 4, none⟩ = some (vi x.kind) := (HCX.out W (hBw.drew.trans (hW.mono hBw.drew.size)) 4 (by show 4 < 29; decide)).trans rfl; go_simp) ?_; simp only [pTs, pTn, pTz, pTc]
            iterate 6 (refine wpB_fix rfl rfl (fun W hW => by go_simp; with_reducible rfl) ?_; simp only [pTs, pTn, pTz, pTc])
            refine wpB_fix (v := .agg (encRef x.ref)) rfl rfl (fun W hW => run_load_mem (encRef x.ref) rfl (fun j hj => by rw [show o + m * 29 + 12 + j = o + m * 29 + (12 + j) by omega, HCX.out W (hBw.drew.trans (hW.mono hBw.drew.size)) (12 + j) (by have : j < 2 := hj; show 12 + j < 29; omega)]; exact note_ref x j hj) Tryz.underlying31 rfl (by kernel_rfl)) ?_; simp only [pTs, pTn, pTz, pTc]
            refine wpB_fix (v := .agg (encRef (refN n))) rfl rfl (fun W hW => run_load_mem (encRef (refN n)) rfl (fun j hj => (HBF.out.belowAll (hB.drew.trans (hW.mono hB.drew.size))).cells j hj) Tryz.underlying31 rfl (by kernel_rfl)) ?_; simp only [pTs, pTn, pTz, pTc]
            refine wpB_fix (v := .bool false) rfl rfl (fun W hW => by go_simp) ?_; simp only [pTs, pTn, pTz, pTc]
            refine wpB_fix rfl rfl (fun W hW => by go_simp; with_reducible rfl) ?_; simp only [pTs, pTn, pTz, pTc]
            simp only [wpB]
            go_wp2
            refine wp_region_ord [(0, true), (1, true), (2, true), (3, true), (4, true), (5, true), (6, true), (7, true)] rfl (by kernel_rfl) (by kernel_rfl) (fun d _ _ _ _ h => by cases d <;> exact h) ?_
            iterate 4 (refine wpB_fix rfl rfl (fun W hW => by go_simp; with_reducible rfl) ?_; simp only [pTs, pTn, pTz, pTc])
            refine wpB_fix (v := vi x.bench) rfl rfl (fun W hW => by have e : W.cell? ⟨b, o + m * 29, none⟩ = some (vi x.bench) := (HCX.out W (hBw.drew.drew.trans (hW.mono hBw.drew.drew.size)) 0 (by show 0 < 29; decide)).trans rfl; go_simp) ?_; simp only [pTs, pTn, pTz, pTc]
            refine wpB_fix rfl rfl (fun W hW => by go_simp; with_reducible rfl) ?_; simp only [pTs, pTn, pTz, pTc]
            refine wpB_fix (v := vi n.bench) rfl rfl (fun W hW => by have e : W.cell? ⟨u1.heap.size, 0, none⟩ = some (vi n.bench) := ((HBN.out.belowAll (hB.drew.drew.trans (hW.mono hB.drew.drew.size))).cell 0).trans rfl; go_simp) ?_; simp only [pTs, pTn, pTz, pTc]
            refine wpB_fix rfl rfl (fun W hW => by go_simp; with_reducible rfl) ?_; simp only [pTs, pTn, pTz, pTc]
            simp only [wpB]
            go_wp2
            go_roundw
            case rel =>
              obtain ⟨y1, y2, y3, y4⟩ := HXW.out
              refine ⟨m + 1, nm, max cl x.clock, by omega, by go_num, (by first | rfl | (congr 1; split <;> omega)), (by first | rfl | (congr 1; split <;> omega)), by omega, by omega, by omega, by omega, Lib.hid fun j y hj hy => ?_, hB.drew.drew⟩
              rcases Nat.lt_succ_iff_lt_or_eq.1 hj with h | rfl
              · obtain ⟨z1, z2, z3⟩ := HI.out j y h hy
                exact ⟨z1, fun e => by have := z2 e; omega, by omega⟩
              · rw [HX.out] at hy; cases hy
                exact ⟨fun _ => HXR.out, fun e => by exact absurd e HNE.out, by omega⟩
            case measure => simp [intOf]; omega
      · have hx8' : decide ((8 : Int) < x.kind) = false := by simpa using hx8
        by_cases hbe : x.bench = n.bench
        · have hbe2 : (x.bench == n.bench) = true := by simpa using hbe
          have HNE := Lib.hid hbe
          clear hbe
          go_wp2
          refine wp_region_ord [(0, true), (1, true), (2, true), (3, true), (4, true), (5, true), (6, true), (7, true), (8, true), (9, true), (10, true), (11, true), (12, true), (13, true), (14, true)] rfl (by kernel_rfl) (by kernel_rfl) (fun d _ _ _ _ h => by cases d <;> exact h) ?_
          iterate 4 (refine wpB_fix rfl rfl (fun W hW => by go_simp; with_reducible rfl) ?_; simp only [pTs, pTn, pTz, pTc])
          refine wpB_fix (v := vi x.kind) rfl rfl (fun W hW => by have e : W.cell? ⟨b, o + m * 29 + 4, none⟩ = some (vi x.kind) := (HCX.out W (hBw.drew.trans (hW.mono hBw.drew.size)) 4 (by show 4 < 29; decide)).trans rfl; go_simp) ?_; simp only [pTs, pTn, pTz, pTc]
          iterate 2 (refine wpB_fix rfl rfl (fun W hW => by go_simp; with_reducible rfl) ?_; simp only [pTs, pTn, pTz, pTc])
          iterate 7 (refine wpB_skip rfl rfl ?_; simp only [pTs, pTn, pTz, pTc])
          refine wpB_fix rfl rfl (fun W hW => by go_simp; with_reducible rfl) ?_; simp only [pTs, pTn, pTz, pTc]
          simp only [wpB]
          go_wp2
          refine wp_region_ord [(0, true), (1, true), (2, true), (3, true), (4, true), (5, true), (6, true), (7, true)] rfl (by kernel_rfl) (by kernel_rfl) (fun d _ _ _ _ h => by cases d <;> exact h) ?_
          iterate 4 (refine wpB_fix rfl rfl (fun W hW => by go_simp; with_reducible rfl) ?_; simp only [pTs, pTn, pTz, pTc])
          refine wpB_fix (v := vi x.bench) rfl rfl (fun W hW => by have e : W.cell? ⟨b, o + m * 29, none⟩ = some (vi x.bench) := (HCX.out W (hBw.drew.drew.trans (hW.mono hBw.drew.drew.size)) 0 (by show 0 < 29; decide)).trans rfl; go_simp) ?_; simp only [pTs, pTn, pTz, pTc]
          refine wpB_fix rfl rfl (fun W hW => by go_simp; with_reducible rfl) ?_; simp only [pTs, pTn, pTz, pTc]
          refine wpB_fix (v := vi n.bench) rfl rfl (fun W hW => by have e : W.cell? ⟨u1.heap.size, 0, none⟩ = some (vi n.bench) := ((HBN.out.belowAll (hB.drew.drew.trans (hW.mono hB.drew.drew.size))).cell 0).trans rfl; go_simp) ?_; simp only [pTs, pTn, pTz, pTc]
          refine wpB_fix rfl rfl (fun W hW => by go_simp; with_reducible rfl) ?_; simp only [pTs, pTn, pTz, pTc]
          simp only [wpB]
          go_wp2
          go_roundw
          case rel =>
            obtain ⟨y1, y2, y3, y4⟩ := HXW.out
            refine ⟨m + 1, max nm x.num, max cl x.clock, by omega, by go_num, (by first | rfl | (congr 1; split <;> omega)), (by first | rfl | (congr 1; split <;> omega)), by omega, by omega, by omega, by omega, Lib.hid fun j y hj hy => ?_, hB.drew.drew⟩
            rcases Nat.lt_succ_iff_lt_or_eq.1 hj with h | rfl
            · obtain ⟨z1, z2, z3⟩ := HI.out j y h hy
              exact ⟨z1, fun e => by have := z2 e; omega, by omega⟩
            · rw [HX.out] at hy; cases hy
              exact ⟨fun e => by omega, fun e => by omega, by omega⟩
          case measure => simp [intOf]; omega
        · have hbe2 : (x.bench == n.bench) = false := by simpa using hbe
          have HNE := Lib.hid hbe
          clear hbe
          go_wp2
          refine wp_region_ord [(0, true), (1, true), (2, true), (3, true), (4, true), (5, true), (6, true), (7, true), (8, true), (9, true), (10, true), (11, true), (12, true), (13, true), (14, true)] rfl (by kernel_rfl) (by kernel_rfl) (fun d _ _ _ _ h => by cases d <;> exact h) ?_
          iterate 4 (refine wpB_fix rfl rfl (fun W hW => by go_simp; with_reducible rfl) ?_; simp only [pTs, pTn, pTz, pTc])
          refine wpB_fix (v := vi x.kind) rfl rfl (fun W hW => by have e : W.cell? ⟨b, o + m * 29 + 4, none⟩ = some (vi x.kind) := (HCX.out W (hBw.drew.trans (hW.mono hBw.drew.size)) 4 (by show 4 < 29; decide)).trans rfl; go_simp) ?_; simp only [pTs, pTn, pTz, pTc]
          iterate 2 (refine wpB_fix rfl rfl (fun W hW => by go_simp; with_reducible rfl) ?_; simp only [pTs, pTn, pTz, pTc])
          iterate 7 (refine wpB_skip rfl rfl ?_; simp only [pTs, pTn, pTz, pTc])
          refine wpB_fix rfl rfl (fun W hW => by go_simp; with_reducible rfl) ?_; simp only [pTs, pTn, pTz, pTc]
          simp only [wpB]
          go_wp2
          refine wp_region_ord [(0, true), (1, true), (2, true), (3, true), (4, true), (5, true), (6, true), (7, true)] rfl (by kernel_rfl) (by kernel_rfl) (fun d _ _ _ _ h => by cases d <;> exact h) ?_
          iterate 4 (refine wpB_fix rfl rfl (fun W hW => by go_simp; with_reducible rfl) ?_; simp only [pTs, pTn, pTz, pTc])
          refine wpB_fix (v := vi x.bench) rfl rfl (fun W hW => by have e : W.cell? ⟨b, o + m * 29, none⟩ = some (vi x.bench) := (HCX.out W (hBw.drew.drew.trans (hW.mono hBw.drew.drew.size)) 0 (by show 0 < 29; decide)).trans rfl; go_simp) ?_; simp only [pTs, pTn, pTz, pTc]
          refine wpB_fix rfl rfl (fun W hW => by go_simp; with_reducible rfl) ?_; simp only [pTs, pTn, pTz, pTc]
          refine wpB_fix (v := vi n.bench) rfl rfl (fun W hW => by have e : W.cell? ⟨u1.heap.size, 0, none⟩ = some (vi n.bench) := ((HBN.out.belowAll (hB.drew.drew.trans (hW.mono hB.drew.drew.size))).cell 0).trans rfl; go_simp) ?_; simp only [pTs, pTn, pTz, pTc]
          refine wpB_fix rfl rfl (fun W hW => by go_simp; with_reducible rfl) ?_; simp only [pTs, pTn, pTz, pTc]
          simp only [wpB]
          go_wp2
          go_roundw
          case rel =>
            obtain ⟨y1, y2, y3, y4⟩ := HXW.out
            refine ⟨m + 1, nm, max cl x.clock, by omega, by go_num, (by first | rfl | (congr 1; split <;> omega)), (by first | rfl | (congr 1; split <;> omega)), by omega, by omega, by omega, by omega, Lib.hid fun j y hj hy => ?_, hB.drew.drew⟩
            rcases Nat.lt_succ_iff_lt_or_eq.1 hj with h | rfl
            · obtain ⟨z1, z2, z3⟩ := HI.out j y h hy
              exact ⟨z1, fun e => by have := z2 e; omega, by omega⟩
            · rw [HX.out] at hy; cases hy
              exact ⟨fun e => by omega, fun e => by exact absurd e HNE.out, by omega⟩
          case measure => simp [intOf]; omega
    · have hml2 : ¬ (m : Int) < (val.length : Int) := by omega
      have HAS : Hid ((∀ x ∈ val, 8 < x.kind → x.ref ≠ refN n) ∧ (∀ x ∈ val, x.bench = n.bench → x.num ≤ nm) ∧ (∀ x ∈ val, x.clock ≤ cl)) := Lib.hid (by
        refine ⟨fun x hx => ?_, fun x hx => ?_, fun x hx => ?_⟩
        all_goals
          obtain ⟨j, hj⟩ := List.getElem?_of_mem hx
          have h := HI.out j x (by have := (List.getElem?_eq_some_iff.1 hj).1; omega) hj
        · exact h.1
        · exact h.2.1
        · exact h.2.2)
      have HN' := Lib.hid (HBN.out.belowAll hB)
      have HF' := Lib.hid (HBF.out.belowAll hB)
      have HR' := Lib.hid (HBR.out.belowAll hB)
      have hn0r : wr.cell? ⟨u1.heap.size, 0, none⟩ = some (vi n.bench) := (HN'.out.cell 0).trans rfl
      have hw1 : wrap64 (nm + 1) = nm + 1 := wrap64_small (by omega) (by omega)
      have hw2 : wrap64 (nm + 2) = nm + 2 := wrap64_small (by omega) (by omega)
      have hw3 : wrap64 (cl + 1) = cl + 1 := wrap64_small (by omega) (by omega)
      have hw4 : wrap64 (cl + 2) = cl + 2 := wrap64_small (by omega) (by omega)
      have hv2 : IntKind.i64.wrap (nm + 2) = nm + 2 := IntWalk.i64_in _ (by omega)
      have hv4 : IntKind.i64.wrap (cl + 2) = cl + 2 := IntWalk.i64_in _ (by omega)
      have HB0 := Lib.hid hB
      clear HI hm hml
      go_wp2_with (first
        | (with_reducible refine at_dst 113 ?_; refine wpList_load_at rfl 31 _ rfl u2.heap.size 0 rfl (encRef (refN n)) _ HF'.out.cells Tryz.underlying31 rfl (by kernel_rfl) ?_)
        | ((with_reducible refine at_storeTo 12 ?_); refine wpList_store_box (BoxAt.newN (n := wr.heap.size) _ _ _ rfl) rfl 40 _ _ rfl rfl (.agg (encNote (goneN n (nm + 1) (cl + 1)))) (by first | rfl | kernel_rfl) (by kernel_rfl) rfl (one_agg (encNote_one _)) ?_; intro u4 hq hT; have bg := hq.eqv (splice_whole _ (encNote (goneN n (nm + 1) (cl + 1))) rfl); have hLu4 : Below wr.heap.size wr u4 := ((Below.refl _ _).alloc (Nat.le_refl _) _).trans (hT.below (Nat.le_refl _)); clear hq hT; have hBu4 : Below w.heap.size w u4 := hBw.trans (hLu4.mono hBw.size); have bn4 := HN'.out.belowAll hLu4; have bf4 := HF'.out.belowAll hLu4; have br4 := HR'.out.belowAll hLu4)
        | (with_reducible refine at_dst 115 ?_; refine wpList_load_at rfl 40 _ rfl u1.heap.size 0 rfl (encNote n) _ bn4.cells Tryz.underlying40 rfl (by kernel_rfl) ?_)
        | ((with_reducible refine at_storeTo 13 ?_); refine wpList_store_box (BoxAt.newN (n := u4.heap.size) _ _ _ rfl) rfl 40 _ _ rfl rfl (.agg (encNote n)) rfl (by kernel_rfl) rfl (one_agg (encNote_one _)) ?_; intro u5 hq hT; have ba := hq.eqv (splice_whole _ (encNote n) rfl); have hLu5 : Below u4.heap.size u4 u5 := ((Below.refl _ _).alloc (Nat.le_refl _) _).trans (hT.below (Nat.le_refl _)); clear hq hT; have hBu5 : Below w.heap.size w u5 := hBu4.trans (hLu5.mono hBu4.size); have bn5 := bn4.belowAll hLu5; have bf5 := bf4.belowAll hLu5; have br5 := br4.belowAll hLu5; have bg5 := bg.belowAll hLu5))
      have hne3 : wr.heap.size ≠ u4.heap.size := by have h1 := bg.lt; omega
      have hne4 : w1.heap.size ≠ u4.heap.size := by have h1 := br4.lt; omega
      have hne1 : u1.heap.size ≠ u4.heap.size := by have h1 := bn4.lt; omega
      have hne2 : u2.heap.size ≠ u4.heap.size := by have h1 := bf4.lt; omega
      have hS0 : (fun W => BoxAt W u1.heap.size 40 (encNote n) ∧ BoxAt W u2.heap.size 31 (encRef (refN n))) u5.drew := ⟨bn5.drew, bf5.drew⟩
      refine wp_region_markS (fun W => BoxAt W u1.heap.size 40 (encNote n) ∧ BoxAt W u2.heap.size 31 (encRef (refN n))) 16 [(0, none), (1, none), (2, none), (3, none), (4, none), (7, none), (5, some true), (6, some true), (8, some false), (9, none), (10, some false), (11, none), (12, some false), (13, none), (14, some false), (15, none), (16, some false)] rfl (by kernel_rfl) (by kernel_rfl) (fun d _ _ _ _ h => by cases d <;> exact h) hS0 ?_
      iterate 6 (refine wpE_pure rfl rfl (fun W => by go_simp; with_reducible rfl) ?_; simp only [pTs, pTn, pTz, pTc])
      refine wpE_fix (v := vi n.kind) rfl rfl (fun W hW => by have e : W.cell? ⟨u1.heap.size, 4, none⟩ = some (vi n.kind) := (hW.1.cell 4).trans rfl; go_simp) ?_; simp only [pTs, pTn, pTz, pTc]
      refine wpE_fix (v := .agg (encRef (refN n))) rfl rfl (fun W hW => run_load_mem (encRef (refN n)) rfl (fun j hj => hW.2.cells j hj) Tryz.underlying31 rfl (by kernel_rfl)) ?_; simp only [pTs, pTn, pTz, pTc]
      refine wpE_act rfl rfl rfl (fun K hK => ?_)
      refine wp_store_box ba.drew _ _ _ rfl rfl (vi (nm + 2)) rfl (by kernel_rfl) rfl (one_vi _) ?_
      intro z1 hq hT1
      have y1 := hq.eqv (cs' := encNote { n with num := nm + 2 }) (by simp [splice, encNote, encRef, Value.cells, refN])
      clear hq
      have hS1 : (fun W => BoxAt W u1.heap.size 40 (encNote n) ∧ BoxAt W u2.heap.size 31 (encRef (refN n))) z1 := ⟨hS0.1.turn hT1 hne1, hS0.2.turn hT1 hne2⟩
      refine hK _ _ hS1 ?_
      clear hK K
      try simp only [pTs, pTn, pTz, pTc]
      refine wpE_pure rfl rfl (fun W => by go_simp; with_reducible rfl) ?_; simp only [pTs, pTn, pTz, pTc]
      refine wpE_act rfl rfl rfl (fun K hK => ?_)
      refine wp_store_box y1 _ _ _ rfl rfl (vi (cl + 2)) rfl (by kernel_rfl) rfl (one_vi _) ?_
      intro z2 hq hT2
      have y2 := hq.eqv (cs' := encNote { n with num := nm + 2, clock := cl + 2 }) (by simp [splice, encNote, encRef, Value.cells, refN])
      clear hq
      have hS2 : (fun W => BoxAt W u1.heap.size 40 (encNote n) ∧ BoxAt W u2.heap.size 31 (encRef (refN n))) z2 := ⟨hS1.1.turn hT2 hne1, hS1.2.turn hT2 hne2⟩
      refine hK _ _ hS2 ?_
      clear hK K
      try simp only [pTs, pTn, pTz, pTc]
      refine wpE_pure rfl rfl (fun W => by go_simp; with_reducible rfl) ?_; simp only [pTs, pTn, pTz, pTc]
      refine wpE_act rfl rfl rfl (fun K hK => ?_)
      refine wp_store_box y2 _ _ _ rfl rfl (vi 9) rfl (by kernel_rfl) rfl (one_vi _) ?_
      intro z3 hq hT3
      have y3 := hq.eqv (cs' := encNote { n with num := nm + 2, clock := cl + 2, kind := 9 }) (by simp [splice, encNote, encRef, Value.cells, refN])
      clear hq
      have hS3 : (fun W => BoxAt W u1.heap.size 40 (encNote n) ∧ BoxAt W u2.heap.size 31 (encRef (refN n))) z3 := ⟨hS2.1.turn hT3 hne1, hS2.2.turn hT3 hne2⟩
      refine hK _ _ hS3 ?_
      clear hK K
      try simp only [pTs, pTn, pTz, pTc]
      refine wpE_pure rfl rfl (fun W => by go_simp; with_reducible rfl) ?_; simp only [pTs, pTn, pTz, pTc]
      refine wpE_act rfl rfl rfl (fun K hK => ?_)
      refine wp_store_box y3 _ _ _ rfl rfl (vi n.kind) rfl (by kernel_rfl) rfl (one_vi _) ?_
      intro z4 hq hT4
      have y4 := hq.eqv (cs' := encNote { n with num := nm + 2, clock := cl + 2, kind := 9, fix := n.kind }) (by simp [splice, encNote, encRef, Value.cells, refN])
      clear hq
      have hS4 : (fun W => BoxAt W u1.heap.size 40 (encNote n) ∧ BoxAt W u2.heap.size 31 (encRef (refN n))) z4 := ⟨hS3.1.turn hT4 hne1, hS3.2.turn hT4 hne2⟩
      refine hK _ _ hS4 ?_
      clear hK K
      try simp only [pTs, pTn, pTz, pTc]
      refine wpE_pure rfl rfl (fun W => by go_simp; with_reducible rfl) ?_; simp only [pTs, pTn, pTz, pTc]
      refine wpE_mark rfl rfl (fun K hK => ?_)
      refine wp_store_box y4 _ _ _ rfl rfl (.agg (encRef (refN n))) rfl (by kernel_rfl) rfl (one_agg (encRef_one _)) ?_
      intro z5 hq hT5
      have y5 := hq.eqv (cs' := encNote (againN n (nm + 2) (cl + 2))) (by simp [splice, encNote, encRef, Value.cells, refN, againN])
      clear hq
      have hS5 : (fun W => BoxAt W u1.heap.size 40 (encNote n) ∧ BoxAt W u2.heap.size 31 (encRef (refN n))) z5 := ⟨hS4.1.turn hT5 hne1, hS4.2.turn hT5 hne2⟩
      refine hK _ _ ?_
      clear hK K
      try simp only [pTs, pTn, pTz, pTc]
      simp only [wpE]
      have hTz : Turn u4.heap.size u5.drew z5 := (((hT1.trans hT2).trans hT3).trans hT4).trans hT5
      have hBz : Below w.heap.size w z5 := hBu5.drew.trans (hTz.below hBu4.size)
      have hC3 : Below w1.heap.size w1 u3 := (hLu1.trans (hLu2.mono hLu1.size)).trans (hLu3.mono (hLu1.trans (hLu2.mono hLu1.size)).size)
      have hCr : Below w1.heap.size w1 wr := hC3.trans (HB0.out.mono hC3.size)
      have hC4 : Below w1.heap.size w1 u4 := hCr.trans (hLu4.mono hCr.size)
      have hC5 : Below w1.heap.size w1 u5 := hC4.trans (hLu5.mono hC4.size)
      have hCz : Below w1.heap.size w1 z5 := hC5.drew.trans (hTz.below hC4.size)
      have bgz := bg5.drew.turn hTz hne3
      have brz := br5.drew.turn hTz hne4
      have hnk : n ∈ val := List.mem_of_getElem? HNN.out
      by_cases h400 : 400 < nm + 2
      · go_wp2_with (first
          | (go_at_call 12; (with_reducible refine (awake_any _).mono ?_); rintro e wa ⟨rfl, hba⟩))
        go_ret
        exact ⟨by simp, hBz.trans (hba.mono hBz.size)⟩
      by_cases h1M : 1048576 < cl + 2
      · go_wp2_with (first
          | (go_at_call 12; (with_reducible refine (awake_any _).mono ?_); rintro e wa ⟨rfl, hba⟩))
        go_ret
        exact ⟨by simp, hBz.trans (hba.mono hBz.size)⟩
      have hask : Asked (val.map Note.abs) n.abs nm cl := by
        refine ⟨HSET.out, by rw [List.length_map]; omega, List.mem_map_of_mem hnk, HKW.out, h5, fun x hx hx8 => ?_, fun x hx hxb => ?_, fun x hx => ?_, by omega, by omega⟩
        all_goals obtain ⟨y, hy, rfl⟩ := List.mem_map.1 hx
        · exact HAS.out.1 y hy hx8
        · exact HAS.out.2.1 y hy hxb
        · exact HAS.out.2.2 y hy
      obtain ⟨M2, hm2, hset2, hfold2⟩ := takes_both hask
      obtain ⟨M1, hm1, hset1, hfold1⟩ := takes_one hask
      have hless : (val.take k ++ val.drop (k + 1)).map Note.abs = lessA (val.map Note.abs) n.abs := by
        rw [List.map_append, List.map_take, List.map_drop]
        exact split_up HSET.out.up (by rw [List.getElem?_map, HNN.out]; rfl)
      have HLS : Hid (SetA ((val.take k ++ val.drop (k + 1)).map Note.abs)) := Lib.hid (by rw [hless]; exact less_set HSET.out)
      have HFL : Hid (foldedA ((val.take k ++ val.drop (k + 1)).map Note.abs) 9999 = foldedA M1 9999) := Lib.hid (by rw [hless, hfold1])
      have HM2 := Lib.hid hm2
      have HM1 := Lib.hid hm1
      have HSE2 := Lib.hid hset2
      have HSE1 := Lib.hid hset1
      have HFD2 := Lib.hid hfold2
      clear hm2 hm1 hset2 hset1 hfold2 hfold1 hless hask
      have HSZ : Hid (∀ W, Below w.heap.size w W → NOK W ⟨some ⟨b, o, none⟩, cap, val⟩) := Lib.hid fun W hW => Sl.OK.ext (w := w) (w' := W) (fun _ h => okNote.ext h (.of_below hW)) HS.out (.of_below hW)
      have HOK0 : Hid (∀ W, Below w.heap.size w W → okNote (fun _ => False) W (goneN n (nm + 1) (cl + 1)) ∧ okNote (fun _ => False) W (againN n (nm + 2) (cl + 2))) := Lib.hid fun W hW => takes_ok (okNote.ext HON.out (.of_below hW)) (by unfold I64; omega) (by unfold I64; omega) (by unfold I64; omega) (by unfold I64; omega)
      have HMA : Hid (∀ cs : Array Value, cs.toList = flat encNote [goneN n (nm + 1) (cl + 1), againN n (nm + 2) (cl + 2)] → Calls Tryz.prog 22 #[.slice (some ⟨b, o, none⟩) val.length cap, .slice (some ⟨z5.heap.size, 0, none⟩) 2 2] (z5.alloc (.cells cs 40)) fun e w' => ∃ a2 c2 v2, e = .returned (.tuple #[.slice a2 v2.length c2, .int .i64 0]) ∧ NOK w' ⟨a2, c2, v2⟩ ∧ v2.map Note.abs = M2 ∧ Below z5.heap.size z5 w') := Lib.hid fun cs hcs => by
        have hal : Below z5.heap.size z5 (z5.alloc (.cells cs 40)) := (Below.refl _ _).alloc (Nat.le_refl _) _
        have hBa := hBz.trans (hal.mono hBz.size)
        have ho := HOK0.out _ hBa
        have hsl : NOK (z5.alloc (.cells cs 40)) ⟨some ⟨z5.heap.size, 0, none⟩, 2, [goneN n (nm + 1) (cl + 1), againN n (nm + 2) (cl + 2)]⟩ :=
          Sl.OK.ofBox (enc := encNote) (T := 40) (cs := cs) _ (fun _ => rfl) (BoxAt.new _ _ _) hcs (Nat.le_of_ble_eq_true rfl) (fun h => h) (fun y hy => by
            simp only [List.mem_cons, List.not_mem_nil, or_false] at hy
            rcases hy with rfl | rfl
            · exact ho.1
            · exact ho.2)
        refine (merge_c (some ⟨b, o, none⟩) cap val (some ⟨z5.heap.size, 0, none⟩) 2 [goneN n (nm + 1) (cl + 1), againN n (nm + 2) (cl + 2)] _ M2 0 (HSZ.out _ hBa) hsl (by omega) (by simp) HM2.out).mono ?_
        rintro e w' ⟨a2, c2, v2, h1, h2, h3, _, h5⟩
        exact ⟨a2, c2, v2, h1, h2, h3, hal.trans (h5.mono (by simp))⟩
      have HF1 := Lib.hid (fun (a2 : Option Addr) (c2 : Nat) (v2 : List Note) (W : World) (h : NOK W ⟨a2, c2, v2⟩) (hs : SetA (v2.map Note.abs)) => fold_set (fun _ => False) ⟨a2, c2, v2⟩ W h hs)
      obtain ⟨yt, hyt⟩ : ∃ y, (⟨some ⟨b, o, none⟩, cap, val⟩ : Sl Note).tk k = y := ⟨_, rfl⟩
      obtain ⟨yd, hyd⟩ : ∃ y, (⟨some ⟨b, o, none⟩, cap, val⟩ : Sl Note).dr 29 (k + 1) = y := ⟨_, rfl⟩
      have HYT : Hid (∀ W, (Instr.sliceAt 22 (.slice (some ⟨b, o, none⟩) val.length cap) none (some (.int .i64 k)) none).run Tryz.prog W = .ok (.slice yt.a yt.val.length yt.cap) W) := Lib.hid fun W => by
        have h := run_tk W ⟨some ⟨b, o, none⟩, cap, val⟩ k (by show k ≤ val.length; omega) hcap
        rw [hyt] at h; exact h
      have HYD : Hid (∀ W, (Instr.sliceAt 22 (.slice (some ⟨b, o, none⟩) val.length cap) (some (.int .i64 ((k : Int) + 1))) none none).run Tryz.prog W = .ok (.slice yd.a yd.val.length yd.cap) W) := Lib.hid fun W => by
        have h := run_dr W ⟨some ⟨b, o, none⟩, cap, val⟩ (k + 1) (by show k + 1 ≤ val.length; omega)
        rw [hyd] at h; exact h
      have HTV : Hid (yt.val = val.take k) := Lib.hid (by rw [← hyt]; rfl)
      have HDV : Hid (yd.val = val.drop (k + 1)) := Lib.hid (by rw [← hyd]; rfl)
      have HTO : Hid (∀ W, Below w.heap.size w W → NOK W yt) := Lib.hid fun W hW => by rw [← hyt]; exact (HSZ.out W hW).tk k
      have HDO : Hid (∀ W, Below w.heap.size w W → NOK W yd) := Lib.hid fun W hW => by rw [← hyd]; exact Sl.OK.dr (HSZ.out W hW) (by show k + 1 ≤ val.length; omega)
      have HTL : Hid (yt.val.length ≤ 150 ∧ yd.val.length ≤ 150) := Lib.hid (by rw [HTV.out, HDV.out]; exact cuts150 val k (Int.not_lt.2 h150))
      clear hyt hyd
      have hk1 : wrap64 ((k : Int) + 1) = (k : Int) + 1 := (kwrap val k hkl (Int.not_lt.2 h150)).1
      have hv5 : IntKind.i64.wrap ((k : Int) + 1) = (k : Int) + 1 := (kwrap val k hkl (Int.not_lt.2 h150)).2
      have HMB : Hid (∀ (W : World) (cs : Array Value), Below w.heap.size w W → cs.toList = flat encNote [goneN n (nm + 1) (cl + 1)] → Calls Tryz.prog 22 #[.slice (some ⟨b, o, none⟩) val.length cap, .slice (some ⟨W.heap.size, 0, none⟩) 1 1] (W.alloc (.cells cs 40)) fun e w' => ∃ a2 c2 v2, e = .returned (.tuple #[.slice a2 v2.length c2, .int .i64 0]) ∧ NOK w' ⟨a2, c2, v2⟩ ∧ v2.map Note.abs = M1 ∧ Below W.heap.size W w') := Lib.hid fun W cs hW hcs => by
        have hal : Below W.heap.size W (W.alloc (.cells cs 40)) := (Below.refl _ _).alloc (Nat.le_refl _) _
        have hBa := hW.trans (hal.mono hW.size)
        have ho := HOK0.out _ hBa
        have hsl : NOK (W.alloc (.cells cs 40)) ⟨some ⟨W.heap.size, 0, none⟩, 1, [goneN n (nm + 1) (cl + 1)]⟩ :=
          Sl.OK.ofBox (enc := encNote) (T := 40) (cs := cs) _ (fun _ => rfl) (BoxAt.new _ _ _) hcs (Nat.le_of_ble_eq_true rfl) (fun h => h) (fun y hy => by
            rw [List.mem_singleton.1 hy]; exact ho.1)
        refine (merge_c (some ⟨b, o, none⟩) cap val (some ⟨W.heap.size, 0, none⟩) 1 [goneN n (nm + 1) (cl + 1)] _ M1 0 (HSZ.out _ hBa) hsl (by omega) (by simp) HM1.out).mono ?_
        rintro e w' ⟨a2, c2, v2, h1, h2, h3, _, h5⟩
        exact ⟨a2, c2, v2, h1, h2, h3, hal.trans (h5.mono (by simp))⟩
      clear hw1 hw2 hw3 hw4 hv2 hv4
      go_wp2_with (first
        | (with_reducible refine at_dst 139 ?_; refine wpList_load_at rfl 40 _ rfl wr.heap.size 0 rfl (encNote (goneN n (nm + 1) (cl + 1))) _ bgz.cells Tryz.underlying40 rfl (by kernel_rfl) ?_)
        | (with_reducible refine at_dst 140 ?_; refine wpList_load_at rfl 40 _ rfl u4.heap.size 0 rfl (encNote (againN n (nm + 2) (cl + 2))) _ y5.cells Tryz.underlying40 rfl (by kernel_rfl) ?_)
        | ((with_reducible refine at_dst 141 ?_); refine wpList_lits (enc := encNote) (z0 := #[Value.int .i64 0, Value.int .i64 0, Value.int .i64 0, Value.int .i64 0, Value.int .i64 0, Value.int .i64 0, Value.int .i64 0, Value.int .i64 0, Value.int .i64 0, Value.int .i64 0, Value.int .i64 0, .bool false, Value.int .i64 0, Value.int .i64 0, Value.slice none 0 0, Value.slice none 0 0, Value.slice none 0 0, Value.int .i64 0, Value.int .i64 0, Value.int .i64 0, Value.int .i64 0, Value.int .i64 0, Value.int .i64 0, Value.int .i64 0, Value.slice none 0 0, Value.slice none 0 0, Value.int .i64 0, Value.int .i64 0, Value.slice none 0 0]) [goneN n (nm + 1) (cl + 1), againN n (nm + 2) (cl + 2)] rfl 22 _ _ rfl einfo_Note (by kernel_rfl) rfl (by decide) (fun _ => rfl) rfl (Nat.le_of_ble_eq_true rfl) (Nat.zero_lt_succ _) (by kernel_rfl) ?_; intro cs1 hcs1)
        | (go_at_call 22; (with_reducible refine (HMA.out cs1 hcs1).mono ?_); rintro e v1 ⟨p1, q1, r1, rfl, OK1, hv1, hb1'⟩; have hB6 := hBz.trans (hb1'.mono hBz.size); have hC6 := hCz.trans (hb1'.mono hCz.size); have HV1 := Lib.hid hv1; clear hv1; have bg6 := bgz.belowAll hb1'; have br6 := brz.belowAll hb1')
        | (go_at_call 25; (with_reducible refine (HF1.out p1 q1 r1 _ OK1 (by rw [HV1.out]; exact HSE2.out)).mono ?_); rintro e v2 ⟨S, rfl, hSA, hSO, hb2⟩; have hB7 := hB6.trans (hb2.mono hB6.size); have hC7 := hC6.trans (hb2.mono hC6.size); have HSA := Lib.hid hSA; have HSO := Lib.hid hSO; clear hSA hSO; have bg7 := bg6.belowAll hb2; have br7 := br6.belowAll hb2)
        | ((with_reducible refine at_storeTo 16 ?_); refine wpList_store_box (BoxAt.newN (n := v2.heap.size) _ _ _ rfl) rfl 58 _ _ rfl rfl (.agg (encRegister S)) rfl (by kernel_rfl) rfl (one_agg (encRegister_one _)) ?_; intro v3 hq hT; have bs := hq.eqv (splice_whole _ (encRegister S) rfl); have hLv3 : Below v2.heap.size v2 v3 := ((Below.refl _ _).alloc (Nat.le_refl _) _).trans (hT.below (Nat.le_refl _)); clear hq hT; have hB8 := hB7.trans (hLv3.mono hB7.size); have hC8 := hC7.trans (hLv3.mono hC7.size); have bg8 := bg7.belowAll hLv3; have br8 := br7.belowAll hLv3)
        | (with_reducible refine at_dst 157 ?_; refine wpList_loadB br8 rfl 58 _ rfl rfl (encRegister R) (whole_cells _) Tryz.underlying58 rfl (by kernel_rfl) ?_)
        | (with_reducible refine at_dst 158 ?_; refine wpList_loadB bs rfl 58 _ rfl rfl (encRegister S) (whole_cells _) Tryz.underlying58 rfl (by kernel_rfl) ?_)
        | (go_at_call 26; (with_reducible refine (refRegister_eq (fun _ => False) R S _ (okRegister.mono (okRegister.ext HRO (.of_below hC8)) (fun _ h => h.elim)) (okRegister.mono (okRegister.ext HSO.out (.of_below hLv3)) (fun _ h => h.elim)) (by rw [HRA, HSA.out, HV1.out]; exact HFD2.out.symm)).mono ?_); rintro e v4 ⟨rfl, hb4⟩; have hB9 := hB8.trans (hb4.mono hB8.size); have bg9 := bg8.belowAll hb4; have bs9 := bs.belowAll hb4)
        | (with_reducible refine at_dst 164 ?_; refine wpList_load_at rfl 40 _ rfl wr.heap.size 0 rfl (encNote (goneN n (nm + 1) (cl + 1))) _ bg9.cells Tryz.underlying40 rfl (by kernel_rfl) ?_)
        | ((with_reducible refine at_dst 165 ?_); refine wpList_lits (enc := encNote) (z0 := #[Value.int .i64 0, Value.int .i64 0, Value.int .i64 0, Value.int .i64 0, Value.int .i64 0, Value.int .i64 0, Value.int .i64 0, Value.int .i64 0, Value.int .i64 0, Value.int .i64 0, Value.int .i64 0, .bool false, Value.int .i64 0, Value.int .i64 0, Value.slice none 0 0, Value.slice none 0 0, Value.slice none 0 0, Value.int .i64 0, Value.int .i64 0, Value.int .i64 0, Value.int .i64 0, Value.int .i64 0, Value.int .i64 0, Value.int .i64 0, Value.slice none 0 0, Value.slice none 0 0, Value.int .i64 0, Value.int .i64 0, Value.slice none 0 0]) [goneN n (nm + 1) (cl + 1)] rfl 22 _ _ rfl einfo_Note (by kernel_rfl) rfl (by decide) (fun _ => rfl) rfl (Nat.le_of_ble_eq_true rfl) (Nat.zero_lt_succ _) (by kernel_rfl) ?_; intro cs2 hcs2)
        | (go_at_call 22; (with_reducible refine (HMB.out _ cs2 hB9 hcs2).mono ?_); rintro e v5 ⟨p2, q2, r2, rfl, OK2, hv2, hb5⟩; have hB10 := hB9.trans (hb5.mono hB9.size); have HV2 := Lib.hid hv2; clear hv2; have bs10 := bs9.belowAll hb5)
        | (go_at_call 25; (with_reducible refine (HF1.out p2 q2 r2 _ OK2 (by rw [HV2.out]; exact HSE1.out)).mono ?_); rintro e v6 ⟨S2, rfl, hSA2, hSO2, hb6⟩; have hB11 := hB10.trans (hb6.mono hB10.size); have HSA2 := Lib.hid hSA2; have HSO2 := Lib.hid hSO2; clear hSA2 hSO2; have bs11 := bs10.belowAll hb6)
        | ((with_reducible refine at_storeTo 16 ?_); refine wpList_store_box bs11 rfl _ _ _ rfl rfl (.agg (encRegister S2)) rfl (by kernel_rfl) rfl (one_agg (encRegister_one _)) ?_; intro v7 hq hT7; have bs12 := hq.eqv (splice_whole _ (encRegister S2) rfl); have hBv7 : Below w.heap.size w v7 := hB11.trans (hT7.below hB7.size); have HSO3 : Hid (okRegister (Old v5.heap.size) v7 S2) := Lib.hid (okRegister.ext HSO2.out ⟨Nat.le_of_eq hT7.size.symm, fun q hq hd => hT7.block q (fun e => hd (by subst e; have := bs10.lt; exact this))⟩); clear hq)
        | ((with_reducible refine at_dst 177 ?_); refine wpList_slice rfl _ _ _ _ _ rfl (.slice (some ⟨b, o, none⟩) val.length cap) (.slice yt.a yt.val.length yt.cap) rfl (HYT.out _) ?_)
        | ((with_reducible refine at_dst 178 ?_); refine wpList_append_slAt rfl _ _ 22 rfl v7.heap.size einfo_Note (fun _ => rfl) (by decide) encNote_one (by decide) (.slice none 0 0) [] rfl (OwnL.nil _ _ _ _ _) yt rfl (HTO.out _ hBv7) (cuts1_len HTL.out) (Nat.le_refl _) ?_; intro x1 v8 ho8 hg8 _; have hb8 := Below.appended (OwnL.nil encNote 29 v7 v7.heap.size 40) hg8 (Nat.le_refl _) (Nat.le_refl _); have HO8 := Lib.hid ho8; clear ho8)
        | ((with_reducible refine at_dst 183 ?_); refine wpList_slice rfl _ _ _ _ _ rfl (.slice (some ⟨b, o, none⟩) val.length cap) (.slice yd.a yd.val.length yd.cap) rfl (HYD.out _) ?_)
        | ((with_reducible refine at_dst 184 ?_); refine wpList_append_slAt rfl _ _ 22 rfl v7.heap.size einfo_Note (fun _ => rfl) (by decide) encNote_one (by decide) x1 ([] ++ yt.val) rfl HO8.out yd rfl (HDO.out _ (hBv7.trans (hb8.mono hBv7.size))) (cuts2_len HTL.out) hb8.size ?_; intro x2 v9 ho9 hg9 _; have hb79 : Below v7.heap.size v7 v9 := hb8.trans (Below.appended HO8.out hg9 (Nat.le_refl _) hb8.size); rw [List.nil_append, HTV.out, HDV.out] at ho9; obtain ⟨ys, rfl, hyv, hyok, -⟩ := ho9.sl (fun _ => rfl) okNote (fun _ => False) (fun z hz => okNote.ext (HS.out.elem z (by rcases List.mem_append.1 hz with hz | hz; exact List.mem_of_mem_take hz; exact List.mem_of_mem_drop hz)) (.of_below (hBv7.trans (hb79.mono hBv7.size)))) (fun _ _ h => h) (cutsN_len val k hroom); have HYV := Lib.hid hyv; have HYO := Lib.hid hyok; clear hyv hyok ho9)
        | (go_at_call 25; (with_reducible refine (HF1.out ys.a ys.cap ys.val _ HYO.out (by rw [HYV.out]; exact HLS.out)).mono ?_); rintro e v10 ⟨T, rfl, hTA, hTO, hb10⟩; have HTA := Lib.hid hTA; have HTO2 := Lib.hid hTO; clear hTA hTO)
        | ((with_reducible refine at_storeTo 20 ?_); refine wpList_store_box (BoxAt.newN (n := v10.heap.size) _ _ _ rfl) rfl 58 _ _ rfl rfl (.agg (encRegister T)) rfl (by kernel_rfl) rfl (one_agg (encRegister_one _)) ?_; intro v11 hq hT; have bt := hq.eqv (splice_whole _ (encRegister T) rfl); have hLv11 : Below v10.heap.size v10 v11 := ((Below.refl _ _).alloc (Nat.le_refl _) _).trans (hT.below (Nat.le_refl _)); clear hq hT; have hb7b := (hb79.trans (hb10.mono hb79.size)).trans (hLv11.mono (hb79.trans (hb10.mono hb79.size)).size); have bs13 := bs12.below hb7b bs12.lt)
        | (with_reducible refine at_dst 200 ?_; refine wpList_load_at rfl 58 _ rfl v2.heap.size 0 rfl (encRegister S2) _ bs13.cells Tryz.underlying58 rfl (by kernel_rfl) ?_)
        | (with_reducible refine at_dst 201 ?_; refine wpList_load_at rfl 58 _ rfl v10.heap.size 0 rfl (encRegister T) _ bt.cells Tryz.underlying58 rfl (by kernel_rfl) ?_)
        | (go_at_call 26; (with_reducible refine (refRegister_eq (fun _ => False) S2 T _ (okRegister.mono (okRegister.ext HSO3.out (.of_below hb7b)) (fun _ h => h.elim)) (okRegister.mono (okRegister.ext HTO2.out (.of_below hLv11)) (fun _ h => h.elim)) (by rw [HSA2.out, HV2.out, HTA.out, HYV.out, HFL.out])).mono ?_); rintro e v12 ⟨rfl, hb12⟩)
        | (go_at_call 12; (with_reducible refine (awake_any _).mono ?_); rintro e wa ⟨rfl, hba⟩))
      go_ret
      have hBv9 := hBv7.trans (hb79.mono hBv7.size)
      have hBv10 := hBv9.trans (hb10.mono hBv9.size)
      have hBv11 := hBv10.trans (hLv11.mono hBv10.size)
      have hBv12 := hBv11.trans (hb12.mono hBv11.size)
      exact ⟨by simp, hBv12.trans (hba.mono hBv12.size)⟩
end Go.Proofs.YtendmmhfjhgdaaaGreat
