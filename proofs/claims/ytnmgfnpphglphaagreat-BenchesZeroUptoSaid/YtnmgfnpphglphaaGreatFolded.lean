/-
  folded, Fold: walked, given what enter does.
-/
import Derived.Test.YtnmgfnpphglphaaGreatTold
import Derived.Test.YtnmgfnpphglphaaGreatEff
import Derived.Test.YtnmgfnpphglphaaGreatSet
set_option maxHeartbeats 16000000
set_option maxRecDepth 100000
set_option linter.unusedVariables false
set_option linter.unusedSimpArgs false
namespace Go.Proofs.YtnmgfnpphglphaaGreat
open Go.RowKit
theorem results_cell_tmp {P : Program} {fn : Func} {a : Act} {w : World} {t u : Tmp} {ty : TypeId} {b : Nat} {T : TypeId} {cs : Array Value} {d : TypeDesc} (v : Value) (hb : BoxAt w b T cs) (hr : fn.results = #[.cell t ty, .tmp u])
  (hp : a.tmps.getD t undef = .pointer (some ⟨b, 0, none⟩)) (hv : a.tmps.getD u undef = v) (hu : P.underlying ty = some d) (hd : (match d with | .struct _ | .array _ _ => true | _ => false) = true) (hi : (P.info? ty).map (·.size) = some cs.size) :
  (results fn a.tmps).run P w = .ok (.tuple #[.agg cs, v]) w := by
 have hl := run_loadVar_at (P := P) w b 0 ty cs d hb.cells hu hd hi
 have hp' : a.tmps[t]?.getD undef = .pointer (some ⟨b, 0, none⟩) := by rw [← hp]; simp
 have hv' : a.tmps[u]?.getD undef = v := by rw [← hv]; simp
 simp [results, hr, hp', hv', asAddr, hl]
theorem actA_conflicts (L : LedA) (n : NoteA) : (actA L n).1.conflicts = L.conflicts := by
 unfold actA
 repeat' split
 all_goals first
  | (unfold findA; split <;> rfl)
  | (unfold recordA; split <;> rfl)
  | rfl
  | (unfold sendA; split <;> rfl)
  | (unfold unpackA; split <;> rfl)
  | (unfold setA; repeat' split
     all_goals rfl)
  | (unfold takeA; split <;> rfl)
  | (unfold splitA; split <;> rfl)
def stepY (year : Int) (L : LedA) (n : NoteA) : LedA := if n.year ≤ year then enterA L n else L
theorem stepY_conflicts (year : Int) (L : LedA) (n : NoteA) : (stepY year L n).conflicts.length ≤ L.conflicts.length + 1 := by
 unfold stepY
 split
 ·unfold enterA
  split
  ·rw [actA_conflicts]; omega
  ·simp [actA_conflicts]
 ·omega
def stA (year : Int) (l : List NoteA) (k : Nat) : LedA := (l.take k).foldl (stepY year) led0
theorem stA_succ {year : Int} {l : List NoteA} {k : Nat} {x : NoteA} (h : l[k]? = some x) : stA year l (k + 1) = stepY year (stA year l k) x := by simp [stA, take_snoc h]
theorem stA_conflicts (year : Int) (l : List NoteA) : ∀ k, (stA year l k).conflicts.length ≤ k
 | 0 => by simp [stA, led0]
 | k + 1 => by
  have ih := stA_conflicts year l k
  cases hx : l[k]? with
  | none =>
   have : stA year l (k + 1) = stA year l k := by simp only [stA]; rw [List.take_add_one, hx]; simp
   rw [this]; omega
  | some x => rw [stA_succ hx]; have := stepY_conflicts year (stA year l k) x; omega
theorem stA_all (year : Int) (l : List NoteA) : stA year (effA l) (effA l).length = ledOf l year := by simp [stA, ledOf]; rfl
def Enters (P : NoteA → LedA → Prop) : Prop := ∀ (b N : Nat) (L : Led) (x : Note) (w : World), P x.abs L.abs → LedAt b N w L → okNote (LD b N) w x → L.conflicts.length ≤ 1000000 →
 Calls Tryz.prog 113 #[.pointer (some ⟨b + 6, 0, none⟩), .agg (encNote x)] w fun e w' => e = .returned (.tuple #[]) ∧ ∃ L', L'.abs = enterA L.abs x.abs ∧ LedAt b N w' L' ∧ Chg b N w w'
def P145 (x : NoteA) (_ : LedA) : Prop := x.kind = 1 ∨ x.kind = 4 ∨ x.kind = 5
theorem enters_145 : Enters P145 := by
 intro b N L x w hP h hn hc
 have hc' : ∀ act : LedA → NoteA → LedA × Bool, actA L.abs x.abs = act L.abs x.abs → (act L.abs x.abs).1.conflicts.length ≤ 1000000 := fun act e => by rw [← e, actA_conflicts]; exact hc
 rcases hP with hk | hk | hk
 ·have e : actA L.abs x.abs = findA L.abs x.abs := by unfold actA; rw [if_pos hk]
  refine (enter_any (DoesS.does find_does) (enters_of Tryz.func156 (by kernel_rfl) rfl) b N L x w h hn trivial (by rw [show x.kind = _ from hk]; rfl) (hc' _ e)).mono ?_
  rintro e' w' ⟨rfl, L', h1, h2, h3⟩
  exact ⟨rfl, L', by rw [h1]; unfold stepA enterA; rw [e], h2, h3⟩
 ·have e : actA L.abs x.abs = sendA L.abs x.abs := by unfold actA; simp [hk]
  refine (enter_any (DoesS.does send_does) (enters_of Tryz.func159 (by kernel_rfl) rfl) b N L x w h hn trivial (by rw [show x.kind = _ from hk]; rfl) (hc' _ e)).mono ?_
  rintro e' w' ⟨rfl, L', h1, h2, h3⟩
  exact ⟨rfl, L', by rw [h1]; unfold stepA enterA; rw [e], h2, h3⟩
 ·have e : actA L.abs x.abs = unpackA L.abs x.abs := by unfold actA; simp [hk]
  refine (enter_any (DoesS.does unpack_does) (enters_of Tryz.func160 (by kernel_rfl) rfl) b N L x w h hn trivial (by rw [show x.kind = _ from hk]; rfl) (hc' _ e)).mono ?_
  rintro e' w' ⟨rfl, L', h1, h2, h3⟩
  exact ⟨rfl, L', by rw [h1]; unfold stepA enterA; rw [e], h2, h3⟩
structure Small (L : LedA) : Prop where
 pieces : L.pieces.length ≤ 1000000
 glass : L.glass.length ≤ 1000000
 items : L.items.length ≤ 1000000
 releads : L.releads.length ≤ 1000000
 conflicts : L.conflicts.length ≤ 1000000
def ledEnd (l : List NoteA) (year : Int) : LedA := { ledOf l year with conflicts := (ledOf l year).conflicts ++ dangA l }
theorem folded_any {P : NoteA → LedA → Prop} (hE : Enters P) (D : Nat → Prop) (s : Sl Note) (year : Int) (w : World) (hs : s.OK 29 encNote okNote D w) (hlen : s.val.length ≤ 500) (hnd : (s.val.map refN).Nodup) (hy : I64 year)
  (hP : ∀ k x, (effA (s.val.map Note.abs))[k]? = some x → x.year ≤ year → P x (stA year (effA (s.val.map Note.abs)) k)) (hS : Small (ledEnd (s.val.map Note.abs) year)) (hel : (effA (s.val.map Note.abs)).length ≤ 500) (hdl : (dangA (s.val.map Note.abs)).length ≤ 500) :
  Calls Tryz.prog 61 #[.slice s.a s.val.length s.cap, .int .i64 year] w fun e w' => ∃ R : Register, e = .returned (.agg (encRegister R)) ∧ R.abs = foldedA (s.val.map Note.abs) year ∧ okRegister (Old w.heap.size) w' R ∧ Below w.heap.size w w' := by
 have hB1 : Below w.heap.size w (w.alloc (.cells #[.slice none 0 0, .slice none 0 0, .slice none 0 0, .slice none 0 0, .slice none 0 0, .slice none 0 0] 100)) := (Below.refl _ _).alloc (Nat.le_refl _) _
 have hbc : BoxAt (w.alloc (.cells #[.slice none 0 0, .slice none 0 0, .slice none 0 0, .slice none 0 0, .slice none 0 0, .slice none 0 0] 100)) w.heap.size 100 #[.slice none 0 0, .slice none 0 0, .slice none 0 0, .slice none 0 0, .slice none 0 0, .slice none 0 0] := BoxAt.new _ _ _
 have HNL : Hid (Calls Tryz.prog 111 #[] (w.alloc (.cells #[.slice none 0 0, .slice none 0 0, .slice none 0 0, .slice none 0 0, .slice none 0 0, .slice none 0 0] 100)) fun e w' => e = .returned (.pointer (some ⟨w.heap.size + 1 + 6, 0, none⟩)) ∧ Led0At (w.heap.size + 1) w' ∧ Below (w.alloc (.cells #[.slice none 0 0, .slice none 0 0, .slice none 0 0, .slice none 0 0, .slice none 0 0, .slice none 0 0] 100)).heap.size (w.alloc (.cells #[.slice none 0 0, .slice none 0 0, .slice none 0 0, .slice none 0 0, .slice none 0 0, .slice none 0 0] 100)) w' ∧ w'.heap.size = w.heap.size + 1 + 7) := Lib.hid (by have h := newLedger_any (w.alloc (.cells #[.slice none 0 0, .slice none 0 0, .slice none 0 0, .slice none 0 0, .slice none 0 0, .slice none 0 0] 100)); simp only [World.size_alloc] at h ⊢; exact h)
 have HEF : Hid (∀ W, Below w.heap.size w W → _) := Lib.hid fun W hW => effective_any note_sort D s W (hs.ext (fun _ hk => okNote.ext hk (.of_below hW)) (.of_below hW)) (by omega) hnd
 obtain ⟨la, hla⟩ : ∃ la, s.val.map Note.abs = la := ⟨_, rfl⟩
 rw [hla] at hP hS hel hdl HEF ⊢
 have HE := Lib.hid hE
 have HP := Lib.hid hP
 have HSM := Lib.hid hS
 clear hs hnd hla hE hP hS
 go_enter Tryz.func61, Tryz.ntmps61
 go_wp2_with (first
  | (go_at_call 111; refine HNL.out.mono ?_; rintro e w2 ⟨rfl, hled, hb2, hs2⟩; have hbc2 := hbc.belowAll hb2; have hB2 : Below w.heap.size w w2 := hB1.trans (hb2.mono hB1.size))
  | (go_at_call 112; refine (HEF.out _ hB2).mono ?_; rintro e w3 ⟨s1, s2, rfl, e1, e2, o1, o2, hb3⟩; have hL3 := (hled.below hb3).led (N := w3.heap.size) (by have := hb3.size; omega) (Nat.le_refl _); have hB3 : Below w.heap.size w w3 := hB2.trans (hb3.mono hB2.size); have hbc3 := hbc2.belowAll hb3; have hl2 : s2.val.length ≤ 500 := (by rw [e2]; exact hdl); have HE1 := Lib.hid e1; have HE2 := Lib.hid e2; clear e1 e2))
 have hs3 : w.heap.size + 8 ≤ w3.heap.size := by have := hb3.size; omega
 have hD : ∀ k, LD (w.heap.size + 1) w3.heap.size k → Wide (Old w2.heap.size) w3 k := fun k hk => hk.elim (fun h => .inl (by show k < _; omega)) .inr
 have HS1 : Hid (Sl.OK 29 encNote okNote (LD (w.heap.size + 1) w3.heap.size) w3 s1) := Lib.hid ((o1.wide (fun _ h => okNote_wide h)).mono (fun _ h => okNote.mono h hD) hD)
 have HS2 : Hid (Sl.OK 2 encRef okRef (LD (w.heap.size + 1) w3.heap.size) w3 s2) := Lib.hid (Sl.OK.mono (D := Wide (Old w2.heap.size) w3) (D' := LD (w.heap.size + 1) w3.heap.size) (fun _ h => h) (o2.wide (fun _ h => h)) hD)
 have hl1 : s1.val.length ≤ 500 := by rw [← HE1.out] at hel; simpa using hel
 clear o1 o2 hled hb3 hb2 hbc2
 obtain ⟨a1, cap1, val⟩ := s1
 simp only at hl1
 go_wp2
 go_loopw [9, 18] (fun _ i wr => ∃ (k : Nat) (L : Led), k ≤ val.length ∧ i = .int .i64 k ∧ Hid (L.abs = stA year (effA la) k) ∧ Hid (LedAt (w.heap.size + 1) w3.heap.size wr L) ∧ Hid (Chg (w.heap.size + 1) w3.heap.size w3 wr)) (fun _ i _ => val.length - (Go.RowKit.intOf i).toNat)
 case atStart => exact ⟨0, ledC, Nat.zero_le _, rfl, Lib.hid (by simp [stA, ledC_abs]), Lib.hid hL3, Lib.hid (Chg.refl _ _ _)⟩
 case round =>
  obtain ⟨k, L, hk, rfl, HLA, HL, HCh⟩ := hrel
  by_cases hlt : k < val.length
  ·obtain ⟨x, hx⟩ : ∃ x, val[k]? = some x := ⟨_, List.getElem?_eq_getElem hlt⟩
   obtain ⟨bb, o, rfl, hb, hnd, hok, hcell⟩ := HS1.out.at hx
   have HC : Hid (∀ j, j < (encNote x).size → wr.cell? ⟨bb, o + k * 29 + j, none⟩ = (encNote x)[j]?) := Lib.hid fun j hj => by
    rw [HCh.out.ext.cell hb hnd]; exact hcell j hj
   have hi1 : (k : Int) < (val.length : Int) := by omega
   have hxa : (effA la)[k]? = some x.abs := by rw [← HE1.out]; simp [hx]
   have HXA := Lib.hid hxa
   have hbel : Below wr.heap.size wr (wr.alloc (.cells (encNote x) 43)) := (Below.refl _ _).alloc (Nat.le_refl _) _
   have HL1 := Lib.hid (HL.out.below hbel)
   have HOK : Hid (okNote (LD (w.heap.size + 1) w3.heap.size) (wr.alloc (.cells (encNote x) 43)) x) := Lib.hid (okNote.ext (okNote.ext hok HCh.out.ext) (.of_below hbel))
   have HCC : Hid (L.conflicts.length ≤ 1000000) := Lib.hid (by have h1 := stA_conflicts year (effA la) k; rw [← HLA.out] at h1; have h2 : L.abs.conflicts = L.conflicts := rfl; rw [h2] at h1; omega)
   have HCa : Hid (Chg (w.heap.size + 1) w3.heap.size w3 (wr.alloc (.cells (encNote x) 43))) := Lib.hid (HCh.out.trans (.of_below hbel))
   clear hok hcell hb hnd hx hxa
   by_cases hyr : x.year ≤ year
   ·go_wp2_with (first
     | (with_reducible refine at_dst 21 ?_; refine wpList_load_at rfl 43 _ rfl bb (o + k * 29) rfl (encNote x) _ HC.out Tryz.underlying43 rfl (by kernel_rfl) ?_)
     | (with_reducible refine at_store ?_; refine wpList_store_last (cs := encNote x) rfl 43 _ _ rfl rfl rfl rfl (by kernel_rfl) rfl (encNote_one _) ?_)
     | (with_reducible refine at_dst 27 ?_; refine wpList_loadB (BoxAt.new _ _ _) rfl 43 _ rfl rfl (encNote x) (whole_cells _) Tryz.underlying43 rfl (by kernel_rfl) ?_)
     | (go_at_call 113; refine (HE.out (w.heap.size + 1) w3.heap.size L x _ (by rw [HLA.out]; exact HP.out k x.abs HXA.out hyr) HL1.out HOK.out HCC.out).mono ?_; rintro e w4 ⟨rfl, L', hLa, hL4, hC4⟩))
    go_roundw
    case rel => exact ⟨k + 1, L', by omega, by go_num, Lib.hid (by rw [hLa, HLA.out, stA_succ HXA.out]; unfold stepY; rw [if_pos (show x.abs.year ≤ year from hyr)]), Lib.hid hL4, Lib.hid (HCa.out.trans hC4)⟩
    case measure => simp [Go.RowKit.intOf]; omega
   ·go_wp2_with (first
     | (with_reducible refine at_dst 21 ?_; refine wpList_load_at rfl 43 _ rfl bb (o + k * 29) rfl (encNote x) _ HC.out Tryz.underlying43 rfl (by kernel_rfl) ?_)
     | (with_reducible refine at_store ?_; refine wpList_store_last (cs := encNote x) rfl 43 _ _ rfl rfl rfl rfl (by kernel_rfl) rfl (encNote_one _) ?_))
    go_roundw
    case rel => exact ⟨k + 1, L, by omega, by go_num, Lib.hid (by rw [HLA.out, stA_succ HXA.out]; unfold stepY; rw [if_neg (show ¬ x.abs.year ≤ year from hyr)]), Lib.hid HL1.out, Lib.hid HCa.out⟩
    case measure => simp [Go.RowKit.intOf]; omega
  ·have hk' : k = (effA la).length := by have h1 := congrArg List.length HE1.out; simp at h1; omega
   have hLA : L.abs = ledOf la year := by rw [HLA.out, hk', stA_all]
   have HLE : Hid (Small { L.abs with conflicts := L.abs.conflicts ++ s2.val }) := Lib.hid (by rw [hLA, HE2.out]; exact HSM.out)
   have HLA2 : Hid (toldA { L.abs with conflicts := L.abs.conflicts ++ s2.val } = foldedA la year) := Lib.hid (by rw [hLA, HE2.out]; rfl)
   obtain ⟨vr, vc, hb6, hor, hoc, hne⟩ := HL.out.box
   have HLW := Lib.hid HL.out
   have hbcr := hbc3.of_block (HCh.out.block _ (by omega) (fun hd => by unfold LD at hd; omega))
   have HO2 : Hid (Sl.OK 2 encRef okRef (LD (w.heap.size + 1) w3.heap.size) wr s2) := Lib.hid (Sl.OK.ext (w := w3) (w' := wr) (fun _ h => h) HS2.out HCh.out.ext)
   have hcc : wr.cell? ⟨w.heap.size + 1 + 6, 5, none⟩ = some vc := (hb6.cell 5).trans rfl
   have HSC : L.conflicts.length + s2.val.length ≤ 1000000 := by have h1 := HLE.out.conflicts; simp at h1; exact h1
   have HCf := HCh
   have HB3 := Lib.hid hB3
   have hszr : w3.heap.size ≤ wr.heap.size := HCh.out.size
   clear hLA HLA HL HCh hbc3 hB3 hL3
   go_wp2_with (first
    | ((with_reducible refine at_dst 36 ?_); refine wpList_append_slAt rfl _ _ 98 rfl w3.heap.size einfo_Ref (fun _ => rfl) (by decide) encRef_one (by decide) vc L.conflicts rfl hoc s2 rfl HO2.out (by omega) hszr ?_; intro v4 w4 ho4 hg4 hat4; obtain ⟨a4, n4, c4, rfl⟩ := ho4.slice; have hb64 : BoxAt w4 (w.heap.size + 1 + 6) 190 #[.map (some (w.heap.size + 1)), .map (some (w.heap.size + 1 + 1)), .map (some (w.heap.size + 1 + 2)), .map (some (w.heap.size + 1 + 3)), vr, vc, .map (some (w.heap.size + 1 + 4)), .map (some (w.heap.size + 1 + 5))] := hb6.of_block (hg4.block _ hb6.lt (fun e => by have := (hoc.block _ e.symm).1; omega)))
    | ((with_reducible refine at_storeT 98 ?_); refine wpList_store_box hb64 rfl _ _ _ rfl rfl (.slice a4 n4 c4) rfl (by kernel_rfl) rfl (one_sl _ _ _) ?_; intro w5 hb5 hT5
       obtain ⟨hL5, hC5⟩ := HLW.out.conf hb6 hor hoc hne ho4 hg4 hat4 (fun q hq => by rcases List.mem_append.1 hq with hq | hq; exact HLW.out.okC q hq; exact HO2.out.elem q hq) (hb5.eqv (cs' := #[.map (some (w.heap.size + 1)), .map (some (w.heap.size + 1 + 1)), .map (some (w.heap.size + 1 + 2)), .map (some (w.heap.size + 1 + 3)), vr, .slice a4 n4 c4, .map (some (w.heap.size + 1 + 4)), .map (some (w.heap.size + 1 + 5))]) (by simp [splice, Value.cells])) hT5
       have HT := Lib.hid (told_any (w.heap.size + 1) w3.heap.size _ w5 hL5 (by have := HLE.out.pieces; simpa [Led.abs, mapV] using this) (by have := HLE.out.glass; simpa [Led.abs] using this) (by have := HLE.out.items; simpa [Led.abs, mapV] using this) (by have := HLE.out.releads; simpa [Led.abs] using this) (by have := HLE.out.conflicts; simpa [Led.abs] using this))
       have hbc5 := hbcr.of_block (hC5.block _ hbcr.lt (fun hd => by unfold LD at hd; omega)))
    | (go_at_call 114; refine HT.out.mono ?_; rintro e w6 ⟨R, rfl, hRa, hRo, hb6⟩; have hbc6 := hbc5.belowAll hb6)
    | ((with_reducible refine at_storeT 100 ?_); refine wpList_store_box hbc6 rfl _ _ _ rfl rfl (.agg (encRegister R)) rfl (by kernel_rfl) rfl (one_agg (encRegister_one _)) ?_; intro w7 hb7 hT7))
   have hs5 : w3.heap.size ≤ w5.heap.size := Nat.le_trans hszr hC5.size
   have hx7 : Ext (Old w5.heap.size) w6 w7 := ⟨Nat.le_of_eq hT7.size.symm, fun q hq hd => hT7.block q (fun e => hd (by subst e; show _ < _; omega))⟩
   have hCt := (HCf.out.trans hC5)
   have hB7 : Below w.heap.size w w7 := ((HB3.out.trans (hCt.below (by omega) (by omega) (by omega))).trans (hb6.mono (by omega))).trans (hT7.below (Nat.le_refl _))
   refine bodyPost_ret (results_cell_box (cs := encRegister R) (hb7.eqv (by simp [splice, encRegister, Value.cells])) rfl rfl Tryz.underlying100 rfl (by kernel_rfl)) rfl ⟨R, rfl, ?_, (hRo.ext hx7).mono (fun q hq => by have : q < w.heap.size := hq; show q < _; omega), hB7⟩
   rw [hRa, ← HLA2.out]; rfl
theorem fold_any {P : NoteA → LedA → Prop} (hE : Enters P) (D : Nat → Prop) (s : Sl Note) (w : World) (hs : s.OK 29 encNote okNote D w) (hset : isSetB s.val = true) (hlen : s.val.length ≤ 500) (hnd : (s.val.map refN).Nodup)
  (hP : ∀ k x, (effA (s.val.map Note.abs))[k]? = some x → x.year ≤ 9999 → P x (stA 9999 (effA (s.val.map Note.abs)) k)) (hS : Small (ledEnd (s.val.map Note.abs) 9999)) (hel : (effA (s.val.map Note.abs)).length ≤ 500) (hdl : (dangA (s.val.map Note.abs)).length ≤ 500) :
  Calls Tryz.prog 37 #[.slice s.a s.val.length s.cap] w fun e w' => ∃ R : Register, e = .returned (.tuple #[.agg (encRegister R), .int .i64 0]) ∧ R.abs = foldedA (s.val.map Note.abs) 9999 ∧ okRegister (Old w.heap.size) w' R ∧ Below w.heap.size w w' := by
 have hB1 : Below w.heap.size w (w.alloc (.cells #[.slice none 0 0, .slice none 0 0, .slice none 0 0, .slice none 0 0, .slice none 0 0, .slice none 0 0] 100)) := (Below.refl _ _).alloc (Nat.le_refl _) _
 have hbc : BoxAt (w.alloc (.cells #[.slice none 0 0, .slice none 0 0, .slice none 0 0, .slice none 0 0, .slice none 0 0, .slice none 0 0] 100)) w.heap.size 100 #[.slice none 0 0, .slice none 0 0, .slice none 0 0, .slice none 0 0, .slice none 0 0, .slice none 0 0] := BoxAt.new _ _ _
 have HIS := Lib.hid (isSet_any D s (w.alloc (.cells #[.slice none 0 0, .slice none 0 0, .slice none 0 0, .slice none 0 0, .slice none 0 0, .slice none 0 0] 100)) (hs.ext (fun _ hk => okNote.ext hk (.of_below hB1)) (.of_below hB1)))
 have HF : Hid (∀ W, Below w.heap.size w W → _) := Lib.hid fun W hW => folded_any hE D s 9999 W (hs.ext (fun _ hk => okNote.ext hk (.of_below hW)) (.of_below hW)) hlen hnd (by unfold I64; decide) hP hS hel hdl
 have HSET := Lib.hid hset
 clear hs hnd hE hP hS hset hel hdl hlen
 go_enter Tryz.func37, Tryz.ntmps37
 go_wp2_with (first
  | (go_at_call 85; refine HIS.out.mono ?_; rintro e w2 ⟨rfl, hb2⟩; rw [HSET.out]; have hB2 : Below w.heap.size w w2 := Below.call hB1 hb2 (Nat.le_refl _); have hbc2 := hbc.belowAll hb2)
  | (go_at_call 61; refine (HF.out _ hB2).mono ?_; rintro e w3 ⟨R, rfl, hRa, hRo, hb3⟩; have hbc3 := hbc2.belowAll hb3)
  | ((with_reducible refine at_storeT 100 ?_); refine wpList_store_box hbc3 rfl _ _ _ rfl rfl (.agg (encRegister R)) rfl (by kernel_rfl) rfl (one_agg (encRegister_one _)) ?_; intro w4 hb4 hT4))
 have hlt : w.heap.size < w2.heap.size := hbc2.lt
 have hx : Ext (Old w2.heap.size) w3 w4 := ⟨Nat.le_of_eq hT4.size.symm, fun q hq hd => hT4.block q (fun e => hd (by subst e; exact hlt))⟩
 refine bodyPost_ret (results_cell_tmp (cs := encRegister R) (.int .i64 0) (hb4.eqv (by simp [splice, encRegister, Value.cells])) rfl rfl rfl Tryz.underlying100 rfl (by kernel_rfl)) rfl ⟨R, rfl, hRa, (hRo.ext hx).mono (fun q hq => by have : q < w.heap.size := hq; show q < _; omega), (hB2.trans (hb3.mono hB2.size)).trans (hT4.below (Nat.le_refl _))⟩
end Go.Proofs.YtnmgfnpphglphaaGreat
