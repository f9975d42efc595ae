/-
  Journals in plain Lean: frames, scans, and what one bit that is inverted does; no program in sight.
-/
import Derived.Test.YtendmmhfjhgdaaaGreatBase
set_option linter.unusedVariables false
set_option linter.unusedSimpArgs false
namespace Go.Proofs.YtendmmhfjhgdaaaGreat

def ckFrom : Nat → Nat → List UInt8 → Nat
  | _, s, [] => s
  | i, s, x :: l => ckFrom (i + 1) ((s + (i + 1) * x.toNat) % 65521) l
def checkA (l : List UInt8) : Nat := ckFrom 0 1 l
def shortA (n : Nat) : List UInt8 := [UInt8.ofNat n, UInt8.ofNat (n / 256)]
def longA : List UInt8 → Nat
  | x :: y :: _ => x.toNat + 256 * y.toNat
  | _ => 0
def framedA (b : List UInt8) : List UInt8 := shortA b.length ++ shortA (checkA (shortA b.length)) ++ b ++ shortA (checkA b)
/-- the record with which bytes begin -/
def oneA (r : List UInt8) : Option (List UInt8) :=
  if r.length < 6 then none
  else if 8192 < longA r then none
  else if r.length < longA r + 6 then none
  else if ¬ longA (r.drop 2) = checkA (r.take 2) then none
  else if ¬ longA (r.drop (4 + longA r)) = checkA ((r.drop 4).take (longA r)) then none
  else some ((r.drop 4).take (longA r))
def scanA : Nat → List UInt8 → List (List UInt8) × Nat
  | 0, _ => ([], 0)
  | k + 1, b => match oneA b with
    | none => ([], 0)
    | some x => (x :: (scanA k (b.drop (x.length + 6))).1, x.length + 6 + (scanA k (b.drop (x.length + 6))).2)

def wsum : Nat → List UInt8 → Nat
  | _, [] => 0
  | i, x :: l => (i + 1) * x.toNat + wsum (i + 1) l
theorem ckFrom_eq : ∀ (l : List UInt8) (i s : Nat), s < 65521 → ckFrom i s l = (s + wsum i l) % 65521
  | [], i, s, h => by simp [ckFrom, wsum, Nat.mod_eq_of_lt h]
  | x :: l, i, s, h => by
    rw [ckFrom, ckFrom_eq l (i + 1) _ (Nat.mod_lt _ (by decide)), wsum]
    omega
theorem check_eq (l : List UInt8) : checkA l = (1 + wsum 0 l) % 65521 := ckFrom_eq l 0 1 (by decide)
theorem check_lt (l : List UInt8) : checkA l < 65521 := by rw [check_eq]; exact Nat.mod_lt _ (by decide)
theorem long_short (n : Nat) (h : n < 65536) (l : List UInt8) : longA (shortA n ++ l) = n := by
  simp only [shortA, List.cons_append, List.nil_append, longA, UInt8.toNat_ofNat']
  omega
theorem short_length (n : Nat) : (shortA n).length = 2 := rfl
theorem framed_length (b : List UInt8) : (framedA b).length = b.length + 6 := by simp [framedA, short_length]; omega
theorem long_take {l : List UInt8} {n : Nat} (h : 2 ≤ n) : longA (l.take n) = longA l := by
  match l, n, h with
  | [], _, _ => simp [longA]
  | [x], n + 2, _ => simp [longA]
  | x :: y :: l, n + 2, _ => simp [longA]
theorem one_framed (x r : List UInt8) (hx : x.length ≤ 8192) : oneA (framedA x ++ r) = some x := by
  have hl : (framedA x ++ r).length = x.length + 6 + r.length := by rw [List.length_append, framed_length]
  have h1 : longA (framedA x ++ r) = x.length := by simp only [framedA, List.append_assoc]; exact long_short _ (by omega) _
  have h2 : (framedA x ++ r).drop 2 = shortA (checkA (shortA x.length)) ++ (x ++ shortA (checkA x) ++ r) := by simp only [framedA, List.append_assoc]; rfl
  have h3 : (framedA x ++ r).take 2 = shortA x.length := by simp only [framedA, List.append_assoc]; rfl
  have h4 : (framedA x ++ r).drop 4 = x ++ (shortA (checkA x) ++ r) := by simp only [framedA, List.append_assoc]; rfl
  have h5 : (framedA x ++ r).drop (4 + x.length) = shortA (checkA x) ++ r := by rw [← List.drop_drop, h4, List.drop_left]
  have h6 := check_lt x
  have h7 := check_lt (shortA x.length)
  unfold oneA
  rw [hl, h1, h2, h3, h5, h4, long_short _ (by omega), long_short _ (by omega), List.take_left, if_neg (by omega), if_neg (by omega), if_neg (by omega), if_neg (by simp), if_neg (by simp)]

/-! one bit -/
def flipB (j : Nat) (x : UInt8) : UInt8 := x ^^^ (1 <<< UInt8.ofNat j)
theorem flip_nat (j : Nat) (hj : j < 8) (x : UInt8) : (flipB j x).toNat + 2 ^ j = x.toNat ∨ (flipB j x).toNat = x.toNat + 2 ^ j := by
  have h : ∀ (i : Fin 8) (y : Fin 256), ((UInt8.ofNat y.val) ^^^ (1 <<< UInt8.ofNat i.val)).toNat + 2 ^ i.val = y.val ∨ ((UInt8.ofNat y.val) ^^^ (1 <<< UInt8.ofNat i.val)).toNat = y.val + 2 ^ i.val := by decide +kernel
  have h1 := h ⟨j, hj⟩ ⟨x.toNat, x.toNat_lt⟩
  simpa [flipB] using h1
theorem pow_le (j : Nat) (hj : j < 8) : 1 ≤ 2 ^ j ∧ 2 ^ j ≤ 128 := by
  have h : ∀ i : Fin 8, 1 ≤ 2 ^ i.val ∧ 2 ^ i.val ≤ 128 := by decide
  exact h ⟨j, hj⟩
theorem flip_ne (j : Nat) (hj : j < 8) (x : UInt8) : (flipB j x).toNat ≠ x.toNat := by
  have := flip_nat j hj x; have := pow_le j hj; omega
theorem wsum_flip (j : Nat) (hj : j < 8) : ∀ (l : List UInt8) (i p : Nat), p < l.length → wsum i (l.modify p (flipB j)) + (i + p + 1) * 2 ^ j = wsum i l ∨ wsum i (l.modify p (flipB j)) = wsum i l + (i + p + 1) * 2 ^ j
  | [], _, _, h => by simp at h
  | x :: l, i, 0, _ => by
    simp only [List.modify_zero_cons, wsum, Nat.add_zero]
    rcases flip_nat j hj x with h | h
    · left; rw [← h, Nat.mul_add]; omega
    · right; rw [h, Nat.mul_add]; omega
  | x :: l, i, p + 1, h => by
    simp only [List.modify_succ_cons, wsum]
    have h2 : i + (p + 1) + 1 = i + 1 + p + 1 := by omega
    rw [h2]
    rcases wsum_flip j hj l (i + 1) p (by simpa using h) with h1 | h1
    · left; omega
    · right; omega
theorem check_flip (j : Nat) (hj : j < 8) (l : List UInt8) (p : Nat) (hp : p < l.length) (hl : l.length ≤ 500) : checkA (l.modify p (flipB j)) ≠ checkA l := by
  rw [check_eq, check_eq]
  have h1 := wsum_flip j hj l 0 p hp
  have h2 := pow_le j hj
  have h3 : 1 ≤ (0 + p + 1) * 2 ^ j := Nat.mul_pos (by omega) (by omega)
  have h4 : (0 + p + 1) * 2 ^ j ≤ 500 * 128 := Nat.mul_le_mul (by omega) h2.2
  generalize (0 + p + 1) * 2 ^ j = t at h1 h3 h4
  omega
theorem one_none_head {r : List UInt8} (h : ¬ longA (r.drop 2) = checkA (r.take 2)) : oneA r = none := by
  unfold oneA
  repeat' split
  all_goals first | rfl | contradiction
theorem one_none_tail {r : List UInt8} {n : Nat} (hn : longA r = n) (h : ¬ longA (r.drop (4 + n)) = checkA ((r.drop 4).take n)) : oneA r = none := by
  subst hn
  unfold oneA
  repeat' split
  all_goals first | rfl | contradiction
theorem modify_append_left {l r : List UInt8} {p : Nat} (f : UInt8 → UInt8) (h : p < l.length) : (l ++ r).modify p f = l.modify p f ++ r := by
  refine List.ext_getElem? fun i => ?_
  rw [List.getElem?_modify]
  rcases Nat.lt_or_ge i l.length with h1 | h1
  · rw [List.getElem?_append_left h1, List.getElem?_append_left (by simpa using h1), List.getElem?_modify]
  · rw [List.getElem?_append_right h1, List.getElem?_append_right (by simpa using h1), List.length_modify]
    have h2 : ¬ p = i := by omega
    simp [h2]
theorem modify_append_right {l r : List UInt8} {p : Nat} (f : UInt8 → UInt8) : (l ++ r).modify (l.length + p) f = l ++ r.modify p f := by
  refine List.ext_getElem? fun i => ?_
  rw [List.getElem?_modify]
  rcases Nat.lt_or_ge i l.length with h1 | h1
  · rw [List.getElem?_append_left h1, List.getElem?_append_left h1]
    have h2 : ¬ l.length + p = i := by omega
    simp [h2]
  · rw [List.getElem?_append_right h1, List.getElem?_append_right h1, List.getElem?_modify]
    by_cases h2 : p = i - l.length
    · have h3 : l.length + p = i := by omega
      simp only [if_pos h2, if_pos h3]
    · have h3 : ¬ l.length + p = i := by omega
      simp [h2, h3]
theorem long_flip (j : Nat) (hj : j < 8) (n : Nat) (hn : n < 65536) (p : Nat) (hp : p < 2) (l : List UInt8) : longA ((shortA n).modify p (flipB j) ++ l) ≠ n := by
  have h0 := long_short n hn l
  have := flip_ne j hj (UInt8.ofNat n)
  have := flip_ne j hj (UInt8.ofNat (n / 256))
  rcases p with _ | _ | p
  · simp only [shortA, List.modify_zero_cons, List.cons_append, longA] at h0 ⊢; omega
  · simp only [shortA, List.modify_succ_cons, List.modify_zero_cons, List.cons_append, longA, Nat.zero_add] at h0 ⊢; omega
  · omega
theorem one_flip (j : Nat) (hj : j < 8) (x r : List UInt8) (hx : x.length ≤ 300) (p : Nat) (hp : p < (framedA x).length) : oneA ((framedA x).modify p (flipB j) ++ r) = none := by
  rw [framed_length] at hp
  have c1 := check_lt (shortA x.length)
  have c2 := check_lt x
  rcases Nat.lt_or_ge p 2 with h1 | h1
  · -- the length
    have e : (framedA x).modify p (flipB j) ++ r = (shortA x.length).modify p (flipB j) ++ (shortA (checkA (shortA x.length)) ++ (x ++ shortA (checkA x) ++ r)) := by
      simp only [framedA, List.append_assoc]
      rw [modify_append_left _ (by rw [short_length]; exact h1)]
      simp only [List.append_assoc]
    refine one_none_head ?_
    have hl : ((shortA x.length).modify p (flipB j)).length = 2 := by simp [short_length]
    rw [e, List.drop_left' hl, List.take_left' hl, long_short _ (by omega)]
    exact (check_flip j hj _ p (by rw [short_length]; exact h1) (by rw [short_length]; omega)).symm
  rcases Nat.lt_or_ge p 4 with h2 | h2
  · -- the length's check
    obtain ⟨q, rfl⟩ : ∃ q, p = 2 + q := ⟨p - 2, by omega⟩
    have e : (framedA x).modify (2 + q) (flipB j) ++ r = shortA x.length ++ ((shortA (checkA (shortA x.length))).modify q (flipB j) ++ (x ++ shortA (checkA x) ++ r)) := by
      simp only [framedA, List.append_assoc]
      have := modify_append_right (l := shortA x.length) (r := shortA (checkA (shortA x.length)) ++ (x ++ shortA (checkA x))) (p := q) (flipB j)
      rw [short_length] at this
      rw [this, modify_append_left _ (by rw [short_length]; omega)]
      simp only [List.append_assoc]
    refine one_none_head ?_
    rw [e, List.drop_left' (short_length _), List.take_left' (short_length _)]
    exact long_flip j hj _ (by omega) q (by omega) _
  obtain ⟨q, rfl⟩ : ∃ q, p = 4 + q := ⟨p - 4, by omega⟩
  have hh : (shortA x.length ++ shortA (checkA (shortA x.length))).length = 4 := rfl
  have e : (framedA x).modify (4 + q) (flipB j) ++ r = (shortA x.length ++ shortA (checkA (shortA x.length))) ++ ((x ++ shortA (checkA x)).modify q (flipB j) ++ r) := by
    have := modify_append_right (l := shortA x.length ++ shortA (checkA (shortA x.length))) (r := x ++ shortA (checkA x)) (p := q) (flipB j)
    rw [hh] at this
    rw [framedA, List.append_assoc (shortA x.length ++ shortA (checkA (shortA x.length))), this]
    simp only [List.append_assoc]
  have hn : longA ((framedA x).modify (4 + q) (flipB j) ++ r) = x.length := by rw [e]; simp only [List.append_assoc]; exact long_short _ (by omega) _
  refine one_none_tail hn ?_
  rw [e, ← List.drop_drop, List.drop_left' hh]
  rcases Nat.lt_or_ge q x.length with h3 | h3
  · rw [modify_append_left _ h3, List.append_assoc, List.drop_left' (by simp), List.take_left' (by simp), long_short _ (by omega)]
    exact (check_flip j hj x q h3 (by omega)).symm
  · obtain ⟨s, rfl⟩ : ∃ s, q = x.length + s := ⟨q - x.length, by omega⟩
    rw [modify_append_right, List.append_assoc, List.drop_left, List.take_left]
    exact long_flip j hj _ (by omega) s (by omega) _

/-! scans -/
def journalA (l : List (List UInt8)) : List UInt8 := (l.map framedA).flatten
theorem journal_cons (x : List UInt8) (l : List (List UInt8)) : journalA (x :: l) = framedA x ++ journalA l := rfl
theorem journal_append (l m : List (List UInt8)) : journalA (l ++ m) = journalA l ++ journalA m := by simp [journalA]
theorem scan_whole : ∀ (l : List (List UInt8)) (r : List UInt8) (k : Nat), (∀ x ∈ l, x.length ≤ 8192) → l.length < k → oneA r = none → scanA k (journalA l ++ r) = (l, (journalA l).length)
  | [], r, k + 1, _, _, h => by simp [journalA, scanA, h]
  | x :: l, r, k + 1, hx, hk, h => by
    have ih := scan_whole l r k (fun y hy => hx y (by simp [hy])) (by simpa using hk) h
    have h1 : ((framedA x) ++ (journalA l ++ r)).drop (x.length + 6) = journalA l ++ r := List.drop_left' (framed_length x)
    rw [journal_cons, List.append_assoc, scanA, one_framed x _ (hx x (by simp))]
    simp only [h1, ih, List.length_append, framed_length]
theorem one_nil : oneA [] = none := rfl
theorem scan_all (l : List (List UInt8)) (k : Nat) (h : ∀ x ∈ l, x.length ≤ 8192) (hk : l.length < k) : scanA k (journalA l) = (l, (journalA l).length) := by
  have := scan_whole l [] k h hk one_nil; simpa using this
/-- Behind one bit that is inverted nothing is read. -/
theorem scan_torn (j : Nat) (hj : j < 8) (l1 l2 : List (List UInt8)) (x : List UInt8) (h : ∀ y ∈ l1 ++ x :: l2, y.length ≤ 300) (p k : Nat) (h1 : (journalA l1).length ≤ p) (h2 : p < (journalA (l1 ++ [x])).length) (hk : l1.length < k) :
    (scanA k ((journalA (l1 ++ x :: l2)).modify p (flipB j))).1 = l1 := by
  obtain ⟨q, rfl⟩ : ∃ q, p = (journalA l1).length + q := ⟨p - (journalA l1).length, by omega⟩
  rw [journal_append, List.length_append, show journalA [x] = framedA x from by simp [journalA]] at h2
  rw [journal_append, modify_append_right, journal_cons, modify_append_left _ (by omega)]
  rw [scan_whole l1 _ k (fun y hy => Nat.le_trans (h y (by simp [hy])) (by decide)) hk (one_flip j hj x _ (h x (by simp)) q (by omega))]
end Go.Proofs.YtendmmhfjhgdaaaGreat
