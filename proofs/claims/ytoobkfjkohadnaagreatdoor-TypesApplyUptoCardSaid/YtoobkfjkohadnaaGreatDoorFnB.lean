/- The document's reading of a token is the program's. Plain lists. -/
import Derived.Test.YtoobkfjkohadnaaGreatDoorFnA
import Derived.Lib.LastIndexByte
import Derived.Lib.Bytealg
set_option linter.unusedVariables false
set_option linter.unusedSimpArgs false
set_option maxRecDepth 100000
namespace Go.D
open Go

def letter (a : UInt8) : Bool := btw 97 a.toNat 122 || btw 65 a.toNat 90
def signsN (l : List UInt8) : Nat :=
  if l.take 2 = [58, 58] ∨ l.take 2 = [61, 62] ∨ l.take 2 = [45, 62] ∨ l.take 2 = [58, 62] then 2
  else if l.getD 0 0 ∈ ([40, 41, 91, 93, 44, 59, 58, 61, 124, 95, 43, 45, 42, 47, 37, 60, 94] : List UInt8) then 1 else 0
theorem sign_len (l : List UInt8) : (sign l = [] ↔ signsN l = 0) ∧ sign l = l.take (signsN l) ∧ (sign l).length = signsN l := by
  rw [sign_eq]
  unfold signsN
  split
  · rename_i h
    have : 2 ≤ l.length := by
      rcases l with _ | ⟨a, _ | ⟨b, r⟩⟩ <;> simp at h ⊢
    refine ⟨⟨fun e => ?_, fun e => by omega⟩, rfl, by simp; omega⟩
    rw [e] at h; simp at h
  · split
    · rename_i h
      rcases l with _ | ⟨a, r⟩
      · simp at h
      · simp
    · simp

theorem long_letter (f : Bool) (l : List UInt8) (h : letter (l.getD 0 0) = false) : long f l = (0, []) := by
  simp only [letter, Bool.or_eq_false_iff] at h
  rw [long]
  split
  · rfl
  · rw [if_neg (by rw [h.1]; simp), if_neg (by rw [h.2]; simp)]

theorem btw_iff (a b c : Int) : btw a b c = true ↔ a ≤ b ∧ b ≤ c := by simp [btw]
theorem letter_num (a : UInt8) (h : letter a = true) : (97 ≤ a.toNat ∧ a.toNat ≤ 122) ∨ (65 ≤ a.toNat ∧ a.toNat ≤ 90) := by
  simp only [letter, Bool.or_eq_true, btw_iff] at h
  omega

theorem digits_head (l : List UInt8) (h : 0 < digits l) : l.getD 0 0 = 45 ∨ (48 ≤ (l.getD 0 0).toNat ∧ (l.getD 0 0).toNat ≤ 57) := by
  unfold digits at h
  split at h
  · omega
  split at h
  · rename_i h1 h2
    unfold isDig at h2
    rw [btw_iff] at h2
    unfold negN at h2
    cases hb : negB l
    · rw [hb] at h2; simp only [Bool.false_eq_true, if_false] at h2; right; omega
    · left
      simp only [negB, Bool.and_eq_true, decide_eq_true_eq] at hb
      have := hb.2.1
      have h5 : (l.getD 0 0).toNat = 45 := by omega
      exact UInt8.toNat_inj.1 h5
  · omega

def oneR (l : List UInt8) : Option (List UInt8 × List UInt8 × Nat) :=
  if letter (l.getD 0 0) = true then (if (long true l).2 = [] then none else some ((long true l).2, l.take (long true l).1, (long true l).1))
  else if l.getD 0 0 = 34 then (match qS (l.drop 1) with
    | some x => if x.2.length ≤ 200 then some (kText, x.2, x.1 + 1) else none
    | none => none)
  else if l.getD 0 0 = 39 then (if 1 < l.length ∧ btw 97 (l.getD 1 0).toNat 122 = true then some (kVar, l.take 2, 2) else none)
  else if 0 < digits l then (if fits (l.take (digits l)) then some (kInt, l.take (digits l), digits l) else none)
  else if signsN l = 0 then none else some (kSign, l.take (signsN l), signsN l)

theorem signs_num (a : UInt8) (h : a ∈ ([40, 41, 91, 93, 44, 59, 58, 61, 124, 95, 43, 45, 42, 47, 37, 60, 94] : List UInt8)) :
    letter a = false ∧ a ≠ 39 := by
  revert a; decide
theorem signs_none (l : List UInt8) (h : l.getD 0 0 = 39 ∨ letter (l.getD 0 0) = true) : signsN l = 0 := by
  unfold signsN
  have h0 : l.getD 0 0 ∉ ([40, 41, 91, 93, 44, 59, 58, 61, 124, 95, 43, 45, 42, 47, 37, 60, 94] : List UInt8) := fun hm => by
    obtain ⟨h1, h2⟩ := signs_num _ hm
    rcases h with h | h
    · exact h2 h
    · rw [h1] at h; cases h
  rw [if_neg, if_neg h0]
  intro hh
  apply h0
  rcases l with _ | ⟨a, _ | ⟨b, r⟩⟩
  · simp at hh
  · simp at hh
  · simp only [List.take_succ_cons, List.take_zero, List.cons.injEq, and_true, List.getD_cons_zero] at hh ⊢
    rcases hh with hh | hh | hh | hh <;> rw [hh.1] <;> decide

theorem one_eq (l : List UInt8) : one l = oneR l := by
  obtain ⟨s1, s2, s3⟩ := sign_len l
  unfold one oneR
  cases hl : letter (l.getD 0 0)
  · have : (long true l).2 = [] := by rw [long_letter true l hl]
    rw [if_neg (by simp [this])]
    simp only [Bool.false_eq_true, if_false]
    by_cases hd : 0 < digits l
    · have hh := digits_head l hd
      have h1 : ¬ l.getD 0 0 = 34 := fun e => by rw [e] at hh; revert hh; decide
      have h2 : ¬ l.getD 0 0 = 39 := fun e => by rw [e] at hh; revert hh; decide
      rw [if_pos hd, if_neg h1, if_neg h2, if_pos hd]
    · rw [if_neg hd, if_neg hd]
      by_cases h1 : l.getD 0 0 = 34
      · rw [if_pos h1, if_pos h1]; try (cases qS (l.drop 1) <;> rfl)
      · rw [if_neg h1, if_neg h1]
        by_cases h2 : l.getD 0 0 = 39
        · rw [if_pos h2]
          have : sign l = [] := s1.2 (signs_none l (.inl h2))
          simp only [h2, true_and, this, if_true]
        · rw [if_neg h2, if_neg (fun e => h2 e.2.1), s3, s2]
          by_cases h3 : signsN l = 0
          · rw [if_pos h3, if_pos (by rw [h3]; rfl)]
          · rw [if_neg h3, if_neg (by rw [← s2]; intro e; exact h3 (s1.1 e))]
  · simp only [if_true]
    by_cases h0 : (long true l).2 = []
    · rw [if_neg (by simp [h0]), if_pos h0]
      have hn := letter_num _ hl
      have hd : ¬ 0 < digits l := fun hd => by
        have := digits_head l hd
        rcases this with h | h
        · rw [h] at hn; revert hn; decide
        · omega
      have h1 : ¬ l.getD 0 0 = 34 := fun e => by rw [e] at hn; revert hn; decide
      have h2 : ¬ l.getD 0 0 = 39 := fun e => by rw [e] at hn; revert hn; decide
      rw [if_neg hd, if_neg h1, if_neg (by simp only [h2, false_and, and_false, not_false_eq_true]), if_pos (s1.2 (signs_none l (.inr hl)))]
    · rw [if_pos h0, if_neg h0]

/-- What stands behind a first part of a long name. -/
def tail (l : List UInt8) (n : Nat) : Nat × List UInt8 :=
  if n = l.length ∨ ¬ (l.getD n 0).toNat = 46 then (n, kCon)
  else if (long false (l.drop (n + 1))).2 = [] then (0, []) else (n + 1 + (long false (l.drop (n + 1))).1, (long false (l.drop (n + 1))).2)

theorem long_small (f : Bool) (l : List UInt8) (h : btw 97 (l.getD 0 0).toNat 122 = true) : long f l = if f = true ∧ l.take (word l) ∈ keys then (word l, kKey) else (word l, kName) := by
  rw [long, if_neg, if_pos h]
  intro e
  have : l = [] := by simpa using e
  rw [this] at h; revert h; decide
theorem small_great (a : Int) (h : btw 65 a 90 = true) : btw 97 a 122 = false := by
  rw [btw_iff] at h
  simp [btw]; omega
theorem long_great (f : Bool) (l : List UInt8) (h : btw 65 (l.getD 0 0).toNat 90 = true) : long f l = tail l (word l) := by
  rw [long, if_neg, if_neg (by rw [small_great _ h]; simp), if_pos h]
  · rfl
  intro e
  have : l = [] := by simpa using e
  rw [this] at h; revert h; decide

/-- Behind a dot: nothing, a name, or more. -/
theorem tail_dot (l : List UInt8) (n : Nat) (h : n < l.length) (h1 : (l.getD n 0).toNat = 46) :
    (letter (l.getD (n + 1) 0) = false → tail l n = (0, [])) ∧
    (btw 97 (l.getD (n + 1) 0).toNat 122 = true → tail l n = (n + 1 + word (l.drop (n + 1)), kName)) ∧
    (btw 65 (l.getD (n + 1) 0).toNat 90 = true → tail l n = tail l (n + 1 + word (l.drop (n + 1)))) := by
  have hg : (l.drop (n + 1)).getD 0 0 = l.getD (n + 1) 0 := by simp [List.getD]
  have e : tail l n = if (long false (l.drop (n + 1))).2 = [] then (0, []) else (n + 1 + (long false (l.drop (n + 1))).1, (long false (l.drop (n + 1))).2) := by
    unfold tail; rw [if_neg (by omega)]
  refine ⟨fun h2 => ?_, fun h2 => ?_, fun h2 => ?_⟩
  · rw [e, long_letter false _ (by rw [hg]; exact h2), if_pos rfl]
  · have e2 : long false (l.drop (n + 1)) = (word (l.drop (n + 1)), kName) := by
      rw [long_small false _ (by rw [hg]; exact h2), if_neg (by simp)]
    rw [e, e2, if_neg (by simp [kName])]
  · have hw : word (l.drop (n + 1)) ≤ (l.drop (n + 1)).length := word_le _
    have hgt : n + 1 < l.length := by
      rcases Nat.lt_or_ge (n + 1) l.length with h | h
      · exact h
      · rw [show l.getD (n + 1) 0 = 0 by simp [List.getD, h], btw_iff] at h2; exact absurd h2.1 (by decide)
    rw [List.length_drop] at hw
    rw [e, long_great false _ (by rw [hg]; exact h2)]
    generalize hwd : word (l.drop (n + 1)) = w at *
    have hg2 : (l.drop (n + 1)).getD w 0 = l.getD (n + 1 + w) 0 := by simp [List.getD]
    unfold tail
    rw [hg2, List.length_drop, List.drop_drop]
    have hc : (w = l.length - (n + 1) ∨ ¬ (l.getD (n + 1 + w) 0).toNat = 46) ↔ (n + 1 + w = l.length ∨ ¬ (l.getD (n + 1 + w) 0).toNat = 46) := by omega
    by_cases h3 : n + 1 + w = l.length ∨ ¬ (l.getD (n + 1 + w) 0).toNat = 46
    · rw [if_pos (hc.2 h3), if_pos h3, if_neg (by simp [kCon])]
    · rw [if_neg (fun e => h3 (hc.1 e)), if_neg h3]
      rw [show n + 1 + (w + 1) = n + 1 + w + 1 by omega]
      by_cases h4 : (long false (l.drop (n + 1 + w + 1))).2 = []
      · rw [if_pos h4, if_pos h4]
        simp
      · rw [if_neg h4, if_neg h4, if_neg h4]
        simp only [Prod.mk.injEq, and_true]
        omega
end Go.D

/- Bounds: how long tokens and comments are. Plain lists. -/
set_option linter.unusedVariables false
set_option linter.unusedSimpArgs false
set_option maxRecDepth 100000
namespace Go.D
open Go

theorem word_pos (l : List UInt8) (h : letter (l.getD 0 0) = true) : 0 < word l := by
  rcases l with _ | ⟨a, r⟩
  · revert h; decide
  · have : pB isPart a = true := by
      simp only [List.getD_cons_zero, letter, Bool.or_eq_true] at h
      simp only [pB, isPart, Bool.or_eq_true]
      rcases h with h | h
      · exact .inl (.inl (.inl (.inl h)))
      · exact .inl (.inl (.inl (.inr h)))
    unfold word
    rw [List.takeWhile_cons, if_pos this]
    simp

theorem long_le (n : Nat) : ∀ (f : Bool) (l : List UInt8), l.length ≤ n → (long f l).1 ≤ l.length ∧ (¬ (long f l).2 = [] → 0 < (long f l).1) := by
  induction n with
  | zero => intro f l h; rw [long, if_pos (by omega)]; simp
  | succ n ih =>
    intro f l h
    have hw := word_le l
    cases hl : letter (l.getD 0 0)
    · rw [long_letter f l hl]; simp
    · have hp := word_pos l hl
      have h0 : ¬ l.length = 0 := by omega
      simp only [letter, Bool.or_eq_true] at hl
      rcases hl with hl | hl
      · rw [long_small f l hl]
        split <;> exact ⟨hw, fun _ => hp⟩
      · rw [long_great f l hl]
        unfold tail
        split
        · exact ⟨hw, fun _ => hp⟩
        · rename_i h1
          obtain ⟨i1, i2⟩ := ih false (l.drop (word l + 1)) (by rw [List.length_drop]; omega)
          rw [List.length_drop] at i1
          split
          · simp
          · exact ⟨by simp only; omega, fun _ => by simp only; omega⟩

theorem qS_le (m : Nat) : ∀ (l : List UInt8), l.length ≤ m → ∀ n t, qS l = some (n, t) → 1 ≤ n ∧ n ≤ l.length ∧ t.length ≤ n := by
  induction m with
  | zero => intro l h n t e; have : l = [] := by simpa using h
            subst this; cases e
  | succ m ih =>
    intro l h n t e
    rcases l with _ | ⟨a, _ | ⟨b, r⟩⟩
    · cases e
    · rw [qS] at e
      split at e
      · simp at e; obtain ⟨rfl, rfl⟩ := e; simp
      · cases e
    · rw [qS] at e
      simp only [List.length_cons] at h ⊢
      split at e
      · simp at e; obtain ⟨rfl, rfl⟩ := e; simp
      split at e
      · split at e
        · cases hq : qS r with
          | none => rw [hq] at e; cases e
          | some x => rw [hq] at e; obtain ⟨n', t'⟩ := x; have := ih r (by omega) _ _ hq; simp at e; obtain ⟨rfl, rfl⟩ := e; simp; omega
        · split at e
          · cases hq : qS r with
            | none => rw [hq] at e; cases e
            | some x => rw [hq] at e; obtain ⟨n', t'⟩ := x; have := ih r (by omega) _ _ hq; simp at e; obtain ⟨rfl, rfl⟩ := e; simp; omega
          · cases e
      · split at e
        · cases hq : qS (b :: r) with
          | none => rw [hq] at e; cases e
          | some x => rw [hq] at e; obtain ⟨n', t'⟩ := x; have := ih (b :: r) (by simpa using h) _ _ hq; simp at e this; obtain ⟨rfl, rfl⟩ := e; simp; omega
        · cases e

theorem cs_len (m : Nat) : ∀ (l : List UInt8), l.length ≤ m → ∀ d n, cs d l = some n → 2 ≤ n ∧ n ≤ l.length := by
  induction m with
  | zero => intro l h d n e; have : l = [] := by simpa using h
            subst this; cases e
  | succ m ih =>
    intro l h d n e
    rcases l with _ | ⟨a, _ | ⟨b, r⟩⟩
    · cases e
    · cases e
    · rw [cs] at e
      simp only [List.length_cons] at h ⊢
      split at e
      · cases hq : cs (d + 1) r with
        | none => rw [hq] at e; cases e
        | some x => rw [hq] at e; have := ih r (by omega) _ _ hq; simp at e; omega
      split at e
      · split at e
        · simp at e; omega
        · cases hq : cs (d - 1) r with
          | none => rw [hq] at e; cases e
          | some x => rw [hq] at e; have := ih r (by omega) _ _ hq; simp at e; omega
      · cases hq : cs d (b :: r) with
        | none => rw [hq] at e; cases e
        | some x => rw [hq] at e; have := ih (b :: r) (by simpa using h) _ _ hq; simp at e this; omega

theorem one_le (l : List UInt8) (k t : List UInt8) (n : Nat) (h : one l = some (k, t, n)) : 1 ≤ n ∧ n ≤ l.length ∧ t.length ≤ 1 + l.length := by
  rw [one_eq] at h
  unfold oneR at h
  split at h
  · obtain ⟨h1, h2⟩ := long_le _ true l (Nat.le_refl _)
    split at h
    · cases h
    · rename_i h3
      have := h2 h3
      simp at h; obtain ⟨rfl, rfl, rfl⟩ := h
      refine ⟨this, h1, by simp; omega⟩
  split at h
  · cases hq : qS (l.drop 1) with
    | none => rw [hq] at h; cases h
    | some x =>
      rw [hq] at h
      obtain ⟨n', t'⟩ := x
      have h1 := qS_le _ (l.drop 1) (Nat.le_refl _) _ _ hq
      rw [List.length_drop] at h1
      simp only at h
      split at h
      · simp at h; obtain ⟨rfl, rfl, rfl⟩ := h
        omega
      · cases h
  split at h
  · split at h
    · rename_i h1
      simp at h; obtain ⟨rfl, rfl, rfl⟩ := h
      refine ⟨by omega, by omega, by simp; omega⟩
    · cases h
  split at h
  · have h1 := (digits_take l).2
    split at h
    · simp at h; obtain ⟨rfl, rfl, rfl⟩ := h
      refine ⟨by omega, h1, by simp; omega⟩
    · cases h
  · split at h
    · cases h
    · rename_i h1
      have h2 := (sign_len l).2
      simp at h; obtain ⟨rfl, rfl, rfl⟩ := h
      rw [h2.1] at h2
      have h3 := h2.2
      rw [List.length_take] at h3
      refine ⟨by omega, by omega, by simp; omega⟩
end Go.D

/- The document's small functions of bytes, its words. -/
set_option linter.unusedVariables false
set_option linter.unusedSimpArgs false
set_option maxRecDepth 100000
namespace Go.D
open Go Go.Vm Go.Proofs Go.RowKit

theorem small_ok (a : Int) (σ : List Ent) : ACalls E 161 [u8 a] σ fun r τ => r = boolV (btw 97 a 122) ∧ τ = σ := by
  refine xacalls T0 .drop [] Tryz.func161 rfl (by kernel_rfl) (by kernel_rfl) (by simp [Tryz.ntmps161]) ?_
  unfold btw
  by_cases h : 97 ≤ a <;> (simp only [h, (vmA), Nat.reduceEqDiff, reduceIte, Nat.reduceAdd, Int.reduceToNat, Int.reduceLE, Int.reduceLT, Int.reduceEq, Int.reduceNe, Int.reduceAdd, Int.reduceSub, Int.reduceNeg, Nat.reduceLT, Nat.reduceLeDiff, Nat.reduceBEq, undef, (stA), Nat.reduceMul]; try simp (disch := omega) only [(vmp)])
theorem great_ok (a : Int) (σ : List Ent) : ACalls E 162 [u8 a] σ fun r τ => r = boolV (btw 65 a 90) ∧ τ = σ := by
  refine xacalls T0 .drop [] Tryz.func162 rfl (by kernel_rfl) (by kernel_rfl) (by simp [Tryz.ntmps162]) ?_
  unfold btw
  by_cases h : 65 ≤ a <;> (simp only [h, (vmA), Nat.reduceEqDiff, reduceIte, Nat.reduceAdd, Int.reduceToNat, Int.reduceLE, Int.reduceLT, Int.reduceEq, Int.reduceNe, Int.reduceAdd, Int.reduceSub, Int.reduceNeg, Nat.reduceLT, Nat.reduceLeDiff, Nat.reduceBEq, undef, (stA), Nat.reduceMul]; try simp (disch := omega) only [(vmp)])
theorem digit_ok (a : Int) (σ : List Ent) : ACalls E 177 [u8 a] σ fun r τ => r = boolV (btw 48 a 57) ∧ τ = σ := by
  refine xacalls T0 .drop [] Tryz.func177 rfl (by kernel_rfl) (by kernel_rfl) (by simp [Tryz.ntmps177]) ?_
  unfold btw
  by_cases h : 48 ≤ a <;> (simp only [h, (vmA), Nat.reduceEqDiff, reduceIte, Nat.reduceAdd, Int.reduceToNat, Int.reduceLE, Int.reduceLT, Int.reduceEq, Int.reduceNe, Int.reduceAdd, Int.reduceSub, Int.reduceNeg, Nat.reduceLT, Nat.reduceLeDiff, Nat.reduceBEq, undef, (stA), Nat.reduceMul]; try simp (disch := omega) only [(vmp)])
theorem rest_ok (b : Int) (σ : List Ent) : ACalls E 184 [u8 b] σ fun r τ => r = boolV (isPart b) ∧ τ = σ := by
  refine xacalls T0 .drop [] Tryz.func184 rfl (by kernel_rfl) (by kernel_rfl) (by simp [Tryz.ntmps184]) ?_
  unfold isPart
  (simp only [(vmA), Nat.reduceEqDiff, reduceIte, Nat.reduceAdd, Int.reduceToNat, Int.reduceLE, Int.reduceLT, Int.reduceEq, Int.reduceNe, Int.reduceAdd, Int.reduceSub, Int.reduceNeg, Nat.reduceLT, Nat.reduceLeDiff, Nat.reduceBEq, undef, (stA), Nat.reduceMul]; try simp (disch := omega) only [(vmp)])
  refine xWait.go (small_ok _ _) ?_
  cases h1 : btw 97 b 122 <;> (simp only [(vmA), Nat.reduceEqDiff, reduceIte, Nat.reduceAdd, Int.reduceToNat, Int.reduceLE, Int.reduceLT, Int.reduceEq, Int.reduceNe, Int.reduceAdd, Int.reduceSub, Int.reduceNeg, Nat.reduceLT, Nat.reduceLeDiff, Nat.reduceBEq, undef, (stA), Nat.reduceMul]; try simp (disch := omega) only [(vmp)])
  refine xWait.go (great_ok _ _) ?_
  cases h2 : btw 65 b 90 <;> (simp only [(vmA), Nat.reduceEqDiff, reduceIte, Nat.reduceAdd, Int.reduceToNat, Int.reduceLE, Int.reduceLT, Int.reduceEq, Int.reduceNe, Int.reduceAdd, Int.reduceSub, Int.reduceNeg, Nat.reduceLT, Nat.reduceLeDiff, Nat.reduceBEq, undef, (stA), Nat.reduceMul]; try simp (disch := omega) only [(vmp)])
  refine xWait.go (digit_ok _ _) ?_
  cases h3 : btw 48 b 57 <;> (simp only [(vmA), Nat.reduceEqDiff, reduceIte, Nat.reduceAdd, Int.reduceToNat, Int.reduceLE, Int.reduceLT, Int.reduceEq, Int.reduceNe, Int.reduceAdd, Int.reduceSub, Int.reduceNeg, Nat.reduceLT, Nat.reduceLeDiff, Nat.reduceBEq, undef, (stA), Nat.reduceMul]; try simp (disch := omega) only [(vmp)])
  by_cases h4 : b = 95 <;> (simp only [h4, (vmA), Nat.reduceEqDiff, reduceIte, Nat.reduceAdd, Int.reduceToNat, Int.reduceLE, Int.reduceLT, Int.reduceEq, Int.reduceNe, Int.reduceAdd, Int.reduceSub, Int.reduceNeg, Nat.reduceLT, Nat.reduceLeDiff, Nat.reduceBEq, undef, (stA), Nat.reduceMul]; try simp (disch := omega) only [(vmp)])

/-- How many bytes a word has, if one begins. -/
def wordR (l : List UInt8) : Nat := if letter (l.getD 0 0) = true then word l else 0
theorem wordR_ok (l : List UInt8) (i : Nat) (hl : l.length ≤ 1099511627776) (hi : i ≤ l.length) (σ : List Ent) : ACalls E 175 [.str l, i64 i] σ fun r τ => r = i64 (wordR (l.drop i)) ∧ τ = σ := by
  refine xacalls T0 .drop [] Tryz.func175 rfl (by kernel_rfl) (by kernel_rfl) (by simp [Tryz.ntmps175]) ?_
  have hg : ∀ j, (l.drop i).getD j 0 = l.getD (i + j) 0 := fun j => by simp [List.getD]
  have hdl : (l.drop i).length = l.length - i := List.length_drop
  (simp only [(vmA), Nat.reduceEqDiff, reduceIte, Nat.reduceAdd, Int.reduceToNat, Int.reduceLE, Int.reduceLT, Int.reduceEq, Int.reduceNe, Int.reduceAdd, Int.reduceSub, Int.reduceNeg, Nat.reduceLT, Nat.reduceLeDiff, Nat.reduceBEq, undef, (stA), Nat.reduceMul]; try simp (disch := omega) only [(vmp)])
  refine xGuard.cut (.cut (fun ts g l' => Sub ts [(0, .str l), (1, i64 i), (5, i64 0), (21, boolV (letter (l.getD i 0)))] ∧ g = σ ∧ l' = []) ?_) ?_
  · rintro ts g l' ⟨hsub, rfl, rfl⟩
    simp only [sub_cons, sub_nil, and_true] at hsub
    obtain ⟨h0, h1, h5, h21⟩ := hsub
    unfold wordR
    rw [hg, Nat.add_zero]
    cases hlet : letter (l.getD i 0)
    · rw [hlet] at h21
      (simp only [h0, h1, h5, h21, (vmA), Nat.reduceEqDiff, reduceIte, Nat.reduceAdd, Int.reduceToNat, Int.reduceLE, Int.reduceLT, Int.reduceEq, Int.reduceNe, Int.reduceAdd, Int.reduceSub, Int.reduceNeg, Nat.reduceLT, Nat.reduceLeDiff, Nat.reduceBEq, undef, (stA), Nat.reduceMul]; try simp (disch := omega) only [(vmp)])
    · rw [hlet] at h21
      (simp only [h0, h1, h5, h21, (vmA), Nat.reduceEqDiff, reduceIte, Nat.reduceAdd, Int.reduceToNat, Int.reduceLE, Int.reduceLT, Int.reduceEq, Int.reduceNe, Int.reduceAdd, Int.reduceSub, Int.reduceNeg, Nat.reduceLT, Nat.reduceLeDiff, Nat.reduceBEq, undef, (stA), Nat.reduceMul]; try simp (disch := omega) only [(vmp)])
      have hlt : i < l.length := by
        rcases Nat.lt_or_ge i l.length with h | h
        · exact h
        · rw [show l.getD i 0 = 0 by simp [List.getD, h]] at hlet; exact absurd hlet (by decide)
      have hp : pB isPart (l.getD i 0) = true := by
        simp only [letter, Bool.or_eq_true] at hlet
        simp only [pB, isPart, Bool.or_eq_true]
        rcases hlet with h | h
        · exact .inl (.inl (.inl (.inl h)))
        · exact .inl (.inl (.inl (.inr h)))
      refine xloop (α := Nat) T0 (fun j => [(0, .str l), (1, i64 i), (5, i64 j)]) (fun _ => g) (fun _ => []) (fun j => j ≤ l.length - i ∧ ∀ x ∈ (l.drop i).take j, pB isPart x = true) (fun j => l.length - j) (by kernel_rfl)
        ⟨1, ⟨by omega, take_succ_all (l := l.drop i) (i := 0) (by omega) (by simp) (by rw [hg]; exact hp)⟩, by (simp only [h0, h1, (vmA), Nat.reduceEqDiff, reduceIte, Nat.reduceAdd, Int.reduceToNat, Int.reduceLE, Int.reduceLT, Int.reduceEq, Int.reduceNe, Int.reduceAdd, Int.reduceSub, Int.reduceNeg, Nat.reduceLT, Nat.reduceLeDiff, Nat.reduceBEq, undef, (stA), Nat.reduceMul, Int.natCast_one]; try simp (disch := omega) only [(vmp)]), rfl, rfl⟩ ?_
      rintro j ⟨hj, hall⟩
      (simp only [(vmA), Nat.reduceEqDiff, reduceIte, Nat.reduceAdd, Int.reduceToNat, Int.reduceLE, Int.reduceLT, Int.reduceEq, Int.reduceNe, Int.reduceAdd, Int.reduceSub, Int.reduceNeg, Nat.reduceLT, Nat.reduceLeDiff, Nat.reduceBEq, undef, (stA), Nat.reduceMul]; try simp (disch := omega) only [(vmp)])
      by_cases h : ((i + j : Nat) : Int) < l.length
      · (simp only [h, (vmA), Nat.reduceEqDiff, reduceIte, Nat.reduceAdd, Int.reduceToNat, Int.reduceLE, Int.reduceLT, Int.reduceEq, Int.reduceNe, Int.reduceAdd, Int.reduceSub, Int.reduceNeg, Nat.reduceLT, Nat.reduceLeDiff, Nat.reduceBEq, undef, (stA), Nat.reduceMul]; try simp (disch := omega) only [(vmp)])
        refine ⟨by omega, ?_⟩
        refine xWait.go (rest_ok _ _) ?_
        cases hp2 : isPart (l.getD (i + j) 0).toNat
        · (simp only [(vmA), Nat.reduceEqDiff, reduceIte, Nat.reduceAdd, Int.reduceToNat, Int.reduceLE, Int.reduceLT, Int.reduceEq, Int.reduceNe, Int.reduceAdd, Int.reduceSub, Int.reduceNeg, Nat.reduceLT, Nat.reduceLeDiff, Nat.reduceBEq, undef, (stA), Nat.reduceMul]; try simp (disch := omega) only [(vmp)])
          exact congrArg (fun n : Nat => i64 n) (takeWhile_len (by omega) hall fun _ => by rw [hg]; exact hp2).symm
        · (simp only [(vmA), Nat.reduceEqDiff, reduceIte, Nat.reduceAdd, Int.reduceToNat, Int.reduceLE, Int.reduceLT, Int.reduceEq, Int.reduceNe, Int.reduceAdd, Int.reduceSub, Int.reduceNeg, Nat.reduceLT, Nat.reduceLeDiff, Nat.reduceBEq, undef, (stA), Nat.reduceMul]; try simp (disch := omega) only [(vmp)])
          exact ⟨j + 1, ⟨by omega, take_succ_all (by omega) hall (by rw [hg]; exact hp2)⟩, by omega, rfl⟩
      · (simp only [h, (vmA), Nat.reduceEqDiff, reduceIte, Nat.reduceAdd, Int.reduceToNat, Int.reduceLE, Int.reduceLT, Int.reduceEq, Int.reduceNe, Int.reduceAdd, Int.reduceSub, Int.reduceNeg, Nat.reduceLT, Nat.reduceLeDiff, Nat.reduceBEq, undef, (stA), Nat.reduceMul]; try simp (disch := omega) only [(vmp)])
        exact congrArg (fun n : Nat => i64 n) (takeWhile_len (by omega) hall fun hh => absurd (by omega) h).symm
  · by_cases h : (i : Int) < l.length
    · (simp only [h, (vmA), Nat.reduceEqDiff, reduceIte, Nat.reduceAdd, Int.reduceToNat, Int.reduceLE, Int.reduceLT, Int.reduceEq, Int.reduceNe, Int.reduceAdd, Int.reduceSub, Int.reduceNeg, Nat.reduceLT, Nat.reduceLeDiff, Nat.reduceBEq, undef, (stA), Nat.reduceMul]; try simp (disch := omega) only [(vmp)])
      refine xWait.go (small_ok _ _) ?_
      unfold letter
      cases h1 : btw 97 (l.getD i 0).toNat 122
      · (simp only [h, (vmA), Nat.reduceEqDiff, reduceIte, Nat.reduceAdd, Int.reduceToNat, Int.reduceLE, Int.reduceLT, Int.reduceEq, Int.reduceNe, Int.reduceAdd, Int.reduceSub, Int.reduceNeg, Nat.reduceLT, Nat.reduceLeDiff, Nat.reduceBEq, undef, (stA), Nat.reduceMul]; try simp (disch := omega) only [(vmp)])
        refine xWait.go (great_ok _ _) ?_
        (simp only [(vmA), Nat.reduceEqDiff, reduceIte, Nat.reduceAdd, Int.reduceToNat, Int.reduceLE, Int.reduceLT, Int.reduceEq, Int.reduceNe, Int.reduceAdd, Int.reduceSub, Int.reduceNeg, Nat.reduceLT, Nat.reduceLeDiff, Nat.reduceBEq, undef, (stA), Nat.reduceMul]; try simp (disch := omega) only [(vmp)])
      · (simp only [(vmA), Nat.reduceEqDiff, reduceIte, Nat.reduceAdd, Int.reduceToNat, Int.reduceLE, Int.reduceLT, Int.reduceEq, Int.reduceNe, Int.reduceAdd, Int.reduceSub, Int.reduceNeg, Nat.reduceLT, Nat.reduceLeDiff, Nat.reduceBEq, undef, (stA), Nat.reduceMul]; try simp (disch := omega) only [(vmp)])
    · (simp only [h, (vmA), Nat.reduceEqDiff, reduceIte, Nat.reduceAdd, Int.reduceToNat, Int.reduceLE, Int.reduceLT, Int.reduceEq, Int.reduceNe, Int.reduceAdd, Int.reduceSub, Int.reduceNeg, Nat.reduceLT, Nat.reduceLeDiff, Nat.reduceBEq, undef, (stA), Nat.reduceMul]; try simp (disch := omega) only [(vmp)])
      rw [show l.getD i 0 = 0 by simp [List.getD, (by omega : l.length ≤ i)]]; rfl
end Go.D

/- The tokens of one text. -/
set_option linter.unusedVariables false
set_option linter.unusedSimpArgs false
set_option maxRecDepth 100000
namespace Go.D
open Go

theorem toks_nil (a : Nat) : toks a [] = some [] := by rw [toks]; rfl
theorem toks_space (a : Nat) (c : UInt8) (r : List UInt8) (h : c = 32 ∨ c = 9 ∨ c = 10) : toks a (c :: r) = toks (a + 1) r := by
  rw [toks, if_neg (by simp), if_pos (by simpa using h)]; simp
theorem toks_one (a : Nat) (l : List UInt8) (k t : List UInt8) (n : Nat) (h0 : ¬ l.length = 0) (h1 : ¬ (l.getD 0 0 = 32 ∨ l.getD 0 0 = 9 ∨ l.getD 0 0 = 10)) (h2 : ¬ l.take 2 = [40, 42]) (h3 : one l = some (k, t, n)) :
    toks a l = (toks (a + n) (l.drop n)).map fun r => (k, t, a) :: r := by
  have := one_le l k t n h3
  rw [toks, if_neg h0, if_neg h1, if_neg h2, h3]
  simp only
  rw [if_neg (by omega)]

def saneText : List UInt8 := [40, 83, 46, 120, 43, 32, 45, 53, 41]
def saneToks : List Tok := [(kSign, [40], 0), (kName, [83, 46, 120], 1), (kSign, [43], 4), (kInt, [45, 53], 6), (kSign, [41], 8)]
theorem sane1 : one [40, 83, 46, 120, 43, 32, 45, 53, 41] = some (kSign, [40], 1) := by
  rw [one_eq]; decide +kernel
theorem sane3 : one [43, 32, 45, 53, 41] = some (kSign, [43], 1) := by
  rw [one_eq]; decide +kernel
theorem sane4 : one [45, 53, 41] = some (kInt, [45, 53], 2) := by
  rw [one_eq]; decide +kernel
theorem sane5 : one [41] = some (kSign, [41], 1) := by
  rw [one_eq]; decide +kernel
theorem sane2 : one [83, 46, 120, 43, 32, 45, 53, 41] = some (kName, [83, 46, 120], 3) := by
  have h : long true [83, 46, 120, 43, 32, 45, 53, 41] = (3, kName) := by
    rw [long_great true _ (by decide)]
    have hw : word [83, 46, 120, 43, 32, 45, 53, 41] = 1 := by decide
    rw [hw, (tail_dot _ 1 (by decide) (by decide)).2.1 (by decide)]
    decide
  rw [one_eq]; unfold oneR
  rw [h]; decide +kernel
theorem sane_toks : toks 0 saneText = some saneToks := by
  unfold saneText saneToks
  rw [toks_one 0 _ _ _ _ (by decide) (by decide) (by decide) sane1]
  simp only [List.drop_succ_cons, List.drop_zero]
  rw [toks_one _ _ _ _ _ (by decide) (by decide) (by decide) sane2]
  simp only [List.drop_succ_cons, List.drop_zero]
  rw [toks_one _ _ _ _ _ (by decide) (by decide) (by decide) sane3]
  simp only [List.drop_succ_cons, List.drop_zero]
  rw [toks_space _ _ _ (by decide)]
  rw [toks_one _ _ _ _ _ (by decide) (by decide) (by decide) sane4]
  simp only [List.drop_succ_cons, List.drop_zero]
  rw [toks_one _ _ _ _ _ (by decide) (by decide) (by decide) sane5]
  simp only [List.drop_succ_cons, List.drop_zero, toks_nil]
  rfl
end Go.D

/- Lines and columns. Plain lists. -/
set_option linter.unusedVariables false
set_option linter.unusedSimpArgs false
set_option maxRecDepth 100000
namespace Go.D
open Go

/-- Where the last line before a place ends. -/
def lastN (l : List UInt8) : Nat → Int
  | 0 => -1
  | i + 1 => if l.getD i 0 = 10 then i else lastN l i
theorem lastN_le (l : List UInt8) : ∀ i : Nat, -1 ≤ lastN l i ∧ lastN l i < i
  | 0 => by simp [lastN]
  | i + 1 => by
    have := lastN_le l i
    unfold lastN
    split <;> omega
theorem lastIdx_take (l : List UInt8) (i : Nat) (hi : i ≤ l.length) : ∀ k : Nat, k ≤ i → Lib.lastIdx ⟨⟨l.take i⟩⟩ 10 k = lastN l k
  | 0, _ => rfl
  | k + 1, h => by
    have h1 : ((⟨⟨l.take i⟩⟩ : ByteArray).data[k]!) = l.getD k 0 := by
      have h2 : k < l.length := by omega
      have h3 : k < i := by omega
      simp [List.getD, h2, h3]
    rw [Lib.lastIdx, lastN, lastIdx_take l i hi k (by omega), h1]
    by_cases h2 : l.getD k 0 = 10
    · rw [if_pos h2, if_pos (by rw [h2]; rfl)]
    · rw [if_neg h2, if_neg]
      intro e
      have h3 : (l.getD k 0).toNat = 10 := by omega
      exact h2 (UInt8.toNat_inj.1 h3)
theorem lastIndex_take (l : List UInt8) (i : Nat) (hi : i ≤ l.length) : Lib.lastIndexByte ⟨⟨l.take i⟩⟩ 10 = lastN l i := by
  have h : (⟨⟨l.take i⟩⟩ : ByteArray).size = i := by simp [ByteArray.size]; omega
  rw [Lib.lastIndexByte, h]
  exact lastIdx_take l i hi i (Nat.le_refl _)
theorem count_take (l : List UInt8) (i : Nat) (hi : i < l.length) : Lib.countByte (l.take (i + 1)) 10 = Lib.countByte (l.take i) 10 + if l.getD i 0 = 10 then 1 else 0 := by
  unfold Lib.countByte
  rw [List.take_add_one, List.count_append, List.getElem?_eq_getElem hi]
  have : l.getD i 0 = l[i] := by simp [List.getD, hi]
  rw [this]
  simp [List.count_cons]
end Go.D

/- Quoted texts, tokens (plain). -/
set_option linter.unusedVariables false
set_option linter.unusedSimpArgs false
set_option maxRecDepth 100000
namespace Go.D
open Go Go.Vm Go.Proofs Go.RowKit

theorem av_all (a : UInt8) (r : List UInt8) : avBytes ((byteAV a :: List.map byteAV r).take (r.length + 1)) = some (a :: r) := by
  have : (byteAV a :: List.map byteAV r).take (r.length + 1) = (a :: r).map byteAV := by rw [List.take_of_length_le (by simp)]; rfl
  rw [this, avBytes_map]
theorem av_all2 (a : UInt8) (r : List UInt8) : avBytes (byteAV a :: List.take r.length (List.map byteAV r)) = some (a :: r) := av_all a r
theorem qS_q (x : List UInt8) : qS (34 :: x) = some (1, []) := by cases x <;> simp [qS]
theorem qS_bad (a : UInt8) (x : List UInt8) (h : a ≠ 34) (h2 : btw 32 a.toNat 126 = false) : qS (a :: x) = none := by
  have h3 : a ≠ 92 := fun e => by rw [e] at h2; revert h2; decide
  cases x <;> simp [qS, h, h2, h3]
theorem qS_plain (a : UInt8) (x : List UInt8) (h : a ≠ 34) (h3 : a ≠ 92) (h2 : btw 32 a.toNat 126 = true) : qS (a :: x) = (qS x).map fun y => (y.1 + 1, a :: y.2) := by
  cases x <;> simp [qS, h, h2, h3]
theorem qS_end : qS [92] = none := by simp [qS]
theorem qS_esc (b : UInt8) (x : List UInt8) : qS (92 :: b :: x) = if b = 110 then (qS x).map fun y => (y.1 + 2, 10 :: y.2) else if b = 34 ∨ b = 92 then (qS x).map fun y => (y.1 + 2, b :: y.2) else none := by
  simp [qS]

theorem one_at {l : List UInt8} {i : Nat} (h : i < l.length) : l.drop i = l.getD i 0 :: l.drop (i + 1) ∧ (l.drop i).take 1 = [l.getD i 0] := by
  have : l.drop i = l.getD i 0 :: l.drop (i + 1) := by rw [List.drop_eq_getElem_cons h]; simp [List.getD, h]
  refine ⟨this, ?_⟩
  rw [this]; rfl
theorem u8_eq (a : UInt8) (n : Nat) (hn : n < 256) : ((a.toNat : Int) = n) ↔ a = UInt8.ofNat n := by
  constructor
  · intro h
    apply UInt8.toNat_inj.1
    simp; omega
  · intro h; rw [h]; simp; omega


def tokA (k t : List UInt8) (p : Nat) : AV := .agg [.str k, .str t, i64 p]

theorem prefix_take (x : List UInt8) : Lib.hasPrefix x [40, 42] = true ↔ x.take 2 = [40, 42] := by
  rcases x with _ | ⟨a, _ | ⟨b, r⟩⟩
  · simp [Lib.hasPrefix, List.isPrefixOf]
  · simp [Lib.hasPrefix, List.isPrefixOf]
  · simp [Lib.hasPrefix, List.isPrefixOf]
    exact ⟨fun h => ⟨h.1.symm, h.2.symm⟩, fun h => ⟨h.1.symm, h.2.symm⟩⟩

end Go.D

/- The document's names. -/
set_option linter.unusedVariables false
set_option linter.unusedSimpArgs false
set_option maxRecDepth 100000
namespace Go.D
open Go Go.Vm Go.Proofs Go.RowKit

theorem named_ok (l : List UInt8) (i : Nat) (hl : l.length ≤ 1099511627776) (hi : i < l.length) (hlet : letter (l.getD i 0) = true) (σ : List Ent) :
    ACalls E 163 [.str l, i64 i] σ fun r τ => r = .tup [i64 (long true (l.drop i)).1, .str (long true (l.drop i)).2] ∧ τ = σ := by
  refine xacalls T0 .drop [] Tryz.func163 rfl (by kernel_rfl) (by kernel_rfl) (by simp [Tryz.ntmps163]) ?_
  have hg : ∀ j, (l.drop i).getD j 0 = l.getD (i + j) 0 := fun j => by simp [List.getD]
  have hdl : (l.drop i).length = l.length - i := List.length_drop
  have hw := word_le (l.drop i)
  have hwr : wordR (l.drop i) = word (l.drop i) := by unfold wordR; rw [hg, Nat.add_zero, if_pos hlet]
  (simp only [(vmA), Nat.reduceEqDiff, reduceIte, Nat.reduceAdd, Int.reduceToNat, Int.reduceLE, Int.reduceLT, Int.reduceEq, Int.reduceNe, Int.reduceAdd, Int.reduceSub, Int.reduceNeg, Nat.reduceLT, Nat.reduceLeDiff, Nat.reduceBEq, undef, (stA), Nat.reduceMul]; try simp (disch := omega) only [(vmp)])
  refine xWait.go (wordR_ok l i hl (by omega) _) ?_
  rw [hwr]
  (simp only [(vmA), Nat.reduceEqDiff, reduceIte, Nat.reduceAdd, Int.reduceToNat, Int.reduceLE, Int.reduceLT, Int.reduceEq, Int.reduceNe, Int.reduceAdd, Int.reduceSub, Int.reduceNeg, Nat.reduceLT, Nat.reduceLeDiff, Nat.reduceBEq, undef, (stA), Nat.reduceMul]; try simp (disch := omega) only [(vmp)])
  refine ⟨by omega, ?_⟩
  refine xWait.go (small_ok _ _) ?_
  cases h1 : btw 97 (l.getD i 0).toNat 122
  · (simp only [(vmA), Nat.reduceEqDiff, reduceIte, Nat.reduceAdd, Int.reduceToNat, Int.reduceLE, Int.reduceLT, Int.reduceEq, Int.reduceNe, Int.reduceAdd, Int.reduceSub, Int.reduceNeg, Nat.reduceLT, Nat.reduceLeDiff, Nat.reduceBEq, undef, (stA), Nat.reduceMul]; try simp (disch := omega) only [(vmp)])
    have h2 : btw 65 (l.getD i 0).toNat 90 = true := by simp only [letter, h1, Bool.false_or] at hlet; exact hlet
    have hlong := long_great true (l.drop i) (by rw [hg, Nat.add_zero]; exact h2)
    refine xloop (α := Nat × List UInt8) T0 (fun x => [(0, .str l), (1, i64 i), (6, i64 x.1), (7, .str x.2)]) (fun _ => σ) (fun _ => [])
      (fun x => x.1 ≤ l.length - i ∧ ((x.2 = kCon ∧ long true (l.drop i) = tail (l.drop i) x.1) ∨ (x.2 = kName ∧ long true (l.drop i) = (x.1, kName)))) (fun x => l.length - x.1) (by kernel_rfl)
      ⟨(word (l.drop i), kCon), ⟨by omega, .inl ⟨rfl, hlong⟩⟩, by (simp only [kCon, (vmA), Nat.reduceEqDiff, reduceIte, Nat.reduceAdd, Int.reduceToNat, Int.reduceLE, Int.reduceLT, Int.reduceEq, Int.reduceNe, Int.reduceAdd, Int.reduceSub, Int.reduceNeg, Nat.reduceLT, Nat.reduceLeDiff, Nat.reduceBEq, undef, (stA), Nat.reduceMul]; try simp (disch := omega) only [(vmp)]), rfl, rfl⟩ ?_
    rintro ⟨n, k⟩ ⟨hn, hk⟩
    simp only at hn hk
    (simp only [(vmA), Nat.reduceEqDiff, reduceIte, Nat.reduceAdd, Int.reduceToNat, Int.reduceLE, Int.reduceLT, Int.reduceEq, Int.reduceNe, Int.reduceAdd, Int.reduceSub, Int.reduceNeg, Nat.reduceLT, Nat.reduceLeDiff, Nat.reduceBEq, undef, (stA), Nat.reduceMul]; try simp (disch := omega) only [(vmp)])
    rcases hk with ⟨rfl, hk⟩ | ⟨rfl, hk⟩
    · (simp only [kCon, (vmA), Nat.reduceEqDiff, reduceIte, Nat.reduceAdd, Int.reduceToNat, Int.reduceLE, Int.reduceLT, Int.reduceEq, Int.reduceNe, Int.reduceAdd, Int.reduceSub, Int.reduceNeg, Nat.reduceLT, Nat.reduceLeDiff, Nat.reduceBEq, undef, (stA), Nat.reduceMul]; try simp (disch := omega) only [(vmp)])
      by_cases q1 : ((i + n : Nat) : Int) < l.length
      · (simp only [q1, (vmA), Nat.reduceEqDiff, reduceIte, Nat.reduceAdd, Int.reduceToNat, Int.reduceLE, Int.reduceLT, Int.reduceEq, Int.reduceNe, Int.reduceAdd, Int.reduceSub, Int.reduceNeg, Nat.reduceLT, Nat.reduceLeDiff, Nat.reduceBEq, undef, (stA), Nat.reduceMul]; try simp (disch := omega) only [(vmp)])
        refine ⟨by omega, ?_⟩
        by_cases q2 : ((l.getD (i + n) 0).toNat : Int) = 46
        · (simp only [q2, (vmA), Nat.reduceEqDiff, reduceIte, Nat.reduceAdd, Int.reduceToNat, Int.reduceLE, Int.reduceLT, Int.reduceEq, Int.reduceNe, Int.reduceAdd, Int.reduceSub, Int.reduceNeg, Nat.reduceLT, Nat.reduceLeDiff, Nat.reduceBEq, undef, (stA), Nat.reduceMul]; try simp (disch := omega) only [(vmp)])
          refine xWait.go (wordR_ok l (i + n + 1) hl (by omega) _) ?_
          (simp only [(vmA), Nat.reduceEqDiff, reduceIte, Nat.reduceAdd, Int.reduceToNat, Int.reduceLE, Int.reduceLT, Int.reduceEq, Int.reduceNe, Int.reduceAdd, Int.reduceSub, Int.reduceNeg, Nat.reduceLT, Nat.reduceLeDiff, Nat.reduceBEq, undef, (stA), Nat.reduceMul]; try simp (disch := omega) only [(vmp)])
          obtain ⟨t1, t2, t3⟩ := tail_dot (l.drop i) n (by omega) (by rw [hg]; omega)
          rw [hg, show i + (n + 1) = i + n + 1 by omega] at t1
          rw [hg, List.drop_drop, show i + (n + 1) = i + n + 1 by omega] at t2 t3
          cases hl2 : letter (l.getD (i + n + 1) 0)
          · have hz : wordR (l.drop (i + n + 1)) = 0 := by
              unfold wordR; rw [if_neg]; simp only [List.getD, List.getElem?_drop, Nat.add_zero] at hl2 ⊢; rw [hl2]; simp
            rw [hz]
            (simp only [(vmA), Nat.reduceEqDiff, reduceIte, Nat.reduceAdd, Int.reduceToNat, Int.reduceLE, Int.reduceLT, Int.reduceEq, Int.reduceNe, Int.reduceAdd, Int.reduceSub, Int.reduceNeg, Nat.reduceLT, Nat.reduceLeDiff, Nat.reduceBEq, undef, (stA), Nat.reduceMul, Int.natCast_zero]; try simp (disch := omega) only [(vmp)])
            rw [hk, t1 hl2]; rfl
          · have hz : wordR (l.drop (i + n + 1)) = word (l.drop (i + n + 1)) := by
              unfold wordR; rw [if_pos]; simp only [List.getD, List.getElem?_drop, Nat.add_zero] at hl2 ⊢; rw [hl2]
            have hpos := word_pos (l.drop (i + n + 1)) (by simp only [List.getD, List.getElem?_drop, Nat.add_zero] at hl2 ⊢; rw [hl2])
            have hwl := word_le (l.drop (i + n + 1))
            rw [List.length_drop] at hwl
            rw [hz]
            have hne : ¬ (word (l.drop (i + n + 1)) : Int) = 0 := by omega
            (simp only [hne, (vmA), Nat.reduceEqDiff, reduceIte, Nat.reduceAdd, Int.reduceToNat, Int.reduceLE, Int.reduceLT, Int.reduceEq, Int.reduceNe, Int.reduceAdd, Int.reduceSub, Int.reduceNeg, Nat.reduceLT, Nat.reduceLeDiff, Nat.reduceBEq, undef, (stA), Nat.reduceMul]; try simp (disch := omega) only [(vmp)])
            refine ⟨by omega, ?_⟩
            refine xWait.go (small_ok _ _) ?_
            cases h3 : btw 97 (l.getD (i + n + 1) 0).toNat 122
            · have h4 : btw 65 (l.getD (i + n + 1) 0).toNat 90 = true := by simp only [letter, h3, Bool.false_or] at hl2; exact hl2
              (simp only [(vmA), Nat.reduceEqDiff, reduceIte, Nat.reduceAdd, Int.reduceToNat, Int.reduceLE, Int.reduceLT, Int.reduceEq, Int.reduceNe, Int.reduceAdd, Int.reduceSub, Int.reduceNeg, Nat.reduceLT, Nat.reduceLeDiff, Nat.reduceBEq, undef, (stA), Nat.reduceMul]; try simp (disch := omega) only [(vmp)])
              refine ⟨(n + 1 + word (l.drop (i + n + 1)), kCon), ⟨by simp only; omega, .inl ⟨rfl, by rw [hk, t3 h4]⟩⟩, by simp only; omega, rfl, rfl⟩
            · (simp only [(vmA), Nat.reduceEqDiff, reduceIte, Nat.reduceAdd, Int.reduceToNat, Int.reduceLE, Int.reduceLT, Int.reduceEq, Int.reduceNe, Int.reduceAdd, Int.reduceSub, Int.reduceNeg, Nat.reduceLT, Nat.reduceLeDiff, Nat.reduceBEq, undef, (stA), Nat.reduceMul]; try simp (disch := omega) only [(vmp)])
              refine ⟨(n + 1 + word (l.drop (i + n + 1)), kName), ⟨by simp only; omega, .inr ⟨rfl, by rw [hk, t2 h3]⟩⟩, ?_, rfl, rfl⟩
              simp only; omega
        · (simp only [q2, (vmA), Nat.reduceEqDiff, reduceIte, Nat.reduceAdd, Int.reduceToNat, Int.reduceLE, Int.reduceLT, Int.reduceEq, Int.reduceNe, Int.reduceAdd, Int.reduceSub, Int.reduceNeg, Nat.reduceLT, Nat.reduceLeDiff, Nat.reduceBEq, undef, (stA), Nat.reduceMul]; try simp (disch := omega) only [(vmp)])
          rw [hk, tail, if_pos (by rw [hg]; omega)]; rfl
      · (simp only [q1, (vmA), Nat.reduceEqDiff, reduceIte, Nat.reduceAdd, Int.reduceToNat, Int.reduceLE, Int.reduceLT, Int.reduceEq, Int.reduceNe, Int.reduceAdd, Int.reduceSub, Int.reduceNeg, Nat.reduceLT, Nat.reduceLeDiff, Nat.reduceBEq, undef, (stA), Nat.reduceMul]; try simp (disch := omega) only [(vmp)])
        rw [hk, tail, if_pos (by omega)]; rfl
    · have hne : ¬ ([110, 97, 109, 101] : List UInt8) = [99, 111, 110] := by decide
      (simp only [kName, hne, (vmA), Nat.reduceEqDiff, reduceIte, Nat.reduceAdd, Int.reduceToNat, Int.reduceLE, Int.reduceLT, Int.reduceEq, Int.reduceNe, Int.reduceAdd, Int.reduceSub, Int.reduceNeg, Nat.reduceLT, Nat.reduceLeDiff, Nat.reduceBEq, undef, (stA), Nat.reduceMul]; try simp (disch := omega) only [(vmp)])
      rw [hk]; rfl
  · have hlong := long_small true (l.drop i) (by rw [hg, Nat.add_zero]; exact h1)
    (simp only [(vmA), Nat.reduceEqDiff, reduceIte, Nat.reduceAdd, Int.reduceToNat, Int.reduceLE, Int.reduceLT, Int.reduceEq, Int.reduceNe, Int.reduceAdd, Int.reduceSub, Int.reduceNeg, Nat.reduceLT, Nat.reduceLeDiff, Nat.reduceBEq, undef, (stA), Nat.reduceMul]; try simp (disch := omega) only [(vmp)])
    refine ⟨by omega, ?_⟩
    refine xWait.go (IsKey_ok _ (by simp; omega) _) ?_
    by_cases h4 : (l.drop i).take (word (l.drop i)) ∈ keys
    · (simp only [h4, (vmA), Nat.reduceEqDiff, reduceIte, Nat.reduceAdd, Int.reduceToNat, Int.reduceLE, Int.reduceLT, Int.reduceEq, Int.reduceNe, Int.reduceAdd, Int.reduceSub, Int.reduceNeg, Nat.reduceLT, Nat.reduceLeDiff, Nat.reduceBEq, undef, (stA), Nat.reduceMul]; try simp (disch := omega) only [(vmp)])
      rw [hlong, if_pos ⟨rfl, h4⟩]; rfl
    · (simp only [h4, (vmA), Nat.reduceEqDiff, reduceIte, Nat.reduceAdd, Int.reduceToNat, Int.reduceLE, Int.reduceLT, Int.reduceEq, Int.reduceNe, Int.reduceAdd, Int.reduceSub, Int.reduceNeg, Nat.reduceLT, Nat.reduceLeDiff, Nat.reduceBEq, undef, (stA), Nat.reduceMul]; try simp (disch := omega) only [(vmp)])
      rw [hlong, if_neg (by simpa using h4)]; rfl
end Go.D

/- The document's signs, numbers. -/
set_option linter.unusedVariables false
set_option linter.unusedSimpArgs false
set_option maxRecDepth 100000
namespace Go.D
open Go Go.Vm Go.Proofs Go.RowKit

def oneSigns : List UInt8 := [40, 41, 91, 93, 44, 59, 58, 61, 124, 95, 43, 45, 42, 47, 37, 60, 94]
theorem signsR_ok (l : List UInt8) (i : Nat) (hl : l.length ≤ 1099511627776) (hi : i < l.length) (σ : List Ent) :
    ACalls E 167 [.str l, i64 i] σ fun r τ => r = i64 (signsN (l.drop i)) ∧ τ = σ := by
  refine xacalls T0 .drop [] Tryz.func167 rfl (by kernel_rfl) (by kernel_rfl) (by simp [Tryz.ntmps167]) ?_
  have hg : (l.drop i).getD 0 0 = l.getD i 0 := by simp [List.getD]
  have two : ∀ a b : UInt8, (l.drop i).take 2 = [a, b] → i + 2 ≤ l.length := fun a b h => by
    have := congrArg List.length h
    simp only [List.length_take, List.length_drop, List.length_cons, List.length_nil] at this
    omega
  (simp only [(vmA), Nat.reduceEqDiff, reduceIte, Nat.reduceAdd, Int.reduceToNat, Int.reduceLE, Int.reduceLT, Int.reduceEq, Int.reduceNe, Int.reduceAdd, Int.reduceSub, Int.reduceNeg, Nat.reduceLT, Nat.reduceLeDiff, Nat.reduceBEq, undef, (stA), Nat.reduceMul]; try simp (disch := omega) only [(vmp)])
  refine xCond.cut (.cut (fun ts g l' => Sub ts [(0, .str l), (1, i64 i)] ∧ ¬ ((l.drop i).take 2 = [58, 58] ∨ (l.drop i).take 2 = [61, 62] ∨ (l.drop i).take 2 = [45, 62] ∨ (l.drop i).take 2 = [58, 62]) ∧ g = σ ∧ l' = []) ?_) ?_
  · rintro ts g l' ⟨hsub, hno, rfl, rfl⟩
    simp only [sub_cons, sub_nil, and_true] at hsub
    obtain ⟨h0, h1⟩ := hsub
    unfold signsN
    rw [if_neg hno, hg]
    have hlt : (i : Int) < l.length := by omega
    (simp only [h0, h1, hlt, (vmA), Nat.reduceEqDiff, reduceIte, Nat.reduceAdd, Int.reduceToNat, Int.reduceLE, Int.reduceLT, Int.reduceEq, Int.reduceNe, Int.reduceAdd, Int.reduceSub, Int.reduceNeg, Nat.reduceLT, Nat.reduceLeDiff, Nat.reduceBEq, undef, (stA), Nat.reduceMul]; try simp (disch := omega) only [(vmp)])
    refine xWait.go (IndexByte_ok _ _ _) ?_
    rw [toU8]
    have hm := indexByte_mem oneSigns (l.getD i 0)
    unfold oneSigns at hm
    by_cases h2 : (0 : Int) ≤ Lib.indexByte [40, 41, 91, 93, 44, 59, 58, 61, 124, 95, 43, 45, 42, 47, 37, 60, 94] (l.getD i 0)
    · rw [if_pos (hm.1 h2)]
      (simp only [h0, h1, h2, (vmA), Nat.reduceEqDiff, reduceIte, Nat.reduceAdd, Int.reduceToNat, Int.reduceLE, Int.reduceLT, Int.reduceEq, Int.reduceNe, Int.reduceAdd, Int.reduceSub, Int.reduceNeg, Nat.reduceLT, Nat.reduceLeDiff, Nat.reduceBEq, undef, (stA), Nat.reduceMul, Int.natCast_one]; try simp (disch := omega) only [(vmp)])
    · rw [if_neg (fun e => h2 (hm.2 e))]
      (simp only [h0, h1, h2, (vmA), Nat.reduceEqDiff, reduceIte, Nat.reduceAdd, Int.reduceToNat, Int.reduceLE, Int.reduceLT, Int.reduceEq, Int.reduceNe, Int.reduceAdd, Int.reduceSub, Int.reduceNeg, Nat.reduceLT, Nat.reduceLeDiff, Nat.reduceBEq, undef, (stA), Nat.reduceMul, Int.natCast_zero]; try simp (disch := omega) only [(vmp)])
  · by_cases q : ((i + 2 : Nat) : Int) ≤ l.length
    · (simp only [q, (vmA), Nat.reduceEqDiff, reduceIte, Nat.reduceAdd, Int.reduceToNat, Int.reduceLE, Int.reduceLT, Int.reduceEq, Int.reduceNe, Int.reduceAdd, Int.reduceSub, Int.reduceNeg, Nat.reduceLT, Nat.reduceLeDiff, Nat.reduceBEq, undef, (stA), Nat.reduceMul]; try simp (disch := omega) only [(vmp)])
      refine ⟨by omega, ?_⟩
      unfold signsN
      by_cases h1 : (l.drop i).take 2 = [58, 58]
      · (simp only [h1, (vmA), Nat.reduceEqDiff, reduceIte, Nat.reduceAdd, Int.reduceToNat, Int.reduceLE, Int.reduceLT, Int.reduceEq, Int.reduceNe, Int.reduceAdd, Int.reduceSub, Int.reduceNeg, Nat.reduceLT, Nat.reduceLeDiff, Nat.reduceBEq, undef, (stA), Nat.reduceMul, true_or]; try simp (disch := omega) only [(vmp)])
      · (simp only [h1, (vmA), Nat.reduceEqDiff, reduceIte, Nat.reduceAdd, Int.reduceToNat, Int.reduceLE, Int.reduceLT, Int.reduceEq, Int.reduceNe, Int.reduceAdd, Int.reduceSub, Int.reduceNeg, Nat.reduceLT, Nat.reduceLeDiff, Nat.reduceBEq, undef, (stA), Nat.reduceMul, false_or]; try simp (disch := omega) only [(vmp)])
        by_cases h2 : (l.drop i).take 2 = [61, 62]
        · (simp only [h2, (vmA), Nat.reduceEqDiff, reduceIte, Nat.reduceAdd, Int.reduceToNat, Int.reduceLE, Int.reduceLT, Int.reduceEq, Int.reduceNe, Int.reduceAdd, Int.reduceSub, Int.reduceNeg, Nat.reduceLT, Nat.reduceLeDiff, Nat.reduceBEq, undef, (stA), Nat.reduceMul, true_or]; try simp (disch := omega) only [(vmp)])
        · (simp only [h2, (vmA), Nat.reduceEqDiff, reduceIte, Nat.reduceAdd, Int.reduceToNat, Int.reduceLE, Int.reduceLT, Int.reduceEq, Int.reduceNe, Int.reduceAdd, Int.reduceSub, Int.reduceNeg, Nat.reduceLT, Nat.reduceLeDiff, Nat.reduceBEq, undef, (stA), Nat.reduceMul, false_or]; try simp (disch := omega) only [(vmp)])
          by_cases h3 : (l.drop i).take 2 = [45, 62]
          · (simp only [h3, (vmA), Nat.reduceEqDiff, reduceIte, Nat.reduceAdd, Int.reduceToNat, Int.reduceLE, Int.reduceLT, Int.reduceEq, Int.reduceNe, Int.reduceAdd, Int.reduceSub, Int.reduceNeg, Nat.reduceLT, Nat.reduceLeDiff, Nat.reduceBEq, undef, (stA), Nat.reduceMul, true_or]; try simp (disch := omega) only [(vmp)])
          · (simp only [h3, (vmA), Nat.reduceEqDiff, reduceIte, Nat.reduceAdd, Int.reduceToNat, Int.reduceLE, Int.reduceLT, Int.reduceEq, Int.reduceNe, Int.reduceAdd, Int.reduceSub, Int.reduceNeg, Nat.reduceLT, Nat.reduceLeDiff, Nat.reduceBEq, undef, (stA), Nat.reduceMul, false_or]; try simp (disch := omega) only [(vmp)])
            by_cases h4 : (l.drop i).take 2 = [58, 62]
            · (simp only [h4, (vmA), Nat.reduceEqDiff, reduceIte, Nat.reduceAdd, Int.reduceToNat, Int.reduceLE, Int.reduceLT, Int.reduceEq, Int.reduceNe, Int.reduceAdd, Int.reduceSub, Int.reduceNeg, Nat.reduceLT, Nat.reduceLeDiff, Nat.reduceBEq, undef, (stA), Nat.reduceMul]; try simp (disch := omega) only [(vmp)])
            · (simp only [h4, (vmA), Nat.reduceEqDiff, reduceIte, Nat.reduceAdd, Int.reduceToNat, Int.reduceLE, Int.reduceLT, Int.reduceEq, Int.reduceNe, Int.reduceAdd, Int.reduceSub, Int.reduceNeg, Nat.reduceLT, Nat.reduceLeDiff, Nat.reduceBEq, undef, (stA), Nat.reduceMul, not_false_eq_true]; try simp (disch := omega) only [(vmp)])
    · (simp only [q, (vmA), Nat.reduceEqDiff, reduceIte, Nat.reduceAdd, Int.reduceToNat, Int.reduceLE, Int.reduceLT, Int.reduceEq, Int.reduceNe, Int.reduceAdd, Int.reduceSub, Int.reduceNeg, Nat.reduceLT, Nat.reduceLeDiff, Nat.reduceBEq, undef, (stA), Nat.reduceMul]; try simp (disch := omega) only [(vmp)])
      rintro (h | h | h | h)
      all_goals exact q (by have := two _ _ h; omega)

theorem numberR_ok (l : List UInt8) (i : Nat) (hl : l.length ≤ 1099511627776) (hi : i < l.length) (σ : List Ent) :
    ACalls E 165 [.str l, i64 i] σ fun r τ => r = i64 (digits (l.drop i)) ∧ τ = σ := by
  refine xacalls T0 .drop [] Tryz.func165 rfl (by kernel_rfl) (by kernel_rfl) (by simp [Tryz.ntmps165]) ?_
  have hg : ∀ j, (l.drop i).getD j 0 = l.getD (i + j) 0 := fun j => by simp [List.getD]
  have hdl : (l.drop i).length = l.length - i := List.length_drop
  have hn := negN_le (l.drop i)
  have hdig := digits.eq_def (l.drop i)
  rw [hg, hdl] at hdig
  (simp only [(vmA), Nat.reduceEqDiff, reduceIte, Nat.reduceAdd, Int.reduceToNat, Int.reduceLE, Int.reduceLT, Int.reduceEq, Int.reduceNe, Int.reduceAdd, Int.reduceSub, Int.reduceNeg, Nat.reduceLT, Nat.reduceLeDiff, Nat.reduceBEq, undef, (stA), Nat.reduceMul]; try simp (disch := omega) only [(vmp)])
  refine xGuard.cut (.seq (.cut (fun ts g l' => Sub ts [(0, .str l), (1, i64 i), (5, i64 (negN (l.drop i)))] ∧ g = σ ∧ l' = []) ?_)) ?_
  · generalize negN (l.drop i) = n at *
    rintro ts g l' ⟨hsub, rfl, rfl⟩
    simp only [sub_cons, sub_nil, and_true] at hsub
    obtain ⟨h0, h1, h5⟩ := hsub
    (simp only [h0, h1, h5, (vmA), Nat.reduceEqDiff, reduceIte, Nat.reduceAdd, Int.reduceToNat, Int.reduceLE, Int.reduceLT, Int.reduceEq, Int.reduceNe, Int.reduceAdd, Int.reduceSub, Int.reduceNeg, Nat.reduceLT, Nat.reduceLeDiff, Nat.reduceBEq, undef, (stA), Nat.reduceMul]; try simp (disch := omega) only [(vmp)])
    by_cases q : (l.length : Int) ≤ ((i + n : Nat) : Int)
    · (simp only [h0, h1, h5, q, (vmA), Nat.reduceEqDiff, reduceIte, Nat.reduceAdd, Int.reduceToNat, Int.reduceLE, Int.reduceLT, Int.reduceEq, Int.reduceNe, Int.reduceAdd, Int.reduceSub, Int.reduceNeg, Nat.reduceLT, Nat.reduceLeDiff, Nat.reduceBEq, undef, (stA), Nat.reduceMul]; try simp (disch := omega) only [(vmp)])
      rw [hdig, if_pos (by omega)]; rfl
    · rw [if_neg (by omega)] at hdig
      (simp only [h0, h1, h5, q, (vmA), Nat.reduceEqDiff, reduceIte, Nat.reduceAdd, Int.reduceToNat, Int.reduceLE, Int.reduceLT, Int.reduceEq, Int.reduceNe, Int.reduceAdd, Int.reduceSub, Int.reduceNeg, Nat.reduceLT, Nat.reduceLeDiff, Nat.reduceBEq, undef, (stA), Nat.reduceMul]; try simp (disch := omega) only [(vmp)])
      refine ⟨by omega, ?_⟩
      refine xWait.go (digit_ok _ _) ?_
      cases h6 : btw 48 (l.getD (i + n) 0).toNat 57
      · rw [if_neg (by unfold isDig; rw [h6]; simp)] at hdig
        (simp only [h0, h1, h5, (vmA), Nat.reduceEqDiff, reduceIte, Nat.reduceAdd, Int.reduceToNat, Int.reduceLE, Int.reduceLT, Int.reduceEq, Int.reduceNe, Int.reduceAdd, Int.reduceSub, Int.reduceNeg, Nat.reduceLT, Nat.reduceLeDiff, Nat.reduceBEq, undef, (stA), Nat.reduceMul]; try simp (disch := omega) only [(vmp)])
        rw [hdig]; rfl
      · rw [if_pos (by unfold isDig; rw [h6])] at hdig
        (simp only [h0, h1, h5, (vmA), Nat.reduceEqDiff, reduceIte, Nat.reduceAdd, Int.reduceToNat, Int.reduceLE, Int.reduceLT, Int.reduceEq, Int.reduceNe, Int.reduceAdd, Int.reduceSub, Int.reduceNeg, Nat.reduceLT, Nat.reduceLeDiff, Nat.reduceBEq, undef, (stA), Nat.reduceMul]; try simp (disch := omega) only [(vmp)])
        refine ⟨by omega, ?_⟩
        by_cases h7 : ((l.getD (i + n) 0).toNat : Int) = 48
        · rw [if_pos h7] at hdig
          (simp only [h0, h1, h5, h7, (vmA), Nat.reduceEqDiff, reduceIte, Nat.reduceAdd, Int.reduceToNat, Int.reduceLE, Int.reduceLT, Int.reduceEq, Int.reduceNe, Int.reduceAdd, Int.reduceSub, Int.reduceNeg, Nat.reduceLT, Nat.reduceLeDiff, Nat.reduceBEq, undef, (stA), Nat.reduceMul]; try simp (disch := omega) only [(vmp)])
          rw [hdig]
        · rw [if_neg h7, List.drop_drop] at hdig
          (simp only [h0, h1, h5, h7, (vmA), Nat.reduceEqDiff, reduceIte, Nat.reduceAdd, Int.reduceToNat, Int.reduceLE, Int.reduceLT, Int.reduceEq, Int.reduceNe, Int.reduceAdd, Int.reduceSub, Int.reduceNeg, Nat.reduceLT, Nat.reduceLeDiff, Nat.reduceBEq, undef, (stA), Nat.reduceMul]; try simp (disch := omega) only [(vmp)])
          have hg2 : ∀ j, (l.drop (i + n)).getD j 0 = l.getD (i + n + j) 0 := fun j => by simp [List.getD]
          have hdl2 : (l.drop (i + n)).length = l.length - (i + n) := List.length_drop
          refine xloop (α := Nat) T0 (fun j => [(0, .str l), (1, i64 i), (5, i64 (n + j : Nat))]) (fun _ => g) (fun _ => []) (fun j => j ≤ (l.drop (i + n)).length ∧ ∀ x ∈ (l.drop (i + n)).take j, pB isDig x = true) (fun j => l.length - j) (by kernel_rfl)
            ⟨0, by simp, by (simp only [h0, h1, h5, (vmA), Nat.reduceEqDiff, reduceIte, Nat.reduceAdd, Int.reduceToNat, Int.reduceLE, Int.reduceLT, Int.reduceEq, Int.reduceNe, Int.reduceAdd, Int.reduceSub, Int.reduceNeg, Nat.reduceLT, Nat.reduceLeDiff, Nat.reduceBEq, undef, (stA), Nat.reduceMul]; try simp (disch := omega) only [(vmp)]), rfl, rfl⟩ ?_
          rintro j ⟨hj, hall⟩
          (simp only [(vmA), Nat.reduceEqDiff, reduceIte, Nat.reduceAdd, Int.reduceToNat, Int.reduceLE, Int.reduceLT, Int.reduceEq, Int.reduceNe, Int.reduceAdd, Int.reduceSub, Int.reduceNeg, Nat.reduceLT, Nat.reduceLeDiff, Nat.reduceBEq, undef, (stA), Nat.reduceMul]; try simp (disch := omega) only [(vmp)])
          by_cases h8 : ((i + (n + j) : Nat) : Int) < l.length
          · (simp only [h8, (vmA), Nat.reduceEqDiff, reduceIte, Nat.reduceAdd, Int.reduceToNat, Int.reduceLE, Int.reduceLT, Int.reduceEq, Int.reduceNe, Int.reduceAdd, Int.reduceSub, Int.reduceNeg, Nat.reduceLT, Nat.reduceLeDiff, Nat.reduceBEq, undef, (stA), Nat.reduceMul]; try simp (disch := omega) only [(vmp)])
            refine ⟨by omega, ?_⟩
            refine xWait.go (digit_ok _ _) ?_
            rw [← Nat.add_assoc]
            cases hp : btw 48 (l.getD (i + n + j) 0).toNat 57
            · (simp only [(vmA), Nat.reduceEqDiff, reduceIte, Nat.reduceAdd, Int.reduceToNat, Int.reduceLE, Int.reduceLT, Int.reduceEq, Int.reduceNe, Int.reduceAdd, Int.reduceSub, Int.reduceNeg, Nat.reduceLT, Nat.reduceLeDiff, Nat.reduceBEq, undef, (stA), Nat.reduceMul]; try simp (disch := omega) only [(vmp)])
              rw [hdig, takeWhile_len hj hall fun _ => by rw [hg2]; exact hp]
            · (simp only [(vmA), Nat.reduceEqDiff, reduceIte, Nat.reduceAdd, Int.reduceToNat, Int.reduceLE, Int.reduceLT, Int.reduceEq, Int.reduceNe, Int.reduceAdd, Int.reduceSub, Int.reduceNeg, Nat.reduceLT, Nat.reduceLeDiff, Nat.reduceBEq, undef, (stA), Nat.reduceMul]; try simp (disch := omega) only [(vmp)])
              exact ⟨j + 1, ⟨by omega, take_succ_all (by omega) hall (by rw [hg2]; exact hp)⟩, by omega, rfl⟩
          · (simp only [h8, (vmA), Nat.reduceEqDiff, reduceIte, Nat.reduceAdd, Int.reduceToNat, Int.reduceLE, Int.reduceLT, Int.reduceEq, Int.reduceNe, Int.reduceAdd, Int.reduceSub, Int.reduceNeg, Nat.reduceLT, Nat.reduceLeDiff, Nat.reduceBEq, undef, (stA), Nat.reduceMul]; try simp (disch := omega) only [(vmp)])
            rw [hdig, takeWhile_len hj hall fun hh => absurd (by omega) h8]
  · have hneg := negB.eq_def (l.drop i)
    rw [hg, hg, hdl, Nat.add_zero] at hneg
    have f0 : negB (l.drop i) = false → negN (l.drop i) = 0 := fun e => by simp [negN, e]
    have f1 : negB (l.drop i) = true → negN (l.drop i) = 1 := fun e => by simp [negN, e]
    by_cases h1 : ((i + 1 : Nat) : Int) < l.length
    · have h1' : (1 : Int) < ((l.length - i : Nat) : Int) := by omega
      simp only [h1', decide_true, Bool.true_and] at hneg
      (simp only [h1, (vmA), Nat.reduceEqDiff, reduceIte, Nat.reduceAdd, Int.reduceToNat, Int.reduceLE, Int.reduceLT, Int.reduceEq, Int.reduceNe, Int.reduceAdd, Int.reduceSub, Int.reduceNeg, Nat.reduceLT, Nat.reduceLeDiff, Nat.reduceBEq, undef, (stA), Nat.reduceMul]; try simp (disch := omega) only [(vmp)])
      refine ⟨by omega, ?_⟩
      by_cases h2 : ((l.getD i 0).toNat : Int) = 45
      · simp only [h2, decide_true, Bool.true_and] at hneg
        (simp only [h1, h2, (vmA), Nat.reduceEqDiff, reduceIte, Nat.reduceAdd, Int.reduceToNat, Int.reduceLE, Int.reduceLT, Int.reduceEq, Int.reduceNe, Int.reduceAdd, Int.reduceSub, Int.reduceNeg, Nat.reduceLT, Nat.reduceLeDiff, Nat.reduceBEq, undef, (stA), Nat.reduceMul]; try simp (disch := omega) only [(vmp)])
        refine ⟨by omega, ?_⟩
        refine xWait.go (digit_ok _ _) ?_
        by_cases h3 : btw 48 (l.getD (i + 1) 0).toNat 57 = true
        · (simp only [h3, (vmA), Nat.reduceEqDiff, reduceIte, Nat.reduceAdd, Int.reduceToNat, Int.reduceLE, Int.reduceLT, Int.reduceEq, Int.reduceNe, Int.reduceAdd, Int.reduceSub, Int.reduceNeg, Nat.reduceLT, Nat.reduceLeDiff, Nat.reduceBEq, undef, (stA), Nat.reduceMul]; try simp (disch := omega) only [(vmp)])
          refine ⟨by omega, ?_⟩
          by_cases h4 : ((l.getD (i + 1) 0).toNat : Int) = 48
          · rw [h4] at hneg
            (simp only [h4, (vmA), Nat.reduceEqDiff, reduceIte, Nat.reduceAdd, Int.reduceToNat, Int.reduceLE, Int.reduceLT, Int.reduceEq, Int.reduceNe, Int.reduceAdd, Int.reduceSub, Int.reduceNeg, Nat.reduceLT, Nat.reduceLeDiff, Nat.reduceBEq, undef, (stA), Nat.reduceMul]; try simp (disch := omega) only [(vmp)])
            rw [f0 (by rw [hneg]; rfl)]; rfl
          · have h5 : btw 49 (l.getD (i + 1) 0).toNat 57 = true := by rw [btw_iff] at h3 ⊢; omega
            (simp only [h4, (vmA), Nat.reduceEqDiff, reduceIte, Nat.reduceAdd, Int.reduceToNat, Int.reduceLE, Int.reduceLT, Int.reduceEq, Int.reduceNe, Int.reduceAdd, Int.reduceSub, Int.reduceNeg, Nat.reduceLT, Nat.reduceLeDiff, Nat.reduceBEq, undef, (stA), Nat.reduceMul]; try simp (disch := omega) only [(vmp)])
            rw [f1 (by rw [hneg]; exact h5)]; rfl
        · have h5 : btw 49 (l.getD (i + 1) 0).toNat 57 = false := by
            rw [← Bool.not_eq_true, btw_iff]; rw [btw_iff] at h3; omega
          rw [Bool.not_eq_true] at h3
          (simp only [h3, (vmA), Nat.reduceEqDiff, reduceIte, Nat.reduceAdd, Int.reduceToNat, Int.reduceLE, Int.reduceLT, Int.reduceEq, Int.reduceNe, Int.reduceAdd, Int.reduceSub, Int.reduceNeg, Nat.reduceLT, Nat.reduceLeDiff, Nat.reduceBEq, undef, (stA), Nat.reduceMul]; try simp (disch := omega) only [(vmp)])
          rw [f0 (by rw [hneg]; exact h5)]; rfl
      · simp only [h2, decide_false, Bool.false_and] at hneg
        (simp only [h2, (vmA), Nat.reduceEqDiff, reduceIte, Nat.reduceAdd, Int.reduceToNat, Int.reduceLE, Int.reduceLT, Int.reduceEq, Int.reduceNe, Int.reduceAdd, Int.reduceSub, Int.reduceNeg, Nat.reduceLT, Nat.reduceLeDiff, Nat.reduceBEq, undef, (stA), Nat.reduceMul]; try simp (disch := omega) only [(vmp)])
        rw [f0 hneg]; rfl
    · have h1' : ¬ (1 : Int) < ((l.length - i : Nat) : Int) := by omega
      simp only [h1', decide_false, Bool.false_and] at hneg
      (simp only [h1, (vmA), Nat.reduceEqDiff, reduceIte, Nat.reduceAdd, Int.reduceToNat, Int.reduceLE, Int.reduceLT, Int.reduceEq, Int.reduceNe, Int.reduceAdd, Int.reduceSub, Int.reduceNeg, Nat.reduceLT, Nat.reduceLeDiff, Nat.reduceBEq, undef, (stA), Nat.reduceMul]; try simp (disch := omega) only [(vmp)])
      rw [f0 hneg]; rfl
end Go.D

/- The document's test of a number's size; its comments. -/
set_option linter.unusedVariables false
set_option linter.unusedSimpArgs false
set_option maxRecDepth 100000
namespace Go.D
open Go Go.Vm Go.Proofs Go.RowKit

theorem fitsR_ok (l : List UInt8) (hl : l.length ≤ 1099511627776) (hpos : 0 < l.length) (σ : List Ent) :
    ACalls E 166 [.str l] σ fun r τ => r = boolV (fits l) ∧ τ = σ := by
  refine xacalls T0 .drop [] Tryz.func166 rfl (by kernel_rfl) (by kernel_rfl) (by simp [Tryz.ntmps166]) ?_
  have fin : ∀ (neg : Bool) (d : List UInt8), fitsD neg d = (decide ((d.length : Int) < 19) || (decide ((d.length : Int) = 19) && !Op.bytesLess (most neg) d)) := fun neg d => by
    unfold fitsD
    have e1 : (((d.length : Int) < 19)) = (d.length < 19) := propext ⟨fun h => by omega, fun h => by omega⟩
    have e2 : (((d.length : Int) = 19)) = (d.length = 19) := propext ⟨fun h => by omega, fun h => by omega⟩
    simp only [e1, e2]
  have m0 : most false = [57, 50, 50, 51, 51, 55, 50, 48, 51, 54, 56, 53, 52, 55, 55, 53, 56, 48, 55] := rfl
  have m1 : most true = [57, 50, 50, 51, 51, 55, 50, 48, 51, 54, 56, 53, 52, 55, 55, 53, 56, 48, 56] := rfl
  (simp only [(vmA), Nat.reduceEqDiff, reduceIte, Nat.reduceAdd, Int.reduceToNat, Int.reduceLE, Int.reduceLT, Int.reduceEq, Int.reduceNe, Int.reduceAdd, Int.reduceSub, Int.reduceNeg, Nat.reduceLT, Nat.reduceLeDiff, Nat.reduceBEq, undef, (stA), Nat.reduceMul]; try simp (disch := omega) only [(vmp)])
  refine ⟨by omega, ?_⟩
  by_cases h : ((l.getD 0 0).toNat : Int) = 45
  · have h' : l.getD 0 0 = 45 := (u8_eq _ 45 (by omega)).1 h
    have hf : fits l = fitsD true (l.drop 1) := by unfold fits body; simp only [h', decide_true, if_true]
    rw [hf, fin, m1]
    (simp only [h, (vmA), Nat.reduceEqDiff, reduceIte, Nat.reduceAdd, Int.reduceToNat, Int.reduceLE, Int.reduceLT, Int.reduceEq, Int.reduceNe, Int.reduceAdd, Int.reduceSub, Int.reduceNeg, Nat.reduceLT, Nat.reduceLeDiff, Nat.reduceBEq, undef, (stA), Nat.reduceMul]; try simp (disch := omega) only [(vmp)])
    refine ⟨by omega, ?_⟩
    by_cases q : (((l.drop 1).length : Nat) : Int) < 19
    · (simp only [q, (vmA), Nat.reduceEqDiff, reduceIte, Nat.reduceAdd, Int.reduceToNat, Int.reduceLE, Int.reduceLT, Int.reduceEq, Int.reduceNe, Int.reduceAdd, Int.reduceSub, Int.reduceNeg, Nat.reduceLT, Nat.reduceLeDiff, Nat.reduceBEq, undef, (stA), Nat.reduceMul]; try simp (disch := omega) only [(vmp)])
    · by_cases q2 : (((l.drop 1).length : Nat) : Int) = 19
      · (simp only [q, q2, (vmA), Nat.reduceEqDiff, reduceIte, Nat.reduceAdd, Int.reduceToNat, Int.reduceLE, Int.reduceLT, Int.reduceEq, Int.reduceNe, Int.reduceAdd, Int.reduceSub, Int.reduceNeg, Nat.reduceLT, Nat.reduceLeDiff, Nat.reduceBEq, undef, (stA), Nat.reduceMul]; try simp (disch := omega) only [(vmp)])
      · (simp only [q, q2, (vmA), Nat.reduceEqDiff, reduceIte, Nat.reduceAdd, Int.reduceToNat, Int.reduceLE, Int.reduceLT, Int.reduceEq, Int.reduceNe, Int.reduceAdd, Int.reduceSub, Int.reduceNeg, Nat.reduceLT, Nat.reduceLeDiff, Nat.reduceBEq, undef, (stA), Nat.reduceMul]; try simp (disch := omega) only [(vmp)])
  · have h' : ¬ l.getD 0 0 = 45 := fun e => h ((u8_eq _ 45 (by omega)).2 e)
    have hf : fits l = fitsD false l := by unfold fits body; simp only [h', decide_false, if_false]
    rw [hf, fin, m0]
    (simp only [h, (vmA), Nat.reduceEqDiff, reduceIte, Nat.reduceAdd, Int.reduceToNat, Int.reduceLE, Int.reduceLT, Int.reduceEq, Int.reduceNe, Int.reduceAdd, Int.reduceSub, Int.reduceNeg, Nat.reduceLT, Nat.reduceLeDiff, Nat.reduceBEq, undef, (stA), Nat.reduceMul]; try simp (disch := omega) only [(vmp)])
    by_cases q : (l.length : Int) < 19
    · (simp only [q, (vmA), Nat.reduceEqDiff, reduceIte, Nat.reduceAdd, Int.reduceToNat, Int.reduceLE, Int.reduceLT, Int.reduceEq, Int.reduceNe, Int.reduceAdd, Int.reduceSub, Int.reduceNeg, Nat.reduceLT, Nat.reduceLeDiff, Nat.reduceBEq, undef, (stA), Nat.reduceMul]; try simp (disch := omega) only [(vmp)])
    · by_cases q2 : (l.length : Int) = 19
      · (simp only [q, q2, (vmA), Nat.reduceEqDiff, reduceIte, Nat.reduceAdd, Int.reduceToNat, Int.reduceLE, Int.reduceLT, Int.reduceEq, Int.reduceNe, Int.reduceAdd, Int.reduceSub, Int.reduceNeg, Nat.reduceLT, Nat.reduceLeDiff, Nat.reduceBEq, undef, (stA), Nat.reduceMul]; try simp (disch := omega) only [(vmp)])
      · (simp only [q, q2, (vmA), Nat.reduceEqDiff, reduceIte, Nat.reduceAdd, Int.reduceToNat, Int.reduceLE, Int.reduceLT, Int.reduceEq, Int.reduceNe, Int.reduceAdd, Int.reduceSub, Int.reduceNeg, Nat.reduceLT, Nat.reduceLeDiff, Nat.reduceBEq, undef, (stA), Nat.reduceMul]; try simp (disch := omega) only [(vmp)])

theorem cs_step (d : Nat) (x : List UInt8) (hx : 0 < x.length) :
    (Lib.hasPrefix x [40, 42] = true → 2 ≤ x.length ∧ cs d x = (cs (d + 1) (x.drop 2)).map (· + 2)) ∧
    (Lib.hasPrefix x [40, 42] = false → Lib.hasPrefix x [42, 41] = true → 2 ≤ x.length ∧ cs d x = if d = 1 then some 2 else (cs (d - 1) (x.drop 2)).map (· + 2)) ∧
    (Lib.hasPrefix x [40, 42] = false → Lib.hasPrefix x [42, 41] = false → cs d x = (cs d (x.drop 1)).map (· + 1)) := by
  rcases x with _ | ⟨a, _ | ⟨b, r⟩⟩
  · simp at hx
  · refine ⟨fun h => ?_, fun _ h => ?_, fun _ _ => rfl⟩
    · simp [Lib.hasPrefix, List.isPrefixOf] at h
    · simp [Lib.hasPrefix, List.isPrefixOf] at h
  · have e : ∀ p q : UInt8, Lib.hasPrefix (a :: b :: r) [p, q] = true ↔ a = p ∧ b = q := fun p q => by
      simp [Lib.hasPrefix, List.isPrefixOf]
      exact ⟨fun h => ⟨h.1.symm, h.2.symm⟩, fun h => ⟨h.1.symm, h.2.symm⟩⟩
    refine ⟨fun h => ⟨by simp, ?_⟩, fun h h2 => ⟨by simp, ?_⟩, fun h h2 => ?_⟩
    · rw [cs, if_pos ((e _ _).1 h)]; rfl
    · rw [cs, if_neg (fun hh => by rw [(e _ _).2 hh] at h; cases h), if_pos ((e _ _).1 h2)]; rfl
    · rw [cs, if_neg (fun hh => by rw [(e _ _).2 hh] at h; cases h), if_neg (fun hh => by rw [(e _ _).2 hh] at h2; cases h2)]; rfl

end Go.D

/- The document's quoted texts. -/
set_option linter.unusedVariables false
set_option linter.unusedSimpArgs false
set_option maxRecDepth 100000
namespace Go.D
open Go Go.Vm Go.Proofs Go.RowKit

/-- A row of bytes that is appended to: what names it, what it holds. -/
def rA (m : Nat) : List UInt8 → AV
  | [] => .v (.slice none 0 0)
  | _ :: r => .rsl m r.length 0 (r.length + 1) 1
def rE : List UInt8 → List Ent
  | [] => []
  | b :: r => [.arr 5 ((b :: r).map byteAV) r.length 0]

set_option maxHeartbeats 4000000 in
theorem quotedR_ok (l : List UInt8) (i : Nat) (hl : l.length ≤ 1099511627776) (hi : i < l.length) (hq : l.getD i 0 = 34) (σ : List Ent) :
    ACalls E 164 [.str l, i64 i] σ fun r τ => r = (match qS (l.drop (i + 1)) with | some x => AV.tup [i64 (x.1 + 1 : Nat), .str x.2] | none => .tup [i64 0, .str []]) ∧ τ = σ := by
  refine xacalls T0 .drop [] Tryz.func164 rfl (by kernel_rfl) (by kernel_rfl) (by simp [Tryz.ntmps164]) ?_
  (simp only [(vmA), Nat.reduceEqDiff, reduceIte, Nat.reduceAdd, Int.reduceToNat, Int.reduceLE, Int.reduceLT, Int.reduceEq, Int.reduceNe, Int.reduceAdd, Int.reduceSub, Int.reduceNeg, Nat.reduceLT, Nat.reduceLeDiff, Nat.reduceBEq, undef, (stA), Nat.reduceMul]; try simp (disch := omega) only [(vmp)])
  have h1 : ¬ (l.length : Int) ≤ i := by omega
  have hq' : ((l.getD i 0).toNat : Int) = 34 := by rw [hq]; rfl
  (simp only [h1, hq', (vmA), Nat.reduceEqDiff, reduceIte, Nat.reduceAdd, Int.reduceToNat, Int.reduceLE, Int.reduceLT, Int.reduceEq, Int.reduceNe, Int.reduceAdd, Int.reduceSub, Int.reduceNeg, Nat.reduceLT, Nat.reduceLeDiff, Nat.reduceBEq, undef, (stA), Nat.reduceMul]; try simp (disch := omega) only [(vmp)])
  refine ⟨by omega, ?_⟩
  refine xloop (α := Nat × List UInt8) T0 (fun x => [(0, .str l), (1, i64 i), (6, rA σ.length x.2), (7, i64 x.1)]) (fun _ => σ) (fun x => rE x.2)
    (fun x => i + 1 ≤ x.1 ∧ x.1 ≤ l.length ∧ x.2.length ≤ x.1 ∧ qS (l.drop (i + 1)) = (qS (l.drop x.1)).map fun y => (y.1 + (x.1 - (i + 1)), x.2 ++ y.2)) (fun x => l.length - x.1) (by kernel_rfl)
    ⟨(i + 1, []), ⟨by simp only; omega, by simp only; omega, by simp, by simp⟩, by (simp only [rA, (vmA), Nat.reduceEqDiff, reduceIte, Nat.reduceAdd, Int.reduceToNat, Int.reduceLE, Int.reduceLT, Int.reduceEq, Int.reduceNe, Int.reduceAdd, Int.reduceSub, Int.reduceNeg, Nat.reduceLT, Nat.reduceLeDiff, Nat.reduceBEq, undef, (stA), Nat.reduceMul]; try simp (disch := omega) only [(vmp)]), rfl, rfl⟩ ?_
  generalize hR : qS (l.drop (i + 1)) = R
  rintro ⟨j, acc⟩ ⟨h2, h3, ha, hc⟩
  simp only at h2 h3 ha hc
  (simp only [(vmA), Nat.reduceEqDiff, reduceIte, Nat.reduceAdd, Int.reduceToNat, Int.reduceLE, Int.reduceLT, Int.reduceEq, Int.reduceNe, Int.reduceAdd, Int.reduceSub, Int.reduceNeg, Nat.reduceLT, Nat.reduceLeDiff, Nat.reduceBEq, undef, (stA), Nat.reduceMul]; try simp (disch := omega) only [(vmp)])
  by_cases h : (j : Int) < l.length
  · obtain ⟨e1, e2⟩ := one_at (l := l) (i := j) (by omega)
    rw [e1] at hc
    (simp only [h, (vmA), Nat.reduceEqDiff, reduceIte, Nat.reduceAdd, Int.reduceToNat, Int.reduceLE, Int.reduceLT, Int.reduceEq, Int.reduceNe, Int.reduceAdd, Int.reduceSub, Int.reduceNeg, Nat.reduceLT, Nat.reduceLeDiff, Nat.reduceBEq, undef, (stA), Nat.reduceMul]; try simp (disch := omega) only [(vmp)])
    generalize hcc : l.getD j 0 = c at *
    by_cases q1 : (c.toNat : Int) = 34
    · have : c = 34 := (u8_eq c 34 (by omega)).1 q1
      subst this
      rw [qS_q] at hc
      (simp only [q1, (vmA), Nat.reduceEqDiff, reduceIte, Nat.reduceAdd, Int.reduceToNat, Int.reduceLE, Int.reduceLT, Int.reduceEq, Int.reduceNe, Int.reduceAdd, Int.reduceSub, Int.reduceNeg, Nat.reduceLT, Nat.reduceLeDiff, Nat.reduceBEq, undef, (stA), Nat.reduceMul]; try simp (disch := omega) only [(vmp)])
      rcases acc with _ | ⟨a, r⟩
      · (simp only [rA, rE, (vmA), Nat.reduceEqDiff, reduceIte, Nat.reduceAdd, Int.reduceToNat, Int.reduceLE, Int.reduceLT, Int.reduceEq, Int.reduceNe, Int.reduceAdd, Int.reduceSub, Int.reduceNeg, Nat.reduceLT, Nat.reduceLeDiff, Nat.reduceBEq, undef, (stA), Nat.reduceMul]; try simp (disch := omega) only [(vmp)])
        refine ydraw T0 [] (by kernel_rfl) (by kernel_rfl) (by kernel_rfl) (by kernel_rfl) ?_
        (simp only [(vmA), Nat.reduceEqDiff, reduceIte, Nat.reduceAdd, Int.reduceToNat, Int.reduceLE, Int.reduceLT, Int.reduceEq, Int.reduceNe, Int.reduceAdd, Int.reduceSub, Int.reduceNeg, Nat.reduceLT, Nat.reduceLeDiff, Nat.reduceBEq, undef, (stA), Nat.reduceMul]; try simp (disch := omega) only [(vmp)])
        rw [hc]
        have e5 : ((j + 1 : Nat) : Int) - i = ((j + 1 - i : Nat) : Int) := by omega
        simp only [Option.map_some, List.append_nil, e5]
        rw [show 1 + (j - (i + 1)) + 1 = j + 1 - i by omega]
      · (simp only [rA, rE, (vmA), Nat.reduceEqDiff, reduceIte, Nat.reduceAdd, Int.reduceToNat, Int.reduceLE, Int.reduceLT, Int.reduceEq, Int.reduceNe, Int.reduceAdd, Int.reduceSub, Int.reduceNeg, Nat.reduceLT, Nat.reduceLeDiff, Nat.reduceBEq, undef, (stA), Nat.reduceMul]; try simp (disch := omega) only [(vmp)])
        refine ydraw T0 [] (by kernel_rfl) (by kernel_rfl) (by kernel_rfl) (by kernel_rfl) ?_
        (simp only [av_all, av_all2, (vmA), Nat.reduceEqDiff, reduceIte, Nat.reduceAdd, Int.reduceToNat, Int.reduceLE, Int.reduceLT, Int.reduceEq, Int.reduceNe, Int.reduceAdd, Int.reduceSub, Int.reduceNeg, Nat.reduceLT, Nat.reduceLeDiff, Nat.reduceBEq, undef, (stA), Nat.reduceMul]; try simp (disch := omega) only [(vmp)])
        refine ⟨by omega, ?_⟩
        rw [hc]
        have e5 : ((j + 1 : Nat) : Int) - i = ((j + 1 - i : Nat) : Int) := by omega
        simp only [Option.map_some, List.append_nil, e5]
        rw [show 1 + (j - (i + 1)) + 1 = j + 1 - i by omega]
    · have n1 : c ≠ 34 := fun e => q1 ((u8_eq c 34 (by omega)).2 e)
      (simp only [q1, (vmA), Nat.reduceEqDiff, reduceIte, Nat.reduceAdd, Int.reduceToNat, Int.reduceLE, Int.reduceLT, Int.reduceEq, Int.reduceNe, Int.reduceAdd, Int.reduceSub, Int.reduceNeg, Nat.reduceLT, Nat.reduceLeDiff, Nat.reduceBEq, undef, (stA), Nat.reduceMul]; try simp (disch := omega) only [(vmp)])
      by_cases q3 : (c.toNat : Int) = 92
      · have : c = 92 := (u8_eq c 92 (by omega)).1 q3
        subst this
        (simp only [q3, (vmA), Nat.reduceEqDiff, reduceIte, Nat.reduceAdd, Int.reduceToNat, Int.reduceLE, Int.reduceLT, Int.reduceEq, Int.reduceNe, Int.reduceAdd, Int.reduceSub, Int.reduceNeg, Nat.reduceLT, Nat.reduceLeDiff, Nat.reduceBEq, undef, (stA), Nat.reduceMul]; try simp (disch := omega) only [(vmp)])
        by_cases q4 : ((j + 1 : Nat) : Int) < l.length
        · obtain ⟨e3, e4⟩ := one_at (l := l) (i := j + 1) (by omega)
          rw [e3, qS_esc] at hc
          (simp only [q4, (vmA), Nat.reduceEqDiff, reduceIte, Nat.reduceAdd, Int.reduceToNat, Int.reduceLE, Int.reduceLT, Int.reduceEq, Int.reduceNe, Int.reduceAdd, Int.reduceSub, Int.reduceNeg, Nat.reduceLT, Nat.reduceLeDiff, Nat.reduceBEq, undef, (stA), Nat.reduceMul]; try simp (disch := omega) only [(vmp)])
          refine ⟨by omega, ?_⟩
          generalize hdd : l.getD (j + 1) 0 = d at *
          have fin : ∀ (b : UInt8), R = ((qS (l.drop (j + 2))).map fun y => (y.1 + 2, b :: y.2)).map (fun y => (y.1 + (j - (i + 1)), acc ++ y.2)) →
              R = (qS (l.drop (j + 2))).map fun y => (y.1 + (j + 2 - (i + 1)), (acc ++ [b]) ++ y.2) := fun b hh => by
            rw [hh]; cases qS (l.drop (j + 2)) <;> simp
            omega
          by_cases p1 : d = 110
          · subst p1
            have e110 : (((110 : UInt8).toNat : Nat) : Int) = 110 := rfl
            rw [if_pos rfl] at hc
            (simp only [e110, (vmA), Nat.reduceEqDiff, reduceIte, Nat.reduceAdd, Int.reduceToNat, Int.reduceLE, Int.reduceLT, Int.reduceEq, Int.reduceNe, Int.reduceAdd, Int.reduceSub, Int.reduceNeg, Nat.reduceLT, Nat.reduceLeDiff, Nat.reduceBEq, undef, (stA), Nat.reduceMul]; try simp (disch := omega) only [(vmp)])
            rcases acc with _ | ⟨a, r⟩
            · (simp only [rA, rE, (vmA), Nat.reduceEqDiff, reduceIte, Nat.reduceAdd, Int.reduceToNat, Int.reduceLE, Int.reduceLT, Int.reduceEq, Int.reduceNe, Int.reduceAdd, Int.reduceSub, Int.reduceNeg, Nat.reduceLT, Nat.reduceLeDiff, Nat.reduceBEq, undef, (stA), Nat.reduceMul]; try simp (disch := omega) only [(vmp)])
              refine ⟨by unfold maxRoom; omega, (j + 2, [10]), ⟨by simp only; omega, by simp only; omega, by simp only [List.length_cons, List.length_nil]; omega, ?_⟩, by simp only; omega, by (simp [rA]; try omega), by simp [rE, byteAV, intV]⟩
              exact fin 10 hc
            · (simp only [rA, rE, (vmA), Nat.reduceEqDiff, reduceIte, Nat.reduceAdd, Int.reduceToNat, Int.reduceLE, Int.reduceLT, Int.reduceEq, Int.reduceNe, Int.reduceAdd, Int.reduceSub, Int.reduceNeg, Nat.reduceLT, Nat.reduceLeDiff, Nat.reduceBEq, undef, (stA), Nat.reduceMul]; try simp (disch := omega) only [(vmp)])
              simp only [List.length_cons] at ha
              refine ⟨by unfold maxRoom; omega, (j + 2, (a :: r) ++ [10]), ⟨by simp only; omega, by simp only; omega, by simp only [List.length_cons, List.length_append, List.length_nil]; omega, ?_⟩, by simp only; omega, by (simp [rA]; try omega), by simp [rE, byteAV, intV]⟩
              exact fin 10 hc
          · rw [if_neg p1] at hc
            have n5 : ¬ (d.toNat : Int) = 110 := fun e => p1 ((u8_eq d 110 (by omega)).1 e)
            (simp only [n5, (vmA), Nat.reduceEqDiff, reduceIte, Nat.reduceAdd, Int.reduceToNat, Int.reduceLE, Int.reduceLT, Int.reduceEq, Int.reduceNe, Int.reduceAdd, Int.reduceSub, Int.reduceNeg, Nat.reduceLT, Nat.reduceLeDiff, Nat.reduceBEq, undef, (stA), Nat.reduceMul]; try simp (disch := omega) only [(vmp)])
            (simp only [q4, (vmA), Nat.reduceEqDiff, reduceIte, Nat.reduceAdd, Int.reduceToNat, Int.reduceLE, Int.reduceLT, Int.reduceEq, Int.reduceNe, Int.reduceAdd, Int.reduceSub, Int.reduceNeg, Nat.reduceLT, Nat.reduceLeDiff, Nat.reduceBEq, undef, (stA), Nat.reduceMul]; try simp (disch := omega) only [(vmp)])
            refine ⟨by omega, ?_⟩
            simp only [hdd]
            by_cases p2 : (d.toNat : Int) = 34
            · have p2' : d = 34 := (u8_eq d 34 (by omega)).1 p2
              rw [if_pos (.inl p2')] at hc
              (simp only [p2, (vmA), Nat.reduceEqDiff, reduceIte, Nat.reduceAdd, Int.reduceToNat, Int.reduceLE, Int.reduceLT, Int.reduceEq, Int.reduceNe, Int.reduceAdd, Int.reduceSub, Int.reduceNeg, Nat.reduceLT, Nat.reduceLeDiff, Nat.reduceBEq, undef, (stA), Nat.reduceMul]; try simp (disch := omega) only [(vmp)])
              refine ⟨by omega, ?_⟩
              simp only [hdd]
              rcases acc with _ | ⟨a, r⟩
              · (simp only [rA, rE, (vmA), Nat.reduceEqDiff, reduceIte, Nat.reduceAdd, Int.reduceToNat, Int.reduceLE, Int.reduceLT, Int.reduceEq, Int.reduceNe, Int.reduceAdd, Int.reduceSub, Int.reduceNeg, Nat.reduceLT, Nat.reduceLeDiff, Nat.reduceBEq, undef, (stA), Nat.reduceMul]; try simp (disch := omega) only [(vmp)])
                refine ⟨by unfold maxRoom; omega, (j + 2, [d]), ⟨by simp only; omega, by simp only; omega, by simp only [List.length_cons, List.length_nil]; omega, ?_⟩, by simp only; omega, by (simp [rA]; try omega), by simp [rE, byteAV, intV]⟩
                exact fin d hc
              · (simp only [rA, rE, (vmA), Nat.reduceEqDiff, reduceIte, Nat.reduceAdd, Int.reduceToNat, Int.reduceLE, Int.reduceLT, Int.reduceEq, Int.reduceNe, Int.reduceAdd, Int.reduceSub, Int.reduceNeg, Nat.reduceLT, Nat.reduceLeDiff, Nat.reduceBEq, undef, (stA), Nat.reduceMul]; try simp (disch := omega) only [(vmp)])
                simp only [List.length_cons] at ha
                refine ⟨by unfold maxRoom; omega, (j + 2, (a :: r) ++ [d]), ⟨by simp only; omega, by simp only; omega, by simp only [List.length_cons, List.length_append, List.length_nil]; omega, ?_⟩, by simp only; omega, by (simp [rA]; try omega), by simp [rE, byteAV, intV]⟩
                exact fin d hc
            · have p2' : d ≠ 34 := fun e => p2 ((u8_eq d 34 (by omega)).2 e)
              (simp only [p2, (vmA), Nat.reduceEqDiff, reduceIte, Nat.reduceAdd, Int.reduceToNat, Int.reduceLE, Int.reduceLT, Int.reduceEq, Int.reduceNe, Int.reduceAdd, Int.reduceSub, Int.reduceNeg, Nat.reduceLT, Nat.reduceLeDiff, Nat.reduceBEq, undef, (stA), Nat.reduceMul]; try simp (disch := omega) only [(vmp)])
              refine ⟨by omega, ?_⟩
              simp only [hdd]
              by_cases p3 : (d.toNat : Int) = 92
              · have p3' : d = 92 := (u8_eq d 92 (by omega)).1 p3
                rw [if_pos (.inr p3')] at hc
                (simp only [p3, (vmA), Nat.reduceEqDiff, reduceIte, Nat.reduceAdd, Int.reduceToNat, Int.reduceLE, Int.reduceLT, Int.reduceEq, Int.reduceNe, Int.reduceAdd, Int.reduceSub, Int.reduceNeg, Nat.reduceLT, Nat.reduceLeDiff, Nat.reduceBEq, undef, (stA), Nat.reduceMul]; try simp (disch := omega) only [(vmp)])
                refine ⟨by omega, ?_⟩
                simp only [hdd]
                rcases acc with _ | ⟨a, r⟩
                · (simp only [rA, rE, (vmA), Nat.reduceEqDiff, reduceIte, Nat.reduceAdd, Int.reduceToNat, Int.reduceLE, Int.reduceLT, Int.reduceEq, Int.reduceNe, Int.reduceAdd, Int.reduceSub, Int.reduceNeg, Nat.reduceLT, Nat.reduceLeDiff, Nat.reduceBEq, undef, (stA), Nat.reduceMul]; try simp (disch := omega) only [(vmp)])
                  refine ⟨by unfold maxRoom; omega, (j + 2, [d]), ⟨by simp only; omega, by simp only; omega, by simp only [List.length_cons, List.length_nil]; omega, ?_⟩, by simp only; omega, by (simp [rA]; try omega), by simp [rE, byteAV, intV]⟩
                  exact fin d hc
                · (simp only [rA, rE, (vmA), Nat.reduceEqDiff, reduceIte, Nat.reduceAdd, Int.reduceToNat, Int.reduceLE, Int.reduceLT, Int.reduceEq, Int.reduceNe, Int.reduceAdd, Int.reduceSub, Int.reduceNeg, Nat.reduceLT, Nat.reduceLeDiff, Nat.reduceBEq, undef, (stA), Nat.reduceMul]; try simp (disch := omega) only [(vmp)])
                  simp only [List.length_cons] at ha
                  refine ⟨by unfold maxRoom; omega, (j + 2, (a :: r) ++ [d]), ⟨by simp only; omega, by simp only; omega, by simp only [List.length_cons, List.length_append, List.length_nil]; omega, ?_⟩, by simp only; omega, by (simp [rA]; try omega), by simp [rE, byteAV, intV]⟩
                  exact fin d hc
              · have p3' : d ≠ 92 := fun e => p3 ((u8_eq d 92 (by omega)).2 e)
                rw [if_neg (by simp [p2', p3'])] at hc
                (simp only [p3, (vmA), Nat.reduceEqDiff, reduceIte, Nat.reduceAdd, Int.reduceToNat, Int.reduceLE, Int.reduceLT, Int.reduceEq, Int.reduceNe, Int.reduceAdd, Int.reduceSub, Int.reduceNeg, Nat.reduceLT, Nat.reduceLeDiff, Nat.reduceBEq, undef, (stA), Nat.reduceMul]; try simp (disch := omega) only [(vmp)])
                rw [hc]; rfl
        · (simp only [q4, (vmA), Nat.reduceEqDiff, reduceIte, Nat.reduceAdd, Int.reduceToNat, Int.reduceLE, Int.reduceLT, Int.reduceEq, Int.reduceNe, Int.reduceAdd, Int.reduceSub, Int.reduceNeg, Nat.reduceLT, Nat.reduceLeDiff, Nat.reduceBEq, undef, (stA), Nat.reduceMul]; try simp (disch := omega) only [(vmp)])
          (simp only [q4, (vmA), Nat.reduceEqDiff, reduceIte, Nat.reduceAdd, Int.reduceToNat, Int.reduceLE, Int.reduceLT, Int.reduceEq, Int.reduceNe, Int.reduceAdd, Int.reduceSub, Int.reduceNeg, Nat.reduceLT, Nat.reduceLeDiff, Nat.reduceBEq, undef, (stA), Nat.reduceMul]; try simp (disch := omega) only [(vmp)])
          rw [List.drop_of_length_le (by omega), qS_end] at hc
          rw [hc]; rfl
      · have n3 : c ≠ 92 := fun e => q3 ((u8_eq c 92 (by omega)).2 e)
        (simp only [q3, (vmA), Nat.reduceEqDiff, reduceIte, Nat.reduceAdd, Int.reduceToNat, Int.reduceLE, Int.reduceLT, Int.reduceEq, Int.reduceNe, Int.reduceAdd, Int.reduceSub, Int.reduceNeg, Nat.reduceLT, Nat.reduceLeDiff, Nat.reduceBEq, undef, (stA), Nat.reduceMul]; try simp (disch := omega) only [(vmp)])
        by_cases q5 : (c.toNat : Int) < 32
        · (simp only [q5, (vmA), Nat.reduceEqDiff, reduceIte, Nat.reduceAdd, Int.reduceToNat, Int.reduceLE, Int.reduceLT, Int.reduceEq, Int.reduceNe, Int.reduceAdd, Int.reduceSub, Int.reduceNeg, Nat.reduceLT, Nat.reduceLeDiff, Nat.reduceBEq, undef, (stA), Nat.reduceMul]; try simp (disch := omega) only [(vmp)])
          rw [qS_bad c _ n1 (by rw [← Bool.not_eq_true, btw_iff]; omega)] at hc
          rw [hc]; rfl
        · (simp only [q5, (vmA), Nat.reduceEqDiff, reduceIte, Nat.reduceAdd, Int.reduceToNat, Int.reduceLE, Int.reduceLT, Int.reduceEq, Int.reduceNe, Int.reduceAdd, Int.reduceSub, Int.reduceNeg, Nat.reduceLT, Nat.reduceLeDiff, Nat.reduceBEq, undef, (stA), Nat.reduceMul]; try simp (disch := omega) only [(vmp)])
          by_cases q6 : (126 : Int) < c.toNat
          · (simp only [q6, (vmA), Nat.reduceEqDiff, reduceIte, Nat.reduceAdd, Int.reduceToNat, Int.reduceLE, Int.reduceLT, Int.reduceEq, Int.reduceNe, Int.reduceAdd, Int.reduceSub, Int.reduceNeg, Nat.reduceLT, Nat.reduceLeDiff, Nat.reduceBEq, undef, (stA), Nat.reduceMul]; try simp (disch := omega) only [(vmp)])
            rw [qS_bad c _ n1 (by rw [← Bool.not_eq_true, btw_iff]; omega)] at hc
            rw [hc]; rfl
          · rw [qS_plain c _ n1 n3 (by rw [btw_iff]; omega)] at hc
            have fin : R = (qS (l.drop (j + 1))).map fun y => (y.1 + (j + 1 - (i + 1)), (acc ++ [c]) ++ y.2) := by
              rw [hc]; cases qS (l.drop (j + 1)) <;> simp
              omega
            (simp only [q6, (vmA), Nat.reduceEqDiff, reduceIte, Nat.reduceAdd, Int.reduceToNat, Int.reduceLE, Int.reduceLT, Int.reduceEq, Int.reduceNe, Int.reduceAdd, Int.reduceSub, Int.reduceNeg, Nat.reduceLT, Nat.reduceLeDiff, Nat.reduceBEq, undef, (stA), Nat.reduceMul]; try simp (disch := omega) only [(vmp)])
            rcases acc with _ | ⟨a, r⟩
            · (simp only [rA, rE, (vmA), Nat.reduceEqDiff, reduceIte, Nat.reduceAdd, Int.reduceToNat, Int.reduceLE, Int.reduceLT, Int.reduceEq, Int.reduceNe, Int.reduceAdd, Int.reduceSub, Int.reduceNeg, Nat.reduceLT, Nat.reduceLeDiff, Nat.reduceBEq, undef, (stA), Nat.reduceMul]; try simp (disch := omega) only [(vmp)])
              refine ⟨by unfold maxRoom; omega, (j + 1, [c]), ⟨by simp only; omega, by simp only; omega, by simp only [List.length_cons, List.length_nil]; omega, ?_⟩, by simp only; omega, by (simp [rA]; try omega), by simp [rE, byteAV, intV]⟩
              exact fin
            · (simp only [rA, rE, (vmA), Nat.reduceEqDiff, reduceIte, Nat.reduceAdd, Int.reduceToNat, Int.reduceLE, Int.reduceLT, Int.reduceEq, Int.reduceNe, Int.reduceAdd, Int.reduceSub, Int.reduceNeg, Nat.reduceLT, Nat.reduceLeDiff, Nat.reduceBEq, undef, (stA), Nat.reduceMul]; try simp (disch := omega) only [(vmp)])
              simp only [List.length_cons] at ha
              refine ⟨by unfold maxRoom; omega, (j + 1, (a :: r) ++ [c]), ⟨by simp only; omega, by simp only; omega, by simp only [List.length_cons, List.length_append, List.length_nil]; omega, ?_⟩, by simp only; omega, by (simp [rA]; try omega), by simp [rE, byteAV, intV]⟩
              exact fin
  · (simp only [h, (vmA), Nat.reduceEqDiff, reduceIte, Nat.reduceAdd, Int.reduceToNat, Int.reduceLE, Int.reduceLT, Int.reduceEq, Int.reduceNe, Int.reduceAdd, Int.reduceSub, Int.reduceNeg, Nat.reduceLT, Nat.reduceLeDiff, Nat.reduceBEq, undef, (stA), Nat.reduceMul]; try simp (disch := omega) only [(vmp)])
    rw [List.drop_of_length_le (by omega), qS] at hc
    rw [hc]; rfl
end Go.D

/- The document's token that stands at a place. -/
set_option linter.unusedVariables false
set_option linter.unusedSimpArgs false
set_option maxRecDepth 100000
namespace Go.D
open Go Go.Vm Go.Proofs Go.RowKit

set_option maxHeartbeats 4000000 in
theorem oneR_ok (l : List UInt8) (i : Nat) (hl : l.length ≤ 1099511627776) (hi : i < l.length) (σ : List Ent) : ACalls E 154 [.str l, i64 i] σ fun r τ =>
    (∃ (k t : List UInt8) (n p : Nat), r = .tup [tokA k t p, i64 n] ∧ (0 < n → p = i ∧ one (l.drop i) = some (k, t, n)) ∧ (n = 0 → one (l.drop i) = none)) ∧ τ = σ := by
  refine xacalls T0 .drop [] Tryz.func154 rfl (by kernel_rfl) (by kernel_rfl) (by simp [Tryz.ntmps154]) ?_
  have hg : ∀ j, (l.drop i).getD j 0 = l.getD (i + j) 0 := fun j => by simp [List.getD]
  have hdl : (l.drop i).length = l.length - i := List.length_drop
  have h10 : one (l.drop i) = oneR (l.drop i) := one_eq _
  have hlong := long_le _ true (l.drop i) (Nat.le_refl _)
  unfold oneR at h10
  rw [hg, hg, Nat.add_zero, hdl] at h10
  have hi' : (i : Int) < l.length := by omega
  (simp only [hi', (vmA), Nat.reduceEqDiff, reduceIte, Nat.reduceAdd, Int.reduceToNat, Int.reduceLE, Int.reduceLT, Int.reduceEq, Int.reduceNe, Int.reduceAdd, Int.reduceSub, Int.reduceNeg, Nat.reduceLT, Nat.reduceLeDiff, Nat.reduceBEq, undef, (stA), Nat.reduceMul]; try simp (disch := omega) only [(vmp)])
  refine xWait.go (small_ok _ _) ?_
  refine xOps.cut (.cut (fun ts g l' => Sub ts [(0, .str l), (1, i64 i), (4, .ref σ.length 0 0), (6, u8 (l.getD i 0).toNat), (20, boolV (letter (l.getD i 0)))] ∧ g = σ ∧ l' = [.arr 140 [.str [], .str [], i64 0] 0 0]) ?_) ?_
  · rintro ts g l' ⟨hsub, rfl, rfl⟩
    simp only [sub_cons, sub_nil, and_true] at hsub
    obtain ⟨h0, h1, h4, h6, h20⟩ := hsub
    cases hlet : letter (l.getD i 0)
    · rw [hlet] at h10 h20
      simp only [Bool.false_eq_true, if_false] at h10
      (simp only [h0, h1, h4, h6, h20, (vmA), Nat.reduceEqDiff, reduceIte, Nat.reduceAdd, Int.reduceToNat, Int.reduceLE, Int.reduceLT, Int.reduceEq, Int.reduceNe, Int.reduceAdd, Int.reduceSub, Int.reduceNeg, Nat.reduceLT, Nat.reduceLeDiff, Nat.reduceBEq, undef, (stA), Nat.reduceMul]; try simp (disch := omega) only [(vmp)])
      by_cases q1 : ((l.getD i 0).toNat : Int) = 34
      · have q1' : l.getD i 0 = 34 := (u8_eq _ 34 (by omega)).1 q1
        rw [if_pos q1', List.drop_drop] at h10
        (simp only [h0, h1, h4, h6, q1, (vmA), Nat.reduceEqDiff, reduceIte, Nat.reduceAdd, Int.reduceToNat, Int.reduceLE, Int.reduceLT, Int.reduceEq, Int.reduceNe, Int.reduceAdd, Int.reduceSub, Int.reduceNeg, Nat.reduceLT, Nat.reduceLeDiff, Nat.reduceBEq, undef, (stA), Nat.reduceMul]; try simp (disch := omega) only [(vmp)])
        refine xWait.go (quotedR_ok l i hl hi q1' _) ?_
        cases hq : qS (l.drop (i + 1)) with
        | none =>
          rw [hq] at h10
          (simp only [h0, h1, h4, h6, (vmA), Nat.reduceEqDiff, reduceIte, Nat.reduceAdd, Int.reduceToNat, Int.reduceLE, Int.reduceLT, Int.reduceEq, Int.reduceNe, Int.reduceAdd, Int.reduceSub, Int.reduceNeg, Nat.reduceLT, Nat.reduceLeDiff, Nat.reduceBEq, undef, (stA), Nat.reduceMul]; try simp (disch := omega) only [(vmp)])
          trace_state
          exact ⟨_, _, 0, i, rfl, fun e => absurd e (by omega), fun _ => h10⟩
        | some x =>
          obtain ⟨n, t⟩ := x
          rw [hq] at h10
          simp only at h10
          (simp only [h0, h1, h4, h6, (vmA), Nat.reduceEqDiff, reduceIte, Nat.reduceAdd, Int.reduceToNat, Int.reduceLE, Int.reduceLT, Int.reduceEq, Int.reduceNe, Int.reduceAdd, Int.reduceSub, Int.reduceNeg, Nat.reduceLT, Nat.reduceLeDiff, Nat.reduceBEq, undef, (stA), Nat.reduceMul]; try simp (disch := omega) only [(vmp)])
          by_cases q2 : (200 : Int) < t.length
          · rw [if_neg (by omega)] at h10
            (simp only [h0, h1, h4, h6, q2, (vmA), Nat.reduceEqDiff, reduceIte, Nat.reduceAdd, Int.reduceToNat, Int.reduceLE, Int.reduceLT, Int.reduceEq, Int.reduceNe, Int.reduceAdd, Int.reduceSub, Int.reduceNeg, Nat.reduceLT, Nat.reduceLeDiff, Nat.reduceBEq, undef, (stA), Nat.reduceMul]; try simp (disch := omega) only [(vmp)])
            exact ⟨_, _, 0, i, rfl, fun e => absurd e (by omega), fun _ => h10⟩
          · rw [if_pos (by omega)] at h10
            (simp only [h0, h1, h4, h6, q2, (vmA), Nat.reduceEqDiff, reduceIte, Nat.reduceAdd, Int.reduceToNat, Int.reduceLE, Int.reduceLT, Int.reduceEq, Int.reduceNe, Int.reduceAdd, Int.reduceSub, Int.reduceNeg, Nat.reduceLT, Nat.reduceLeDiff, Nat.reduceBEq, undef, (stA), Nat.reduceMul]; try simp (disch := omega) only [(vmp)])
            exact ⟨_, _, n + 1, i, rfl, fun _ => ⟨rfl, h10⟩, fun e => absurd e (by omega)⟩
      · have q1' : ¬ l.getD i 0 = 34 := fun e => q1 ((u8_eq _ 34 (by omega)).2 e)
        rw [if_neg q1'] at h10
        (simp only [h0, h1, h4, h6, q1, (vmA), Nat.reduceEqDiff, reduceIte, Nat.reduceAdd, Int.reduceToNat, Int.reduceLE, Int.reduceLT, Int.reduceEq, Int.reduceNe, Int.reduceAdd, Int.reduceSub, Int.reduceNeg, Nat.reduceLT, Nat.reduceLeDiff, Nat.reduceBEq, undef, (stA), Nat.reduceMul]; try simp (disch := omega) only [(vmp)])
        by_cases q2 : ((l.getD i 0).toNat : Int) = 39
        · have q2' : l.getD i 0 = 39 := (u8_eq _ 39 (by omega)).1 q2
          rw [if_pos q2'] at h10
          (simp only [h0, h1, h4, h6, q2, (vmA), Nat.reduceEqDiff, reduceIte, Nat.reduceAdd, Int.reduceToNat, Int.reduceLE, Int.reduceLT, Int.reduceEq, Int.reduceNe, Int.reduceAdd, Int.reduceSub, Int.reduceNeg, Nat.reduceLT, Nat.reduceLeDiff, Nat.reduceBEq, undef, (stA), Nat.reduceMul]; try simp (disch := omega) only [(vmp)])
          by_cases q3 : ((i + 1 : Nat) : Int) < l.length
          · (simp only [h0, h1, h4, h6, q3, (vmA), Nat.reduceEqDiff, reduceIte, Nat.reduceAdd, Int.reduceToNat, Int.reduceLE, Int.reduceLT, Int.reduceEq, Int.reduceNe, Int.reduceAdd, Int.reduceSub, Int.reduceNeg, Nat.reduceLT, Nat.reduceLeDiff, Nat.reduceBEq, undef, (stA), Nat.reduceMul]; try simp (disch := omega) only [(vmp)])
            refine ⟨by omega, ?_⟩
            refine xWait.go (small_ok _ _) ?_
            cases q4 : btw 97 (l.getD (i + 1) 0).toNat 122
            · rw [if_neg (by rw [q4]; simp)] at h10
              (simp only [h0, h1, h4, h6, (vmA), Nat.reduceEqDiff, reduceIte, Nat.reduceAdd, Int.reduceToNat, Int.reduceLE, Int.reduceLT, Int.reduceEq, Int.reduceNe, Int.reduceAdd, Int.reduceSub, Int.reduceNeg, Nat.reduceLT, Nat.reduceLeDiff, Nat.reduceBEq, undef, (stA), Nat.reduceMul]; try simp (disch := omega) only [(vmp)])
              exact ⟨_, _, 0, 0, rfl, fun e => absurd e (by omega), fun _ => h10⟩
            · rw [if_pos ⟨by omega, q4⟩] at h10
              (simp only [h0, h1, h4, h6, (vmA), Nat.reduceEqDiff, reduceIte, Nat.reduceAdd, Int.reduceToNat, Int.reduceLE, Int.reduceLT, Int.reduceEq, Int.reduceNe, Int.reduceAdd, Int.reduceSub, Int.reduceNeg, Nat.reduceLT, Nat.reduceLeDiff, Nat.reduceBEq, undef, (stA), Nat.reduceMul]; try simp (disch := omega) only [(vmp)])
              refine ⟨by omega, ?_⟩
              exact ⟨_, _, 2, i, rfl, fun _ => ⟨rfl, h10⟩, fun e => absurd e (by omega)⟩
          · rw [if_neg (by omega)] at h10
            (simp only [h0, h1, h4, h6, q3, (vmA), Nat.reduceEqDiff, reduceIte, Nat.reduceAdd, Int.reduceToNat, Int.reduceLE, Int.reduceLT, Int.reduceEq, Int.reduceNe, Int.reduceAdd, Int.reduceSub, Int.reduceNeg, Nat.reduceLT, Nat.reduceLeDiff, Nat.reduceBEq, undef, (stA), Nat.reduceMul]; try simp (disch := omega) only [(vmp)])
            exact ⟨_, _, 0, 0, rfl, fun e => absurd e (by omega), fun _ => h10⟩
        · have q2' : ¬ l.getD i 0 = 39 := fun e => q2 ((u8_eq _ 39 (by omega)).2 e)
          rw [if_neg q2'] at h10
          (simp only [h0, h1, h4, h6, q2, (vmA), Nat.reduceEqDiff, reduceIte, Nat.reduceAdd, Int.reduceToNat, Int.reduceLE, Int.reduceLT, Int.reduceEq, Int.reduceNe, Int.reduceAdd, Int.reduceSub, Int.reduceNeg, Nat.reduceLT, Nat.reduceLeDiff, Nat.reduceBEq, undef, (stA), Nat.reduceMul]; try simp (disch := omega) only [(vmp)])
          refine xWait.go (numberR_ok l i hl hi _) ?_
          have hdle := (digits_take (l.drop i)).2
          (simp only [h0, h1, h4, h6, (vmA), Nat.reduceEqDiff, reduceIte, Nat.reduceAdd, Int.reduceToNat, Int.reduceLE, Int.reduceLT, Int.reduceEq, Int.reduceNe, Int.reduceAdd, Int.reduceSub, Int.reduceNeg, Nat.reduceLT, Nat.reduceLeDiff, Nat.reduceBEq, undef, (stA), Nat.reduceMul]; try simp (disch := omega) only [(vmp)])
          by_cases q3 : (0 : Int) < digits (l.drop i)
          · rw [if_pos (by omega)] at h10
            (simp only [h0, h1, h4, h6, q3, (vmA), Nat.reduceEqDiff, reduceIte, Nat.reduceAdd, Int.reduceToNat, Int.reduceLE, Int.reduceLT, Int.reduceEq, Int.reduceNe, Int.reduceAdd, Int.reduceSub, Int.reduceNeg, Nat.reduceLT, Nat.reduceLeDiff, Nat.reduceBEq, undef, (stA), Nat.reduceMul]; try simp (disch := omega) only [(vmp)])
            refine ⟨by omega, ?_⟩
            refine xWait.go (fitsR_ok _ (by simp; omega) (by simp; omega) _) ?_
            cases q4 : fits ((l.drop i).take (digits (l.drop i)))
            · rw [q4] at h10
              (simp only [h0, h1, h4, h6, (vmA), Nat.reduceEqDiff, reduceIte, Nat.reduceAdd, Int.reduceToNat, Int.reduceLE, Int.reduceLT, Int.reduceEq, Int.reduceNe, Int.reduceAdd, Int.reduceSub, Int.reduceNeg, Nat.reduceLT, Nat.reduceLeDiff, Nat.reduceBEq, undef, (stA), Nat.reduceMul]; try simp (disch := omega) only [(vmp)])
              exact ⟨_, _, 0, 0, rfl, fun e => absurd e (by omega), fun _ => h10⟩
            · rw [q4] at h10
              (simp only [h0, h1, h4, h6, (vmA), Nat.reduceEqDiff, reduceIte, Nat.reduceAdd, Int.reduceToNat, Int.reduceLE, Int.reduceLT, Int.reduceEq, Int.reduceNe, Int.reduceAdd, Int.reduceSub, Int.reduceNeg, Nat.reduceLT, Nat.reduceLeDiff, Nat.reduceBEq, undef, (stA), Nat.reduceMul]; try simp (disch := omega) only [(vmp)])
              refine ⟨by omega, ?_⟩
              exact ⟨_, _, digits (l.drop i), i, rfl, fun _ => ⟨rfl, h10⟩, fun e => absurd e (by omega)⟩
          · rw [if_neg (by omega)] at h10
            (simp only [h0, h1, h4, h6, q3, (vmA), Nat.reduceEqDiff, reduceIte, Nat.reduceAdd, Int.reduceToNat, Int.reduceLE, Int.reduceLT, Int.reduceEq, Int.reduceNe, Int.reduceAdd, Int.reduceSub, Int.reduceNeg, Nat.reduceLT, Nat.reduceLeDiff, Nat.reduceBEq, undef, (stA), Nat.reduceMul]; try simp (disch := omega) only [(vmp)])
            refine xWait.go (signsR_ok l i hl hi _) ?_
            have hs := (sign_len (l.drop i)).2
            rw [hs.1, List.length_take] at hs
            (simp only [h0, h1, h4, h6, (vmA), Nat.reduceEqDiff, reduceIte, Nat.reduceAdd, Int.reduceToNat, Int.reduceLE, Int.reduceLT, Int.reduceEq, Int.reduceNe, Int.reduceAdd, Int.reduceSub, Int.reduceNeg, Nat.reduceLT, Nat.reduceLeDiff, Nat.reduceBEq, undef, (stA), Nat.reduceMul]; try simp (disch := omega) only [(vmp)])
            refine ⟨by omega, ?_⟩
            refine ⟨_, _, signsN (l.drop i), i, rfl, fun e => ⟨rfl, ?_⟩, fun e => ?_⟩
            · rw [h10, if_neg (by omega)]; rfl
            · rw [h10, if_pos e]
    · rw [hlet] at h10 h20
      simp only [if_true] at h10
      (simp only [h0, h1, h4, h6, h20, (vmA), Nat.reduceEqDiff, reduceIte, Nat.reduceAdd, Int.reduceToNat, Int.reduceLE, Int.reduceLT, Int.reduceEq, Int.reduceNe, Int.reduceAdd, Int.reduceSub, Int.reduceNeg, Nat.reduceLT, Nat.reduceLeDiff, Nat.reduceBEq, undef, (stA), Nat.reduceMul]; try simp (disch := omega) only [(vmp)])
      refine xWait.go (named_ok l i hl hi hlet _) ?_
      (simp only [h0, h1, h4, h6, (vmA), Nat.reduceEqDiff, reduceIte, Nat.reduceAdd, Int.reduceToNat, Int.reduceLE, Int.reduceLT, Int.reduceEq, Int.reduceNe, Int.reduceAdd, Int.reduceSub, Int.reduceNeg, Nat.reduceLT, Nat.reduceLeDiff, Nat.reduceBEq, undef, (stA), Nat.reduceMul]; try simp (disch := omega) only [(vmp)])
      refine ⟨by omega, ?_⟩
      refine ⟨_, _, (long true (l.drop i)).1, i, rfl, fun e => ⟨rfl, ?_⟩, fun e => ?_⟩
      · rw [h10, if_neg]
        intro hk
        have := long_none true _ hk
        rw [this] at e; simp at e
      · rw [h10, if_pos]
        by_cases hk : (long true (l.drop i)).2 = []
        · exact hk
        · have := hlong.2 hk; omega
  · unfold letter
    cases h1 : btw 97 (l.getD i 0).toNat 122
    · (simp only [(vmA), Nat.reduceEqDiff, reduceIte, Nat.reduceAdd, Int.reduceToNat, Int.reduceLE, Int.reduceLT, Int.reduceEq, Int.reduceNe, Int.reduceAdd, Int.reduceSub, Int.reduceNeg, Nat.reduceLT, Nat.reduceLeDiff, Nat.reduceBEq, undef, (stA), Nat.reduceMul]; try simp (disch := omega) only [(vmp)])
      refine xWait.go (great_ok _ _) ?_
      (simp only [(vmA), Nat.reduceEqDiff, reduceIte, Nat.reduceAdd, Int.reduceToNat, Int.reduceLE, Int.reduceLT, Int.reduceEq, Int.reduceNe, Int.reduceAdd, Int.reduceSub, Int.reduceNeg, Nat.reduceLT, Nat.reduceLeDiff, Nat.reduceBEq, undef, (stA), Nat.reduceMul]; try simp (disch := omega) only [(vmp)])
    · (simp only [(vmA), Nat.reduceEqDiff, reduceIte, Nat.reduceAdd, Int.reduceToNat, Int.reduceLE, Int.reduceLT, Int.reduceEq, Int.reduceNe, Int.reduceAdd, Int.reduceSub, Int.reduceNeg, Nat.reduceLT, Nat.reduceLeDiff, Nat.reduceBEq, undef, (stA), Nat.reduceMul]; try simp (disch := omega) only [(vmp)])
end Go.D
