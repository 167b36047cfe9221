/- A token that was read is valid, and its text stands where it was read. Plain lists. -/
import Derived.Test.YtikjefmoclienaaGreatDoorFnV
set_option linter.unusedVariables false
set_option linter.unusedSimpArgs false
set_option maxRecDepth 100000
namespace Go.D
open Go Go.Vm

theorem word_take : ∀ (l : List UInt8) (k : Nat), word l ≤ k → word (l.take k) = word l
  | [], k, _ => by simp
  | a :: l, 0, h => by
    have : word (a :: l) = 0 := by omega
    simp only [List.take_zero, this]; rfl
  | a :: l, k + 1, h => by
    by_cases hp : pB isPart a = true
    · have e : word (a :: l) = word l + 1 := by unfold word; rw [List.takeWhile_cons, if_pos hp, List.length_cons]
      have e2 : word ((a :: l).take (k + 1)) = word (l.take k) + 1 := by unfold word; rw [List.take_succ_cons, List.takeWhile_cons, if_pos hp, List.length_cons]
      rw [e] at h
      rw [e, e2, word_take l k (by omega)]
    · have e : ∀ r, word (a :: r) = 0 := fun r => by unfold word; rw [List.takeWhile_cons, if_neg hp]; rfl
      rw [List.take_succ_cons, e, e]
theorem getD_take (l : List UInt8) (i k : Nat) (h : i < k) : (l.take k).getD i 0 = l.getD i 0 := by
  simp only [List.getD]; rw [List.getElem?_take, if_pos h]

theorem long_take (n : Nat) : ∀ (f : Bool) (l : List UInt8), l.length ≤ n → ¬ (long f l).2 = [] → long f (l.take (long f l).1) = long f l := by
  induction n with
  | zero => intro f l h hk; rw [long, if_pos (by omega)] at hk; exact absurd rfl hk
  | succ n ih =>
    intro f l h hk
    have hw := word_le l
    cases hl : letter (l.getD 0 0)
    · rw [long_letter f l hl] at hk; exact absurd rfl hk
    · have hp := word_pos l hl
      have h0 : ¬ l.length = 0 := by omega
      simp only [letter, Bool.or_eq_true] at hl
      rcases hl with hl | hl
      · have e := long_small f l hl
        have hw1 : (long f l).1 = word l := by rw [e]; split <;> rfl
        rw [hw1]
        have hg : btw 97 ((l.take (word l)).getD 0 0).toNat 122 = true := by rw [getD_take _ _ _ hp]; exact hl
        rw [long_small f _ hg, e, word_take l (word l) (Nat.le_refl _), List.take_take, Nat.min_self]
      · have e := long_great f l hl
        unfold tail at e
        by_cases h1 : word l = l.length ∨ ¬ (l.getD (word l) 0).toNat = 46
        · rw [if_pos h1] at e
          have hg : btw 65 ((l.take (word l)).getD 0 0).toNat 90 = true := by rw [getD_take _ _ _ hp]; exact hl
          rw [e]
          simp only
          rw [long_great f _ hg]
          unfold tail
          rw [word_take l (word l) (Nat.le_refl _), if_pos (.inl (by simp; omega))]
        · rw [if_neg h1] at e
          by_cases h2 : (long false (l.drop (word l + 1))).2 = []
          · rw [if_pos h2] at e; rw [e] at hk; exact absurd rfl hk
          · rw [if_neg h2] at e
            have hd := ih false (l.drop (word l + 1)) (by rw [List.length_drop]; omega) h2
            have hle := long_le _ false (l.drop (word l + 1)) (Nat.le_refl _)
            rw [List.length_drop] at hle
            rw [not_or, Decidable.not_not] at h1
            obtain ⟨h3, h4⟩ := h1
            have h5 := hle.2 h2
            generalize hm : (long false (l.drop (word l + 1))).1 = m at *
            rw [e]
            simp only
            have hg : btw 65 ((l.take (word l + 1 + m)).getD 0 0).toNat 90 = true := by rw [getD_take _ _ _ (by omega)]; exact hl
            rw [long_great f _ hg]
            unfold tail
            rw [word_take l _ (by omega), getD_take _ _ _ (by omega), if_neg (by
              rw [not_or, Decidable.not_not]; refine ⟨?_, h4⟩; simp; omega)]
            have hdt : (l.take (word l + 1 + m)).drop (word l + 1) = (l.drop (word l + 1)).take m := by rw [List.drop_take]; congr 1; omega
            rw [hdt, hd, if_neg h2, hm]

theorem long_kind (f : Bool) (l : List UInt8) : (long f l).2 = [] ∨ (long f l).2 = kName ∨ (long f l).2 = kCon ∨ (long f l).2 = kKey := by
  suffices h : ∀ (n : Nat) (f : Bool) (l : List UInt8), l.length ≤ n → (long f l).2 = [] ∨ (long f l).2 = kName ∨ (long f l).2 = kCon ∨ (long f l).2 = kKey from h _ f l (Nat.le_refl _)
  intro n
  induction n with
  | zero => intro f l h; rw [long, if_pos (by omega)]; exact .inl rfl
  | succ n ih =>
    intro f l h
    rw [long]
    split
    · exact .inl rfl
    split
    · split
      · exact .inr (.inr (.inr rfl))
      · exact .inr (.inl rfl)
    split
    · split
      · exact .inr (.inr (.inl rfl))
      split
      · exact .inl rfl
      · exact ih false _ (by rw [List.length_drop]; omega)
    · exact .inl rfl

/-- A quoted text, quoted again. -/
theorem qS_quote (m : Nat) : ∀ (l : List UInt8), l.length ≤ m → ∀ n t, qS l = some (n, t) → l.take n = quoteS t ++ [34] := by
  induction m with
  | zero => intro l h n t e; have : l = [] := by simpa using h
            subst this; cases e
  | succ m ih =>
    intro l h n t e
    rcases l with _ | ⟨a, r⟩
    · cases e
    · simp only [List.length_cons] at h
      by_cases h1 : a = 34
      · subst h1
        rw [qS_q] at e
        simp at e; obtain ⟨rfl, rfl⟩ := e; rfl
      by_cases h2 : a = 92
      · subst h2
        rcases r with _ | ⟨b, r⟩
        · rw [qS_end] at e; cases e
        · rw [qS_esc] at e
          simp only [List.length_cons] at h
          by_cases h3 : b = 110
          · rw [if_pos h3] at e
            cases hq : qS r with
            | none => rw [hq] at e; cases e
            | some x =>
              obtain ⟨n', t'⟩ := x
              have := ih r (by omega) _ _ hq
              rw [hq] at e; simp at e; obtain ⟨rfl, rfl⟩ := e
              rw [List.take_succ_cons, List.take_succ_cons, this, h3]; rfl
          rw [if_neg h3] at e
          by_cases h4 : b = 34 ∨ b = 92
          · rw [if_pos h4] at e
            cases hq : qS r with
            | none => rw [hq] at e; cases e
            | some x =>
              obtain ⟨n', t'⟩ := x
              have := ih r (by omega) _ _ hq
              rw [hq] at e; simp at e; obtain ⟨rfl, rfl⟩ := e
              rw [List.take_succ_cons, List.take_succ_cons, this]
              rcases h4 with rfl | rfl <;> rfl
          · rw [if_neg h4] at e; cases e
      · cases hb : btw 32 a.toNat 126
        · rw [qS_bad a r h1 hb] at e; cases e
        · rw [qS_plain a r h1 h2 hb] at e
          cases hq : qS r with
          | none => rw [hq] at e; cases e
          | some x =>
            obtain ⟨n', t'⟩ := x
            have := ih r (by omega) _ _ hq
            rw [hq] at e; simp at e; obtain ⟨rfl, rfl⟩ := e
            rw [List.take_succ_cons, this]
            have h10 : ¬ a = 10 := fun e => by rw [e] at hb; revert hb; decide
            simp [quoteS, qb, h1, h2, h10]

theorem sign_mem (l : List UInt8) (h : ¬ sign l = []) : sign l ∈ signs := by
  rw [sign_eq] at h ⊢
  split
  · rename_i h1
    rcases h1 with h1 | h1 | h1 | h1 <;> rw [h1] <;> decide
  · rename_i h0
    rw [if_neg h0] at h
    split
    · rename_i h1
      rcases l with _ | ⟨a, r⟩
      · simp at h1
      · simp only [List.take_succ_cons, List.take_zero, List.getD_cons_zero] at h1 ⊢
        simp only [List.mem_cons, List.not_mem_nil, or_false] at h1
        rcases h1 with rfl | rfl | rfl | rfl | rfl | rfl | rfl | rfl | rfl | rfl | rfl | rfl | rfl | rfl | rfl | rfl | rfl <;> decide
    · rename_i h1; rw [if_neg h1] at h; exact absurd rfl h

theorem validB_int (t : List UInt8) : validB kInt t = isIntB t := by unfold validB; rw [if_neg (by decide), if_pos rfl]
theorem validB_text (t : List UInt8) : validB kText t = isTextB t := by unfold validB; rw [if_neg (by decide), if_neg (by decide), if_pos rfl]
theorem validB_var (t : List UInt8) : validB kVar t = (decide (t.length = 2) && (decide (t.getD 0 0 = 39) && btw 97 (t.getD 1 0).toNat 122)) := by unfold validB; rw [if_neg (by decide), if_neg (by decide), if_neg (by decide), if_pos rfl]
theorem validB_sign (t : List UInt8) : validB kSign t = decide (t ∈ signs) := by unfold validB; rw [if_neg (by decide), if_neg (by decide), if_neg (by decide), if_neg (by decide), if_pos rfl]

theorem one_valid (l k t : List UInt8) (n : Nat) (h : one l = some (k, t, n)) : validB k t = true ∧ textS k t = l.take n := by
  unfold one at h
  by_cases h1 : (long true l).2 = []
  · rw [if_neg (by simp [h1])] at h
    by_cases h2 : 0 < digits l
    · rw [if_pos h2] at h
      cases hf : fits (l.take (digits l))
      · rw [hf] at h; simp at h
      · rw [hf] at h
        simp only [if_true, Option.some.injEq, Prod.mk.injEq] at h
        obtain ⟨rfl, rfl, rfl⟩ := h
        obtain ⟨d1, d2⟩ := digits_take l
        have e1 : (l.take (digits l)).length = digits l := by simp; omega
        have e2 : ¬ l.take (digits l) = [] := fun e => by rw [e] at e1; simp at e1; omega
        refine ⟨?_, by rw [textS, if_neg (by decide)]⟩
        rw [validB_int]
        simp [isIntB, d1, e1, e2, hf]
    rw [if_neg h2] at h
    by_cases h3 : l.getD 0 0 = 34
    · rw [if_pos h3] at h
      obtain ⟨r, rfl⟩ : ∃ r, l = 34 :: r := by
        rcases l with _ | ⟨a, r⟩
        · simp at h3
        · exact ⟨r, by simp at h3; rw [h3]⟩
      simp only [List.drop_succ_cons, List.drop_zero] at h
      cases hq : qS r with
      | none => rw [hq] at h; simp at h
      | some x =>
        obtain ⟨n', t'⟩ := x
        rw [hq] at h
        simp only at h
        by_cases h4 : t'.length ≤ 200
        · rw [if_pos h4] at h
          simp only [Option.some.injEq, Prod.mk.injEq] at h
          obtain ⟨rfl, rfl, rfl⟩ := h
          refine ⟨?_, ?_⟩
          · rw [validB_text, isTextB, qS_txt _ r (Nat.le_refl _) n' t' hq]; simpa using h4
          · rw [textS, if_pos rfl, List.take_succ_cons, qS_quote _ r (Nat.le_refl _) n' t' hq]; rfl
        · rw [if_neg h4] at h; cases h
    rw [if_neg h3] at h
    by_cases h4 : 1 < l.length ∧ l.getD 0 0 = 39 ∧ btw 97 (l.getD 1 0).toNat 122 = true
    · rw [if_pos h4] at h
      simp only [Option.some.injEq, Prod.mk.injEq] at h
      obtain ⟨rfl, rfl, rfl⟩ := h
      refine ⟨?_, by rw [textS, if_neg (by decide)]⟩
      rw [validB_var, getD_take _ _ _ (by omega), getD_take _ _ _ (by omega), h4.2.1, h4.2.2]
      have : (l.take 2).length = 2 := by simp; omega
      rw [this]; rfl
    rw [if_neg h4] at h
    by_cases h5 : sign l = []
    · rw [if_pos h5] at h; cases h
    · rw [if_neg h5] at h
      simp only [Option.some.injEq, Prod.mk.injEq] at h
      obtain ⟨rfl, rfl, rfl⟩ := h
      refine ⟨by rw [validB_sign]; simpa using sign_mem l h5, ?_⟩
      rw [textS, if_neg (by decide)]
      obtain ⟨_, s2, s3⟩ := sign_len l
      rw [s3]; exact s2
  · rw [if_pos (by simp [h1])] at h
    simp only [Option.some.injEq, Prod.mk.injEq] at h
    obtain ⟨rfl, rfl, rfl⟩ := h
    have hk := (long_kind true l).resolve_left h1
    have hlt := long_take _ true l (Nat.le_refl _) h1
    have hle := (long_le _ true l (Nat.le_refl _)).1
    refine ⟨?_, ?_⟩
    · unfold validB
      rw [if_pos hk, hlt]
      have : (l.take (long true l).1).length = (long true l).1 := by simp; omega
      rw [this]; simp
    · rw [textS, if_neg (by rcases hk with hk | hk | hk <;> rw [hk] <;> decide)]

/-- Tokens stand one behind the other, each where its text stands. -/
def whereP (text : List UInt8) : Nat → List Tok → Prop
  | _, [] => True
  | e, x :: r => validB x.1 x.2.1 = true ∧ e ≤ x.2.2 ∧ x.2.2 + (textS x.1 x.2.1).length ≤ text.length ∧ (text.drop x.2.2).take (textS x.1 x.2.1).length = textS x.1 x.2.1 ∧ whereP text (x.2.2 + (textS x.1 x.2.1).length) r
theorem whereP_le {text : List UInt8} {e e' : Nat} {ts : List Tok} (h : e' ≤ e) (hw : whereP text e ts) : whereP text e' ts := by
  cases ts with
  | nil => trivial
  | cons x r => obtain ⟨h1, h2, h3⟩ := hw; exact ⟨h1, by omega, h3⟩
theorem toks_where (text : List UInt8) (n : Nat) : ∀ (a : Nat) (ts : List Tok), a ≤ text.length → text.length - a ≤ n → toks a (text.drop a) = some ts → whereP text a ts := by
  induction n with
  | zero =>
    intro a ts ha hn h
    rw [List.drop_of_length_le (by omega), toks_nil] at h
    simp at h; subst h; trivial
  | succ n ih =>
    intro a ts ha hn h
    rw [toks] at h
    have hdl : (text.drop a).length = text.length - a := List.length_drop
    by_cases h0 : (text.drop a).length = 0
    · rw [if_pos h0] at h; simp at h; subst h; trivial
    rw [if_neg h0] at h
    split at h
    · rw [List.drop_drop] at h
      exact whereP_le (by omega) (ih (a + 1) ts (by omega) (by omega) h)
    split at h
    · cases hc : cs 1 ((text.drop a).drop 2) with
      | none => rw [hc] at h; cases h
      | some m =>
        rw [hc] at h
        simp only at h
        have hcl := cs_len _ _ (Nat.le_refl _) _ _ hc
        simp only [List.length_drop] at hcl
        rw [List.drop_drop] at h
        exact whereP_le (by omega) (ih (a + (m + 2)) ts (by omega) (by omega) h)
    · cases ho : one (text.drop a) with
      | none => rw [ho] at h; cases h
      | some x =>
        obtain ⟨k, t, m⟩ := x
        rw [ho] at h
        simp only at h
        split at h
        · cases h
        · rename_i hm
          obtain ⟨o1, o2, o3⟩ := one_le _ _ _ _ ho
          obtain ⟨v1, v2⟩ := one_valid _ _ _ _ ho
          have hlen : (textS k t).length = m := by rw [v2]; simp; omega
          cases hr : toks (a + m) ((text.drop a).drop m) with
          | none => rw [hr] at h; cases h
          | some ts' =>
            rw [hr] at h
            simp at h; subst h
            rw [List.drop_drop] at hr
            have hi := ih (a + m) ts' (by omega) (by omega) hr
            refine ⟨v1, Nat.le_refl _, ?_, ?_, ?_⟩
            · simp only; rw [hlen]; omega
            · simp only; rw [hlen]; exact v2.symm
            · simp only; rw [hlen]; exact hi

def endAt (ts : List Tok) (i : Nat) : Nat := match i with
  | 0 => 0
  | i + 1 => (ts.getD i ([], [], 0)).2.2 + (textS (ts.getD i ([], [], 0)).1 (ts.getD i ([], [], 0)).2.1).length
theorem whereP_at (text : List UInt8) : ∀ (ts : List Tok) (e : Nat), whereP text e ts → ∀ i, i < ts.length → validB (ts.getD i ([], [], 0)).1 (ts.getD i ([], [], 0)).2.1 = true ∧
    (if i = 0 then e else endAt ts i) ≤ (ts.getD i ([], [], 0)).2.2 ∧ (ts.getD i ([], [], 0)).2.2 + (textS (ts.getD i ([], [], 0)).1 (ts.getD i ([], [], 0)).2.1).length ≤ text.length ∧
    (text.drop (ts.getD i ([], [], 0)).2.2).take (textS (ts.getD i ([], [], 0)).1 (ts.getD i ([], [], 0)).2.1).length = textS (ts.getD i ([], [], 0)).1 (ts.getD i ([], [], 0)).2.1
  | [], e, h, i, hi => by simp at hi
  | x :: r, e, h, 0, hi => by
    obtain ⟨h1, h2, h3, h4, h5⟩ := h
    exact ⟨h1, h2, h3, h4⟩
  | x :: r, e, h, i + 1, hi => by
    obtain ⟨h1, h2, h3, h4, h5⟩ := h
    obtain ⟨k1, k2, k3⟩ := whereP_at text r _ h5 i (by simpa using hi)
    refine ⟨k1, ?_, k3⟩
    rw [if_neg (by omega)]
    cases i with
    | zero => exact k2
    | succ i => rw [if_neg (by omega)] at k2; exact k2
theorem textS_len (k t : List UInt8) : t.length ≤ (textS k t).length := by
  unfold textS quoteT
  split
  · have := quoteS_len t
    simp; omega
  · exact Nat.le_refl _
end Go.D
