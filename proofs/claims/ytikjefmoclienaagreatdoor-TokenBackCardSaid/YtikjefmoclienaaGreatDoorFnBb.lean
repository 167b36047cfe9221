/- Tokens that are joined are read again. Plain lists. -/
import Derived.Test.YtikjefmoclienaaGreatDoorFnU
import Derived.Test.YtikjefmoclienaaGreatDoorFnJ
set_option linter.unusedVariables false
set_option linter.unusedSimpArgs false
set_option maxRecDepth 100000
namespace Go.D
open Go Go.Vm

/-- What stands behind a token. -/
def gap (r : List UInt8) : Prop := r = [] ∨ ∃ r', r = 32 :: r'
theorem gap_part (p : Int → Bool) (h32 : p 32 = false) : ∀ (l r : List UInt8), gap r → (l ++ r).takeWhile (pB p) = l.takeWhile (pB p)
  | [], r, h => by
    rcases h with rfl | ⟨r', rfl⟩
    · rfl
    · simp [pB, h32]
  | a :: l, r, h => by
    rw [List.cons_append, List.takeWhile_cons, List.takeWhile_cons, gap_part p h32 l r h]
theorem word_app (l r : List UInt8) (h : gap r) : word (l ++ r) = word l := by
  unfold word; rw [gap_part isPart (by decide) l r h]
theorem getD_app (l r : List UInt8) (i : Nat) (h : i < l.length) : (l ++ r).getD i 0 = l.getD i 0 := by
  simp [List.getD, List.getElem?_append_left h]
theorem getD_gap (l r : List UInt8) (h : gap r) : (l ++ r).length = l.length ∨ (l ++ r).getD l.length 0 = 32 := by
  rcases h with rfl | ⟨r', rfl⟩
  · left; simp
  · right; simp [List.getD]

theorem long_app (n : Nat) : ∀ (f : Bool) (l r : List UInt8), gap r → l.length ≤ n → ¬ (long f l).2 = [] → (long f l).1 = l.length → long f (l ++ r) = long f l := by
  induction n with
  | zero => intro f l r hr h hk; rw [long, if_pos (by omega)] at hk; exact absurd rfl hk
  | succ n ih =>
    intro f l r hr h hk hn
    have hw := word_le l
    cases hl : letter (l.getD 0 0)
    · rw [long_letter f l hl] at hk; exact absurd rfl hk
    · have hp := word_pos l hl
      have h0 : 0 < l.length := by omega
      have g0 := getD_app l r 0 h0
      have hwa := word_app l r hr
      simp only [letter, Bool.or_eq_true] at hl
      rcases hl with hl | hl
      · have e := long_small f l hl
        have hw1 : word l = l.length := by rw [← hn, e]; split <;> rfl
        rw [long_small f _ (by rw [g0]; exact hl), e, hwa, hw1, List.take_left, List.take_of_length_le (Nat.le_refl _)]
      · have e := long_great f l hl
        rw [long_great f _ (by rw [g0]; exact hl), hwa, e]
        unfold tail at e ⊢
        by_cases h1 : word l = l.length ∨ ¬ (l.getD (word l) 0).toNat = 46
        · rw [if_pos h1] at e ⊢
          have hw1 : word l = l.length := by rw [← hn, e]
          rw [if_pos]
          rcases getD_gap l r hr with q | q
          · left; rw [q]; exact hw1
          · right; rw [hw1, q]; decide
        · rw [if_neg h1] at e
          rw [not_or, Decidable.not_not] at h1
          by_cases h2 : (long false (l.drop (word l + 1))).2 = []
          · rw [if_pos h2] at e; rw [e] at hk; exact absurd rfl hk
          · rw [if_neg h2] at e
            have hd : (l ++ r).drop (word l + 1) = l.drop (word l + 1) ++ r := by
              rw [List.drop_append, show word l + 1 - l.length = 0 by omega, List.drop_zero]
            have hi := ih false (l.drop (word l + 1)) r hr (by rw [List.length_drop]; omega) h2 (by
              rw [e] at hn; simp only at hn; rw [List.length_drop]; omega)
            rw [if_neg (by rw [not_or, Decidable.not_not, getD_app _ _ _ (by omega)]; exact ⟨by simp; omega, h1.2⟩), hd, hi, if_neg h2]
            rw [if_neg (by rw [not_or, Decidable.not_not]; exact h1)]

theorem digits_app (l r : List UInt8) (hr : gap r) (hp : 0 < l.length) (h : digits l = l.length) : digits (l ++ r) = l.length := by
  have g0 := getD_app l r 0 hp
  have hneg : negB (l ++ r) = negB l := by
    by_cases h2 : 1 < l.length
    · have g1 := getD_app l r 1 h2
      unfold negB
      rw [g0, g1]
      have e1 : decide ((1 : Int) < (l ++ r).length) = true := by simp; omega
      have e2 : decide ((1 : Int) < l.length) = true := by simp; omega
      rw [e1, e2]
    · have hl1 : l.length = 1 := by omega
      have hd := digits_head l (by omega)
      have e2 : negB l = false := by unfold negB; rw [decide_eq_false (by omega), Bool.false_and]
      rw [e2]
      unfold negB
      have hn45 : ¬ ((l.getD 0 0).toNat : Int) = 45 := by
        intro e
        have : digits l = 0 := by
          have hn0 : negN l = 0 := by unfold negN; rw [e2]; rfl
          unfold digits
          rw [hn0, if_neg (by omega), if_neg]
          unfold isDig
          rw [btw_iff]; omega
        omega
      rw [g0, decide_eq_false hn45, Bool.false_and, Bool.and_false]
  have hN : negN (l ++ r) = negN l := by unfold negN; rw [hneg]
  have hle := negN_le l
  unfold digits at h ⊢
  rw [hN]
  by_cases h1 : negN l = l.length
  · rw [if_pos h1] at h; omega
  · rw [if_neg h1] at h
    rw [if_neg (by simp; omega), getD_app l r _ (by omega)]
    by_cases h2 : isDig (l.getD (negN l) 0).toNat = true
    · rw [if_pos h2] at h ⊢
      split at h
      · rename_i h3; rw [if_pos h3]; exact h
      · rename_i h3
        rw [if_neg h3, List.drop_append, show negN l - l.length = 0 by omega, List.drop_zero, gap_part isDig (by decide) _ _ hr]
        exact h
    · rw [if_neg h2] at h; omega

theorem qS_back (r : List UInt8) : ∀ t : List UInt8, t.all (pB txt) = true → qS (quoteS t ++ (34 :: r)) = some ((quoteS t).length + 1, t)
  | [], _ => by simp [quoteS, qS_q]
  | b :: t, h => by
    rw [List.all_cons, Bool.and_eq_true] at h
    have ih := qS_back r t h.2
    have e : quoteS (b :: t) = qb b ++ quoteS t := by simp [quoteS]
    rw [e, List.append_assoc]
    unfold qb
    by_cases h1 : b = 34
    · rw [if_pos h1]
      simp only [List.cons_append, List.nil_append]
      rw [qS_esc, if_neg (by decide), if_pos (.inl rfl), ih]; simp [h1]
    · rw [if_neg h1]
      by_cases h2 : b = 10
      · rw [if_pos h2]
        simp only [List.cons_append, List.nil_append]
        rw [qS_esc, if_pos rfl, ih]; simp [h2]
      · rw [if_neg h2]
        by_cases h3 : b = 92
        · rw [if_pos h3]
          simp only [List.cons_append, List.nil_append]
          rw [qS_esc, if_neg (by decide), if_pos (.inr rfl), ih]; simp [h3]
        · rw [if_neg h3]
          simp only [List.cons_append, List.nil_append]
          have hb : btw 32 b.toNat 126 = true := by
            have := h.1
            unfold pB txt at this
            simp only [Bool.or_eq_true, decide_eq_true_eq] at this
            rcases this with hh | hh
            · exact absurd ((u8_eq b 10 (by omega)).1 hh) h2
            · exact hh
          rw [qS_plain b _ h1 h3 hb, ih]; simp

theorem quoteT_app (t r : List UInt8) : quoteT t ++ r = 34 :: (quoteS t ++ (34 :: r)) := by simp [quoteT]

theorem app_take2 (c : UInt8) (r : List UInt8) (h : gap r) : ([c] ++ r).take 2 = [c] ∨ ([c] ++ r).take 2 = [c, 32] := by
  rcases h with rfl | ⟨r', rfl⟩
  · left; rfl
  · right; rfl
theorem sign_app (t r : List UInt8) (hr : gap r) (h : t ∈ signs) : sign (t ++ r) = t := by
  rw [sign_eq]
  simp only [signs, List.mem_cons, List.not_mem_nil, or_false] at h
  rcases h with rfl | rfl | rfl | rfl | rfl | rfl | rfl | rfl | rfl | rfl | rfl | rfl | rfl | rfl | rfl | rfl | rfl | rfl | rfl | rfl | rfl
  all_goals first
    | (simp; done)
    | (rcases hr with rfl | ⟨r', rfl⟩ <;> simp)

/-- A valid token, and a gap behind it. -/
theorem one_back (k t r : List UInt8) (hr : gap r) (hv : validB k t = true) : one (textS k t ++ r) = some (k, t, (textS k t).length) := by
  by_cases hk : k = kText
  · subst hk
    rw [validB_text] at hv
    unfold isTextB at hv
    rw [Bool.and_eq_true, decide_eq_true_eq] at hv
    rw [textS, if_pos rfl, quoteT_app, one_eq]
    unfold oneR
    have hg : (34 :: (quoteS t ++ (34 :: r))).getD 0 0 = 34 := rfl
    rw [hg, if_neg (by decide), if_pos rfl, List.drop_succ_cons, List.drop_zero, qS_back r t hv.1]
    simp only
    rw [if_pos hv.2]
    simp [quoteT]
  · rw [textS, if_neg hk]
    obtain ⟨h1, h2, h3⟩ := valid_one k t hk hv
    have hpos : 0 < t.length := List.length_pos_iff.2 h1
    have g0 := getD_app t r 0 hpos
    have hv0 := hv
    unfold validB at hv
    by_cases c1 : k = kName ∨ k = kCon ∨ k = kKey
    · rw [if_pos c1] at hv
      simp only [Bool.and_eq_true, decide_eq_true_eq] at hv
      have hne : ¬ (long true t).2 = [] := by rw [hv.2]; rcases c1 with rfl | rfl | rfl <;> decide
      unfold one
      rw [long_app _ true t r hr (Nat.le_refl _) hne hv.1, if_pos hne, hv.1, hv.2, List.take_left]
    · rw [if_neg c1] at hv
      by_cases c2 : k = kInt
      · rw [if_pos c2] at hv
        unfold isIntB at hv
        simp only [Bool.and_eq_true, decide_eq_true_eq] at hv
        obtain ⟨_, e2, e3⟩ := hv
        have hd := digits_head t (by omega)
        have hlet : letter (t.getD 0 0) = false := by
          cases hl : letter (t.getD 0 0)
          · rfl
          · have := letter_num _ hl
            rcases hd with hd | hd
            · rw [hd] at this; revert this; decide
            · omega
        unfold one
        rw [long_letter true _ (by rw [g0]; exact hlet), if_neg (by simp), digits_app t r hr hpos e2, if_pos hpos, List.take_left, e3, if_pos rfl, c2]
      · rw [if_neg c2, if_neg hk] at hv
        by_cases c3 : k = kVar
        · rw [if_pos c3] at hv
          simp only [Bool.and_eq_true, decide_eq_true_eq] at hv
          obtain ⟨e1, e2, e3⟩ := hv
          have g1 := getD_app t r 1 (by omega)
          rw [one_eq]
          unfold oneR
          rw [g0, g1, e2, if_neg (by decide), if_neg (by decide), if_pos rfl]
          rw [if_pos ⟨by simp; omega, e3⟩, c3]
          have : (t ++ r).take 2 = t := by rw [← e1, List.take_left]
          rw [this, e1]
        · rw [if_neg c3] at hv
          by_cases c4 : k = kSign
          · rw [if_pos c4] at hv
            have hm : t ∈ signs := by simpa using hv
            have hs := sign_app t r hr hm
            rw [c4]
            simp only [signs, List.mem_cons, List.not_mem_nil, or_false] at hm
            unfold one
            have hlet : letter ((t ++ r).getD 0 0) = false := by
              rw [g0]
              rcases hm with rfl | rfl | rfl | rfl | rfl | rfl | rfl | rfl | rfl | rfl | rfl | rfl | rfl | rfl | rfl | rfl | rfl | rfl | rfl | rfl | rfl <;> rfl
            have hdg : ¬ 0 < digits (t ++ r) := by
              have : digits (t ++ r) = 0 := by
                have hnb : negB (t ++ r) = false := by
                  unfold negB
                  rcases hm with rfl | rfl | rfl | rfl | rfl | rfl | rfl | rfl | rfl | rfl | rfl | rfl | rfl | rfl | rfl | rfl | rfl | rfl | rfl | rfl | rfl <;> rcases hr with rfl | ⟨r', rfl⟩ <;> simp [btw]
                have hn0 : negN (t ++ r) = 0 := by unfold negN; rw [hnb]; rfl
                unfold digits
                rw [hn0, if_neg (by simp; omega), if_neg]
                rw [g0]
                rcases hm with rfl | rfl | rfl | rfl | rfl | rfl | rfl | rfl | rfl | rfl | rfl | rfl | rfl | rfl | rfl | rfl | rfl | rfl | rfl | rfl | rfl <;> decide
              omega
            have h34 : ¬ (t ++ r).getD 0 0 = 34 := by
              rw [g0]
              rcases hm with rfl | rfl | rfl | rfl | rfl | rfl | rfl | rfl | rfl | rfl | rfl | rfl | rfl | rfl | rfl | rfl | rfl | rfl | rfl | rfl | rfl <;> decide
            have h39 : ¬ (t ++ r).getD 0 0 = 39 := by
              rw [g0]
              rcases hm with rfl | rfl | rfl | rfl | rfl | rfl | rfl | rfl | rfl | rfl | rfl | rfl | rfl | rfl | rfl | rfl | rfl | rfl | rfl | rfl | rfl <;> decide
            rw [long_letter true _ hlet, if_neg (by simp), if_neg hdg, if_neg h34, if_neg (by rintro ⟨_, h, _⟩; exact h39 h), hs, if_neg h1]
          · rw [if_neg c4] at hv; cases hv

theorem one_space (l : List UInt8) (h : l.getD 0 0 = 32 ∨ l.getD 0 0 = 9 ∨ l.getD 0 0 = 10) : one l = none := by
  rw [one_eq]
  unfold oneR
  have hl : letter (l.getD 0 0) = false := by rcases h with h | h | h <;> rw [h] <;> rfl
  rw [if_neg (by rw [hl]; simp), if_neg (by rcases h with h | h | h <;> rw [h] <;> decide), if_neg (by rcases h with h | h | h <;> rw [h] <;> decide)]
  have hd : ¬ 0 < digits l := fun hh => by
    rcases digits_head l hh with hd | hd
    · rw [hd] at h; revert h; decide
    · rcases h with h | h | h <;> rw [h] at hd <;> revert hd <;> decide
  rw [if_neg hd, if_pos]
  have := (sign_len l).1
  rw [← this, sign_eq, if_neg, if_neg]
  · rcases h with h | h | h <;> rw [h] <;> decide
  · rcases l with _ | ⟨a, _ | ⟨b, r⟩⟩
    · simp
    · simp
    · simp only [List.getD_cons_zero] at h
      rcases h with rfl | rfl | rfl <;> simp

/-- The tokens of texts with spaces between them, from a place on. -/
def placed (p : Nat) : List (List UInt8 × List UInt8) → List Tok
  | [] => []
  | x :: r => (x.1, x.2, p) :: placed (p + (textS x.1 x.2).length + 1) r
theorem toks_back : ∀ (ts : List (List UInt8 × List UInt8)) (p : Nat), (∀ x ∈ ts, validB x.1 x.2 = true) → toks p (joinS (ts.map fun x => textS x.1 x.2)) = some (placed p ts)
  | [], p, _ => toks_nil p
  | x :: ts, p, h => by
    have hv := h x (by simp)
    have hts := fun y hy => h y (List.mem_cons_of_mem _ hy)
    generalize hr : (ts.map fun x => textS x.1 x.2).flatMap (fun y => 32 :: y) = r
    have hgap : gap r := by
      rcases ts with _ | ⟨y, ts⟩
      · left; rw [← hr]; rfl
      · right; rw [← hr]; exact ⟨_, rfl⟩
    have ho := one_back x.1 x.2 r hgap hv
    rw [List.map_cons, joinS, hr]
    have hne : ¬ textS x.1 x.2 = [] := fun e => by
      have := one_le _ _ _ _ ho
      rw [e] at this; simp at this
    have hpos : 0 < (textS x.1 x.2).length := List.length_pos_iff.2 hne
    rw [toks_one p _ x.1 x.2 (textS x.1 x.2).length (by rw [List.length_append]; omega) (fun hs => by rw [one_space _ hs] at ho; cases ho) ?_ ho, List.drop_left]
    · rcases ts with _ | ⟨y, ts⟩
      · rw [← hr]; simp [toks_nil, placed]
      · have e : r = 32 :: joinS ((y :: ts).map fun x => textS x.1 x.2) := by rw [← hr]; rfl
        rw [e, toks_space _ _ _ (.inl rfl), toks_back (y :: ts) _ hts]
        rfl
    · intro hc
      by_cases hk : x.1 = kText
      · rw [textS, if_pos hk, quoteT_app] at hc; simp at hc
      · rw [textS, if_neg hk] at hc hpos
        obtain ⟨_, h2, _⟩ := valid_one x.1 x.2 hk hv
        rcases hx : x.2 with _ | ⟨a, _ | ⟨b, q⟩⟩
        · rw [hx] at hpos; simp at hpos
        · rw [hx] at hc
          rcases app_take2 a r hgap with q | q <;> rw [q] at hc <;> simp at hc
        · rw [hx] at hc h2
          have : Lib.hasPrefix (a :: b :: q) [40, 42] = true := (prefix_take _).2 (by simpa using hc)
          rw [this] at h2; cases h2
end Go.D
