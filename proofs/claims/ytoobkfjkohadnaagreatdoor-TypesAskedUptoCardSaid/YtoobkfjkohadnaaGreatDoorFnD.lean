/- Numbers: what fits 64 bits, by its digits and by its value. Plain lists. -/
import Derived.Test.YtoobkfjkohadnaaGreatDoorFnA
import Derived.Lib.ParseIntB
import GoSem.Op.String
import Derived.Lib.LastIndexByte
import Derived.Lib.Bytealg
set_option linter.unusedVariables false
set_option linter.unusedSimpArgs false
set_option maxRecDepth 100000
namespace Go.D
open Go

/-- Whether a byte is a digit. -/
def digP (c : UInt8) : Prop := 48 ≤ c.toNat ∧ c.toNat ≤ 57
/-- The value of digits behind others. -/
def val (acc : Nat) (l : List UInt8) : Nat := l.foldl (fun a c => a * 10 + (c.toNat - 48)) acc
theorem val_nil (acc : Nat) : val acc [] = acc := rfl
theorem val_cons (acc : Nat) (c : UInt8) (r : List UInt8) : val acc (c :: r) = val (acc * 10 + (c.toNat - 48)) r := by unfold val; rw [List.foldl_cons]
theorem val_acc (l : List UInt8) : ∀ acc : Nat, val acc l = acc * 10 ^ l.length + val 0 l := by
  induction l with
  | nil => intro acc; rw [val_nil, val_nil, List.length_nil, Nat.pow_zero, Nat.mul_one, Nat.add_zero]
  | cons c r ih =>
    intro acc
    rw [val_cons, val_cons, ih, ih (0 * 10 + _), List.length_cons, Nat.pow_succ, Nat.add_mul, Nat.zero_mul, Nat.zero_add, Nat.mul_assoc, Nat.mul_comm 10]
    omega
theorem val_lt : ∀ (l : List UInt8), (∀ c ∈ l, digP c) → val 0 l < 10 ^ l.length
  | [], _ => by simp [val_nil]
  | c :: r, h => by
    have h1 := val_lt r fun c hc => h c (by simp [hc])
    have h2 := h c (by simp)
    unfold digP at h2
    rw [val_cons, val_acc, List.length_cons, Nat.pow_succ, Nat.zero_mul, Nat.zero_add]
    have : (c.toNat - 48) * 10 ^ r.length ≤ 9 * 10 ^ r.length := Nat.mul_le_mul_right _ (by omega)
    omega
theorem val_le (l : List UInt8) (acc : Nat) : acc ≤ val acc l := by
  rw [val_acc]
  have : acc * 1 ≤ acc * 10 ^ l.length := Nat.mul_le_mul_left _ (Nat.pos_of_ne_zero (by simp))
  omega

theorem parse_val : ∀ (l : List UInt8) (acc : Nat), acc ≤ 18446744073709551615 → (∀ c ∈ l, digP c) →
    Lib.parseUintM 18446744073709551615 acc l = if val acc l ≤ 18446744073709551615 then .ok (val acc l) else .range
  | [], acc, ha, _ => by simp [val_nil, Lib.parseUintM, ha]
  | c :: r, acc, ha, h => by
    have h2 := h c (by simp)
    have h3 := val_le r (acc * 10 + (c.toNat - 48))
    rw [Lib.parseUintM, if_pos (by simpa [digP] using h2), val_cons]
    by_cases h4 : 1844674407370955162 ≤ acc
    · rw [if_pos h4, if_neg (by omega)]
    · rw [if_neg h4]
      by_cases h5 : 18446744073709551615 < acc * 10 + (c.toNat - 48)
      · rw [if_pos h5, if_neg (by omega)]
      · rw [if_neg h5, parse_val r _ (by omega) fun c hc => h c (by simp [hc])]

/-- Of as many digits, the order of texts is that of values. -/
theorem less_val : ∀ (a b : List UInt8), a.length = b.length → (∀ c ∈ a, digP c) → (∀ c ∈ b, digP c) → (Op.bytesLess a b = true ↔ val 0 a < val 0 b)
  | [], [], _, _, _ => by simp [Op.bytesLess, val_nil]
  | a :: x, b :: y, hl, ha, hb => by
    have h1 := val_lt x fun c hc => ha c (by simp [hc])
    have h2 := val_lt y fun c hc => hb c (by simp [hc])
    have h3 := ha a (by simp)
    have h4 := hb b (by simp)
    have hl' : x.length = y.length := by simpa using hl
    have ih := less_val x y hl' (fun c hc => ha c (by simp [hc])) (fun c hc => hb c (by simp [hc]))
    unfold digP at h3 h4
    rw [val_cons, val_cons, val_acc x, val_acc y, hl']
    rw [hl'] at h1
    have e1 : a.toNat = b.toNat → a = b := fun h => UInt8.toNat_inj.1 h
    simp only [Op.bytesLess, Bool.or_eq_true, decide_eq_true_eq, Bool.and_eq_true, beq_iff_eq, ih, UInt8.lt_iff_toNat_lt]
    generalize hp : 10 ^ y.length = p at *
    rcases Nat.lt_trichotomy a.toNat b.toNat with h5 | h5 | h5
    · refine ⟨fun _ => ?_, fun _ => .inl h5⟩
      have : (0 * 10 + (a.toNat - 48) + 1) * p ≤ (0 * 10 + (b.toNat - 48)) * p := Nat.mul_le_mul_right _ (by omega)
      rw [Nat.add_mul] at this
      omega
    · have := e1 h5
      subst this
      refine ⟨fun h => ?_, fun h => .inr ⟨rfl, by omega⟩⟩
      rcases h with h | h
      · omega
      · omega
    · refine ⟨fun h => ?_, fun h => ?_⟩
      · rcases h with h | h
        · omega
        · rw [h.1] at h5; omega
      · have : (0 * 10 + (b.toNat - 48) + 1) * p ≤ (0 * 10 + (a.toNat - 48)) * p := Nat.mul_le_mul_right _ (by omega)
        rw [Nat.add_mul] at this
        omega
  | [], _ :: _, h, _, _ => by simp at h
  | _ :: _, [], h, _, _ => by simp at h

def most (neg : Bool) : List UInt8 := [57, 50, 50, 51, 51, 55, 50, 48, 51, 54, 56, 53, 52, 55, 55, 53, 56, 48, if neg then 56 else 55]
/-- Whether digits are no more than the greatest ones. -/
def fitsD (neg : Bool) (d : List UInt8) : Bool := decide (d.length < 19) || (decide (d.length = 19) && !Op.bytesLess (most neg) d)

theorem fitsD_iff (neg : Bool) (d : List UInt8) (hd : ∀ c ∈ d, digP c) (h0 : d.getD 0 0 = 48 → d.length < 2) :
    fitsD neg d = true ↔ val 0 d ≤ if neg then 9223372036854775808 else 9223372036854775807 := by
  have hm : val 0 (most neg) = if neg then 9223372036854775808 else 9223372036854775807 := by cases neg <;> decide
  have hml : (most neg).length = 19 := by cases neg <;> rfl
  have hmd : ∀ c ∈ most neg, digP c := by cases neg <;> (unfold digP; decide)
  have h1 := val_lt d hd
  rcases Nat.lt_trichotomy d.length 19 with h | h | h
  · have h2 : 10 ^ d.length ≤ 10 ^ 18 := Nat.pow_le_pow_right (by omega) (by omega)
    simp only [fitsD, h, decide_true, Bool.true_or, true_iff]
    have h3 : 9223372036854775807 ≤ (if neg = true then 9223372036854775808 else 9223372036854775807 : Nat) := by split <;> omega
    have h4 : (10 : Nat) ^ 18 = 1000000000000000000 := by decide
    generalize (if neg = true then 9223372036854775808 else 9223372036854775807 : Nat) = m at *
    omega
  · have := less_val (most neg) d (by omega) hmd hd
    rw [hm] at this
    have h3 : ¬ d.length < 19 := by omega
    simp only [fitsD, h3, decide_false, Bool.false_or, h, decide_true, Bool.true_and]
    cases hb : Op.bytesLess (most neg) d <;> rw [hb] at this <;> simp at this ⊢ <;> omega
  · cases d with
    | nil => simp at h
    | cons c r =>
      have h2 : c ≠ 48 := fun e => by have := h0 (by simp [e]); omega
      have h3 := hd c (by simp)
      have h4 : c.toNat ≠ 48 := fun e => h2 (UInt8.toNat_inj.1 e)
      unfold digP at h3
      have h5 : 10 ^ 19 ≤ 10 ^ r.length := Nat.pow_le_pow_right (by omega) (by simp at h; omega)
      have h6 : 1 * 10 ^ r.length ≤ (c.toNat - 48) * 10 ^ r.length := Nat.mul_le_mul_right _ (by omega)
      have h7 : ¬ (c :: r).length < 19 := by omega
      have h8 : ¬ (c :: r).length = 19 := by omega
      simp only [fitsD, h7, h8, decide_false, Bool.false_and, Bool.or_false, Bool.false_eq_true, false_iff]
      rw [val_cons, val_acc, Nat.zero_mul, Nat.zero_add]
      split <;> omega

/-- Of a text that is digits, whether there is a sign. -/
theorem digits_shape (l : List UInt8) (h : digits l = l.length) (hn : l ≠ []) :
    ∃ d : List UInt8, d ≠ [] ∧ (∀ c ∈ d, digP c) ∧ (d.getD 0 0 = 48 → d.length < 2) ∧ (l = 45 :: d ∨ (l = d ∧ l.getD 0 0 ≠ 45)) := by
  have hlen : l.length ≠ 0 := by simpa using hn
  unfold digits at h
  split at h
  · omega
  rename_i h1
  have hle := negN_le l
  split at h
  case isFalse => omega
  rename_i h2
  have h2' : digP (l.getD (negN l) 0) := by
    simp only [isDig, btw, Bool.and_eq_true, decide_eq_true_eq] at h2
    unfold digP; omega
  have hg : (l.drop (negN l)).getD 0 0 = l.getD (negN l) 0 := by simp [List.getD]
  refine ⟨l.drop (negN l), by simp; omega, ?_, ?_, ?_⟩
  · split at h
    · have hl : (l.drop (negN l)).length = 1 := by simp; omega
      intro c hc
      obtain ⟨i, hi, rfl⟩ := List.getElem_of_mem hc
      have : i = 0 := by omega
      subst this
      have : (l.drop (negN l))[0] = l.getD (negN l) 0 := by simp [List.getD, (by omega : negN l < l.length)]
      rw [this]; exact h2'
    · have hl : ((l.drop (negN l)).takeWhile (pB isDig)).length = (l.drop (negN l)).length := by simp; omega
      have := (List.takeWhile_prefix (p := pB isDig) (l := l.drop (negN l))).eq_of_length hl
      intro c hc
      rw [← this] at hc
      have := List.all_eq_true.1 (List.all_takeWhile (p := pB isDig)) c hc
      simp only [pB, isDig, btw, Bool.and_eq_true, decide_eq_true_eq] at this
      unfold digP; omega
  · intro e
    rw [hg] at e
    rw [if_pos (by rw [e]; rfl)] at h
    simp; omega
  · unfold negN
    cases hb : negB l
    · right
      simp only [Bool.false_eq_true, if_false, List.drop_zero, true_and]
      have : negN l = 0 := by simp [negN, hb]
      rw [this] at h2'
      unfold digP at h2'
      intro e
      rw [e] at h2'
      revert h2'; decide
    · left
      simp only [if_true]
      simp only [negB, Bool.and_eq_true, decide_eq_true_eq] at hb
      cases l with
      | nil => simp at hn
      | cons a r =>
        have : a.toNat = 45 := by have := hb.2.1; simp at this; omega
        have : a = 45 := UInt8.toNat_inj.1 this
        simp [this]

def body (l : List UInt8) : List UInt8 := if l.getD 0 0 = 45 then l.drop 1 else l
/-- Whether the digits of a number are one of 64 bits. -/
def fits (l : List UInt8) : Bool := fitsD (decide (l.getD 0 0 = 45)) (body l)

theorem parse_step (l : List UInt8) (neg : Bool) (d : List UInt8) (hn : l ≠ []) (h1 : decide ((l.getD 0 0).toNat = 45) = neg) (h2 : (if (l.getD 0 0).toNat = 43 ∨ (l.getD 0 0).toNat = 45 then l.drop 1 else l) = d) (u : Nat) :
    (Lib.parseUintB 64 d = .range → Lib.parseIntB 64 l = .range) ∧
    (Lib.parseUintB 64 d = .ok u → (u ≤ if neg then 9223372036854775808 else 9223372036854775807) → ∃ v, Lib.parseIntB 64 l = .ok v) ∧
    (Lib.parseUintB 64 d = .ok u → ¬ (u ≤ if neg then 9223372036854775808 else 9223372036854775807) → Lib.parseIntB 64 l = .range) := by
  obtain ⟨c, r, rfl⟩ : ∃ c r, l = c :: r := by cases l with | nil => simp at hn | cons c r => exact ⟨c, r, rfl⟩
  simp only [List.getD_cons_zero, List.drop_succ_cons, List.drop_zero] at h1 h2
  subst h1
  rw [Lib.parseIntB]
  simp only [h2]
  refine ⟨fun h => by rw [h], fun h hu => ?_, fun h hu => ?_⟩
  all_goals rw [h]
  all_goals by_cases h3 : c.toNat = 45
  all_goals simp only [h3, decide_true, decide_false, if_true, if_false, not_true_eq_false, not_false_eq_true, true_and, false_and, Bool.false_eq_true] at hu ⊢
  · rw [if_neg (by omega)]; exact ⟨_, rfl⟩
  · rw [if_neg (by omega)]; exact ⟨_, rfl⟩
  · rw [if_pos (by omega)]
  · rw [if_pos (by omega)]

theorem parse_fits (l : List UInt8) (h : digits l = l.length) (hn : l ≠ []) :
    (fits l = true ∧ ∃ v, Lib.parseIntB 64 l = .ok v) ∨ (fits l = false ∧ Lib.parseIntB 64 l = .range) := by
  obtain ⟨d, hd0, hd, hz, hl⟩ := digits_shape l h hn
  have hp : Lib.parseUintB 64 d = if val 0 d ≤ 18446744073709551615 then .ok (val 0 d) else .range := by
    unfold Lib.parseUintB
    rw [if_neg hd0]
    exact parse_val d 0 (by decide) hd
  obtain ⟨neg, h1, h2, hf⟩ : ∃ neg, decide ((l.getD 0 0).toNat = 45) = neg ∧ (if (l.getD 0 0).toNat = 43 ∨ (l.getD 0 0).toNat = 45 then l.drop 1 else l) = d ∧ fits l = fitsD neg d := by
    rcases hl with rfl | ⟨rfl, h1⟩
    · exact ⟨true, by simp, by simp, by simp [fits, body]⟩
    · obtain ⟨c, r, rfl⟩ : ∃ c r, l = c :: r := by cases l with | nil => simp at hn | cons c r => exact ⟨c, r, rfl⟩
      have h1 : c ≠ 45 := by simpa using h1
      have h2 := hd c (by simp)
      unfold digP at h2
      have h3 : ¬ (c.toNat = 43 ∨ c.toNat = 45) := by omega
      have h4 : ¬ c.toNat = 45 := by omega
      exact ⟨false, by simp [h4], by simp [h3], by simp [fits, body, h1]⟩
  obtain ⟨k1, k2, k3⟩ := parse_step l neg d hn h1 h2 (val 0 d)
  have hiff := fitsD_iff neg d hd hz
  have hb : (if neg = true then 9223372036854775808 else 9223372036854775807 : Nat) ≤ 9223372036854775808 := by split <;> omega
  rw [hf]
  cases hv : fitsD neg d
  · refine .inr ⟨rfl, ?_⟩
    have hv' : ¬ val 0 d ≤ (if neg then 9223372036854775808 else 9223372036854775807) := fun hh => by have := hiff.2 hh; rw [hv] at this; cases this
    by_cases hu : val 0 d ≤ 18446744073709551615
    · rw [if_pos hu] at hp; exact k3 hp hv'
    · rw [if_neg hu] at hp; exact k1 hp
  · refine .inl ⟨rfl, ?_⟩
    have hv' := hiff.1 hv
    rw [if_pos (by omega)] at hp
    exact k2 hp hv'

theorem negN_take (l : List UInt8) (k : Nat) (hk : negN l < k) : negN (l.take k) = negN l := by
  have hg : ∀ i, i < k → (l.take k).getD i 0 = l.getD i 0 := fun i hi => by simp [List.getD, hi]
  have hb : negB (l.take k) = negB l := by
    by_cases h2 : 1 < k
    · unfold negB
      rw [hg 0 (by omega), hg 1 h2]
      congr 2
      rw [List.length_take]
      simp; omega
    · have : negB l = false := by
        cases hh : negB l
        · rfl
        · simp [negN, hh] at hk; omega
      rw [this]
      have : ¬ (1 : Int) < (l.take k).length := by rw [List.length_take]; omega
      simp only [negB, this, decide_false, Bool.false_and]
  unfold negN; rw [hb]

theorem takeWhile_all {p : UInt8 → Bool} : ∀ {l : List UInt8}, (∀ c ∈ l, p c = true) → l.takeWhile p = l
  | [], _ => rfl
  | a :: l, h => by rw [List.takeWhile_cons, if_pos (h a (by simp)), takeWhile_all fun c hc => h c (by simp [hc])]
theorem digits_take (l : List UInt8) : digits (l.take (digits l)) = digits l ∧ digits l ≤ l.length := by
  have hle := negN_le l
  by_cases h1 : negN l = l.length
  · have : digits l = 0 := by unfold digits; rw [if_pos h1]
    rw [this]; simp [digits, negN, negB]
  · cases h2 : isDig (l.getD (negN l) 0).toNat
    · have : digits l = 0 := by unfold digits; rw [if_neg h1, if_neg (by rw [h2]; simp)]
      rw [this]; simp [digits, negN, negB]
    · have key : ∀ k, negN l < k → k ≤ l.length → (l.take k).length = k ∧ negN (l.take k) = negN l ∧ (l.take k).getD (negN l) 0 = l.getD (negN l) 0 :=
        fun k hk hkl => ⟨by simp; omega, negN_take l k hk, by simp [List.getD, hk]⟩
      by_cases h3 : ((l.getD (negN l) 0).toNat : Int) = 48
      · have e : digits l = negN l + 1 := by unfold digits; rw [if_neg h1, if_pos h2, if_pos h3]
        obtain ⟨k1, k2, k3⟩ := key (negN l + 1) (by omega) (by omega)
        refine ⟨?_, by omega⟩
        rw [e]; unfold digits
        rw [k2, k1, k3, if_neg (by omega), if_pos h2, if_pos h3]
      · have e : digits l = negN l + ((l.drop (negN l)).takeWhile (pB isDig)).length := by unfold digits; rw [if_neg h1, if_pos h2, if_neg h3]
        have hpos : 0 < ((l.drop (negN l)).takeWhile (pB isDig)).length := by
          rw [List.drop_eq_getElem_cons (by omega : negN l < l.length), List.takeWhile_cons, if_pos (by
            have : l[negN l]'(by omega) = l.getD (negN l) 0 := by simp [List.getD, (by omega : negN l < l.length)]
            rw [this]; exact h2)]
          simp
        have hle2 : ((l.drop (negN l)).takeWhile (pB isDig)).length ≤ (l.drop (negN l)).length := (List.takeWhile_prefix _).length_le
        have hdl : (l.drop (negN l)).length = l.length - negN l := List.length_drop
        obtain ⟨k1, k2, k3⟩ := key (digits l) (by omega) (by omega)
        refine ⟨?_, by omega⟩
        generalize digits l = k at *
        unfold digits
        rw [k2, k1, k3, if_neg (by omega), if_pos h2, if_neg h3, e]
        congr 1
        rw [List.drop_take]
        have : ∀ (x : List UInt8), (x.take (x.takeWhile (pB isDig)).length).takeWhile (pB isDig) = x.takeWhile (pB isDig) := fun x => by
          rw [← (List.prefix_iff_eq_take.1 (List.takeWhile_prefix (p := pB isDig) (l := x)))]
          exact takeWhile_all fun c hc => List.all_eq_true.1 List.all_takeWhile c hc
        rw [show negN l + ((l.drop (negN l)).takeWhile (pB isDig)).length - negN l = ((l.drop (negN l)).takeWhile (pB isDig)).length by omega, this]
end Go.D

/- Comments, quoted texts, tokens. Plain lists. -/
set_option linter.unusedVariables false
set_option linter.unusedSimpArgs false
set_option maxRecDepth 100000
namespace Go.D
open Go

/-- How many bytes until a comment of a depth ends. -/
def cs (d : Nat) : List UInt8 → Option Nat
  | [] => none
  | [_] => none
  | a :: b :: r =>
    if a = 40 ∧ b = 42 then (cs (d + 1) r).map (· + 2)
    else if a = 42 ∧ b = 41 then (if d = 1 then some 2 else (cs (d - 1) r).map (· + 2))
    else (cs d (b :: r)).map (· + 1)

/-- What a quoted text means, behind its first quote, and where it ends. -/
def qS : List UInt8 → Option (Nat × List UInt8)
  | [] => none
  | [a] => if a = 34 then some (1, []) else none
  | a :: b :: r =>
    if a = 34 then some (1, [])
    else if a = 92 then
      (if b = 110 then (qS r).map fun x => (x.1 + 2, 10 :: x.2)
       else if b = 34 ∨ b = 92 then (qS r).map fun x => (x.1 + 2, b :: x.2) else none)
    else if btw 32 a.toNat 126 = true then (qS (b :: r)).map fun x => (x.1 + 1, a :: x.2) else none

def kInt : List UInt8 := [105, 110, 116]
def kText : List UInt8 := [116, 101, 120, 116]
def kVar : List UInt8 := [118, 97, 114]
def kSign : List UInt8 := [115, 105, 103, 110]
/-- Kind, text, length of the token that stands first. -/
def one (l : List UInt8) : Option (List UInt8 × List UInt8 × Nat) :=
  if ¬ (long true l).2 = [] then some ((long true l).2, l.take (long true l).1, (long true l).1)
  else if 0 < digits l then (if fits (l.take (digits l)) then some (kInt, l.take (digits l), digits l) else none)
  else if l.getD 0 0 = 34 then (match qS (l.drop 1) with
    | some x => if x.2.length ≤ 200 then some (kText, x.2, x.1 + 1) else none
    | none => none)
  else if 1 < l.length ∧ l.getD 0 0 = 39 ∧ btw 97 (l.getD 1 0).toNat 122 = true then some (kVar, l.take 2, 2)
  else if sign l = [] then none else some (kSign, sign l, (sign l).length)

abbrev Tok := List UInt8 × List UInt8 × Nat
/-- The tokens of a text, from a place on. -/
def toks (at' : Nat) (l : List UInt8) : Option (List Tok) :=
  if l.length = 0 then some []
  else if l.getD 0 0 = 32 ∨ l.getD 0 0 = 9 ∨ l.getD 0 0 = 10 then toks (at' + 1) (l.drop 1)
  else if l.take 2 = [40, 42] then (match cs 1 (l.drop 2) with
    | none => none
    | some n => toks (at' + (n + 2)) (l.drop (n + 2)))
  else match one l with
    | none => none
    | some x => if x.2.2 = 0 then none else (toks (at' + x.2.2) (l.drop x.2.2)).map fun r => (x.1, x.2.1, at') :: r
termination_by l.length
decreasing_by all_goals (simp only [List.length_drop]; omega)

theorem sign_eq (l : List UInt8) : sign l =
    if l.take 2 = [58, 58] ∨ l.take 2 = [61, 62] ∨ l.take 2 = [45, 62] ∨ l.take 2 = [58, 62] then l.take 2
    else if l.getD 0 0 ∈ ([40, 41, 91, 93, 44, 59, 58, 61, 124, 95, 43, 45, 42, 47, 37, 60, 94] : List UInt8) then l.take 1 else [] := by
  have e1 : sign l = ([[58, 58], [61, 62], [45, 62], [58, 62]] : List (List UInt8)).foldl (signStep l) (([[40], [41], [91], [93], [44], [59], [58], [61], [124], [95], [43], [45], [42], [47], [37], [60], [94]] : List (List UInt8)).foldl (signStep l) []) := by simp only [sign, signs, List.foldl_cons, List.foldl_nil]
  have e2 : ∀ (a : UInt8) (r : List UInt8) (ss : List UInt8), (ss.map fun x => [x]).foldl (signStep (a :: r)) [] = if a ∈ ss then [a] else [] := by
    intro a r ss
    have g : ∀ (ss : List UInt8), (ss.map fun x => [x]).foldl (signStep (a :: r)) [a] = [a] := by
      intro ss
      induction ss with
      | nil => rfl
      | cons b ss ih => rw [List.map_cons, List.foldl_cons, signStep, if_neg (by simp)]; exact ih
    induction ss with
    | nil => rfl
    | cons b ss ih =>
      rw [List.map_cons, List.foldl_cons]
      by_cases h : b = a
      · subst h
        rw [signStep, if_pos (by simp [Lib.hasPrefix, List.isPrefixOf]), g]
        simp
      · rw [signStep, if_neg (by simp [Lib.hasPrefix, List.isPrefixOf, h]), ih]
        simp [Ne.symm h]
  have e3 : ([[40], [41], [91], [93], [44], [59], [58], [61], [124], [95], [43], [45], [42], [47], [37], [60], [94]] : List (List UInt8)) = ([40, 41, 91, 93, 44, 59, 58, 61, 124, 95, 43, 45, 42, 47, 37, 60, 94] : List UInt8).map fun x => [x] := rfl
  rw [e1, e3]
  rcases l with _ | ⟨a, _ | ⟨b, r⟩⟩
  · have hp : ∀ (s : List UInt8) (x : UInt8) (y : List UInt8), signStep [] s (x :: y) = s := fun s x y => by simp [signStep, Lib.hasPrefix, List.isPrefixOf]
    simp [hp]
  · rw [e2]
    have hp : ∀ (s : List UInt8) (x y : UInt8), signStep [a] s [x, y] = s := fun s x y => by simp [signStep, Lib.hasPrefix, List.isPrefixOf]
    simp [hp]
  · rw [e2]
    have hp : ∀ (s : List UInt8) (x y : UInt8), signStep (a :: b :: r) s [x, y] = if s.length < 2 ∧ (a = x ∧ b = y) then [a, b] else s := fun s x y => by
      unfold signStep
      by_cases h : s.length < 2 ∧ (a = x ∧ b = y)
      · rw [if_pos h, if_pos (by simp [Lib.hasPrefix, List.isPrefixOf, h]), h.2.1, h.2.2]
      · rw [if_neg h, if_neg (by simpa [Lib.hasPrefix, List.isPrefixOf, @eq_comm _ x, @eq_comm _ y] using h)]
    generalize hq : (if a ∈ ([40, 41, 91, 93, 44, 59, 58, 61, 124, 95, 43, 45, 42, 47, 37, 60, 94] : List UInt8) then [a] else []) = q
    have hql : q.length < 2 := by rw [← hq]; split <;> simp
    simp only [List.foldl_cons, List.foldl_nil, hp, List.take_succ_cons, List.take_zero, List.getD_cons_zero, List.cons.injEq, and_true]
    by_cases h1 : a = 58 ∧ b = 58
    · simp [h1, hql]
    by_cases h2 : a = 61 ∧ b = 62
    · simp [h1, h2, hql]
    by_cases h3 : a = 45 ∧ b = 62
    · simp [h1, h2, h3, hql]
    by_cases h4 : a = 58 ∧ b = 62
    · simp [h1, h2, h3, h4, hql]
    · simp only [h1, h2, h3, h4, and_false, if_false, or_self]
      exact hq.symm
end Go.D

/- The document's reading of a token is the program's. Plain lists. -/
set_option linter.unusedVariables false
set_option linter.unusedSimpArgs false
set_option maxRecDepth 100000
namespace Go.D
open Go

def letter (a : UInt8) : Bool := btw 97 a.toNat 122 || btw 65 a.toNat 90
def signsN (l : List UInt8) : Nat :=
  if l.take 2 = [58, 58] ∨ l.take 2 = [61, 62] ∨ l.take 2 = [45, 62] ∨ l.take 2 = [58, 62] then 2
  else if l.getD 0 0 ∈ ([40, 41, 91, 93, 44, 59, 58, 61, 124, 95, 43, 45, 42, 47, 37, 60, 94] : List UInt8) then 1 else 0
theorem sign_len (l : List UInt8) : (sign l = [] ↔ signsN l = 0) ∧ sign l = l.take (signsN l) ∧ (sign l).length = signsN l := by
  rw [sign_eq]
  unfold signsN
  split
  · rename_i h
    have : 2 ≤ l.length := by
      rcases l with _ | ⟨a, _ | ⟨b, r⟩⟩ <;> simp at h ⊢
    refine ⟨⟨fun e => ?_, fun e => by omega⟩, rfl, by simp; omega⟩
    rw [e] at h; simp at h
  · split
    · rename_i h
      rcases l with _ | ⟨a, r⟩
      · simp at h
      · simp
    · simp

theorem long_letter (f : Bool) (l : List UInt8) (h : letter (l.getD 0 0) = false) : long f l = (0, []) := by
  simp only [letter, Bool.or_eq_false_iff] at h
  rw [long]
  split
  · rfl
  · rw [if_neg (by rw [h.1]; simp), if_neg (by rw [h.2]; simp)]

theorem btw_iff (a b c : Int) : btw a b c = true ↔ a ≤ b ∧ b ≤ c := by simp [btw]
theorem letter_num (a : UInt8) (h : letter a = true) : (97 ≤ a.toNat ∧ a.toNat ≤ 122) ∨ (65 ≤ a.toNat ∧ a.toNat ≤ 90) := by
  simp only [letter, Bool.or_eq_true, btw_iff] at h
  omega

theorem digits_head (l : List UInt8) (h : 0 < digits l) : l.getD 0 0 = 45 ∨ (48 ≤ (l.getD 0 0).toNat ∧ (l.getD 0 0).toNat ≤ 57) := by
  unfold digits at h
  split at h
  · omega
  split at h
  · rename_i h1 h2
    unfold isDig at h2
    rw [btw_iff] at h2
    unfold negN at h2
    cases hb : negB l
    · rw [hb] at h2; simp only [Bool.false_eq_true, if_false] at h2; right; omega
    · left
      simp only [negB, Bool.and_eq_true, decide_eq_true_eq] at hb
      have := hb.2.1
      have h5 : (l.getD 0 0).toNat = 45 := by omega
      exact UInt8.toNat_inj.1 h5
  · omega

def oneR (l : List UInt8) : Option (List UInt8 × List UInt8 × Nat) :=
  if letter (l.getD 0 0) = true then (if (long true l).2 = [] then none else some ((long true l).2, l.take (long true l).1, (long true l).1))
  else if l.getD 0 0 = 34 then (match qS (l.drop 1) with
    | some x => if x.2.length ≤ 200 then some (kText, x.2, x.1 + 1) else none
    | none => none)
  else if l.getD 0 0 = 39 then (if 1 < l.length ∧ btw 97 (l.getD 1 0).toNat 122 = true then some (kVar, l.take 2, 2) else none)
  else if 0 < digits l then (if fits (l.take (digits l)) then some (kInt, l.take (digits l), digits l) else none)
  else if signsN l = 0 then none else some (kSign, l.take (signsN l), signsN l)

theorem signs_num (a : UInt8) (h : a ∈ ([40, 41, 91, 93, 44, 59, 58, 61, 124, 95, 43, 45, 42, 47, 37, 60, 94] : List UInt8)) :
    letter a = false ∧ a ≠ 39 := by
  revert a; decide
theorem signs_none (l : List UInt8) (h : l.getD 0 0 = 39 ∨ letter (l.getD 0 0) = true) : signsN l = 0 := by
  unfold signsN
  have h0 : l.getD 0 0 ∉ ([40, 41, 91, 93, 44, 59, 58, 61, 124, 95, 43, 45, 42, 47, 37, 60, 94] : List UInt8) := fun hm => by
    obtain ⟨h1, h2⟩ := signs_num _ hm
    rcases h with h | h
    · exact h2 h
    · rw [h1] at h; cases h
  rw [if_neg, if_neg h0]
  intro hh
  apply h0
  rcases l with _ | ⟨a, _ | ⟨b, r⟩⟩
  · simp at hh
  · simp at hh
  · simp only [List.take_succ_cons, List.take_zero, List.cons.injEq, and_true, List.getD_cons_zero] at hh ⊢
    rcases hh with hh | hh | hh | hh <;> rw [hh.1] <;> decide

theorem one_eq (l : List UInt8) : one l = oneR l := by
  obtain ⟨s1, s2, s3⟩ := sign_len l
  unfold one oneR
  cases hl : letter (l.getD 0 0)
  · have : (long true l).2 = [] := by rw [long_letter true l hl]
    rw [if_neg (by simp [this])]
    simp only [Bool.false_eq_true, if_false]
    by_cases hd : 0 < digits l
    · have hh := digits_head l hd
      have h1 : ¬ l.getD 0 0 = 34 := fun e => by rw [e] at hh; revert hh; decide
      have h2 : ¬ l.getD 0 0 = 39 := fun e => by rw [e] at hh; revert hh; decide
      rw [if_pos hd, if_neg h1, if_neg h2, if_pos hd]
    · rw [if_neg hd, if_neg hd]
      by_cases h1 : l.getD 0 0 = 34
      · rw [if_pos h1, if_pos h1]; try (cases qS (l.drop 1) <;> rfl)
      · rw [if_neg h1, if_neg h1]
        by_cases h2 : l.getD 0 0 = 39
        · rw [if_pos h2]
          have : sign l = [] := s1.2 (signs_none l (.inl h2))
          simp only [h2, true_and, this, if_true]
        · rw [if_neg h2, if_neg (fun e => h2 e.2.1), s3, s2]
          by_cases h3 : signsN l = 0
          · rw [if_pos h3, if_pos (by rw [h3]; rfl)]
          · rw [if_neg h3, if_neg (by rw [← s2]; intro e; exact h3 (s1.1 e))]
  · simp only [if_true]
    by_cases h0 : (long true l).2 = []
    · rw [if_neg (by simp [h0]), if_pos h0]
      have hn := letter_num _ hl
      have hd : ¬ 0 < digits l := fun hd => by
        have := digits_head l hd
        rcases this with h | h
        · rw [h] at hn; revert hn; decide
        · omega
      have h1 : ¬ l.getD 0 0 = 34 := fun e => by rw [e] at hn; revert hn; decide
      have h2 : ¬ l.getD 0 0 = 39 := fun e => by rw [e] at hn; revert hn; decide
      rw [if_neg hd, if_neg h1, if_neg (by simp only [h2, false_and, and_false, not_false_eq_true]), if_pos (s1.2 (signs_none l (.inr hl)))]
    · rw [if_pos h0, if_neg h0]

/-- What stands behind a first part of a long name. -/
def tail (l : List UInt8) (n : Nat) : Nat × List UInt8 :=
  if n = l.length ∨ ¬ (l.getD n 0).toNat = 46 then (n, kCon)
  else if (long false (l.drop (n + 1))).2 = [] then (0, []) else (n + 1 + (long false (l.drop (n + 1))).1, (long false (l.drop (n + 1))).2)

theorem long_small (f : Bool) (l : List UInt8) (h : btw 97 (l.getD 0 0).toNat 122 = true) : long f l = if f = true ∧ l.take (word l) ∈ keys then (word l, kKey) else (word l, kName) := by
  rw [long, if_neg, if_pos h]
  intro e
  have : l = [] := by simpa using e
  rw [this] at h; revert h; decide
theorem small_great (a : Int) (h : btw 65 a 90 = true) : btw 97 a 122 = false := by
  rw [btw_iff] at h
  simp [btw]; omega
theorem long_great (f : Bool) (l : List UInt8) (h : btw 65 (l.getD 0 0).toNat 90 = true) : long f l = tail l (word l) := by
  rw [long, if_neg, if_neg (by rw [small_great _ h]; simp), if_pos h]
  · rfl
  intro e
  have : l = [] := by simpa using e
  rw [this] at h; revert h; decide

/-- Behind a dot: nothing, a name, or more. -/
theorem tail_dot (l : List UInt8) (n : Nat) (h : n < l.length) (h1 : (l.getD n 0).toNat = 46) :
    (letter (l.getD (n + 1) 0) = false → tail l n = (0, [])) ∧
    (btw 97 (l.getD (n + 1) 0).toNat 122 = true → tail l n = (n + 1 + word (l.drop (n + 1)), kName)) ∧
    (btw 65 (l.getD (n + 1) 0).toNat 90 = true → tail l n = tail l (n + 1 + word (l.drop (n + 1)))) := by
  have hg : (l.drop (n + 1)).getD 0 0 = l.getD (n + 1) 0 := by simp [List.getD]
  have e : tail l n = if (long false (l.drop (n + 1))).2 = [] then (0, []) else (n + 1 + (long false (l.drop (n + 1))).1, (long false (l.drop (n + 1))).2) := by
    unfold tail; rw [if_neg (by omega)]
  refine ⟨fun h2 => ?_, fun h2 => ?_, fun h2 => ?_⟩
  · rw [e, long_letter false _ (by rw [hg]; exact h2), if_pos rfl]
  · have e2 : long false (l.drop (n + 1)) = (word (l.drop (n + 1)), kName) := by
      rw [long_small false _ (by rw [hg]; exact h2), if_neg (by simp)]
    rw [e, e2, if_neg (by simp [kName])]
  · have hw : word (l.drop (n + 1)) ≤ (l.drop (n + 1)).length := word_le _
    have hgt : n + 1 < l.length := by
      rcases Nat.lt_or_ge (n + 1) l.length with h | h
      · exact h
      · rw [show l.getD (n + 1) 0 = 0 by simp [List.getD, h], btw_iff] at h2; exact absurd h2.1 (by decide)
    rw [List.length_drop] at hw
    rw [e, long_great false _ (by rw [hg]; exact h2)]
    generalize hwd : word (l.drop (n + 1)) = w at *
    have hg2 : (l.drop (n + 1)).getD w 0 = l.getD (n + 1 + w) 0 := by simp [List.getD]
    unfold tail
    rw [hg2, List.length_drop, List.drop_drop]
    have hc : (w = l.length - (n + 1) ∨ ¬ (l.getD (n + 1 + w) 0).toNat = 46) ↔ (n + 1 + w = l.length ∨ ¬ (l.getD (n + 1 + w) 0).toNat = 46) := by omega
    by_cases h3 : n + 1 + w = l.length ∨ ¬ (l.getD (n + 1 + w) 0).toNat = 46
    · rw [if_pos (hc.2 h3), if_pos h3, if_neg (by simp [kCon])]
    · rw [if_neg (fun e => h3 (hc.1 e)), if_neg h3]
      rw [show n + 1 + (w + 1) = n + 1 + w + 1 by omega]
      by_cases h4 : (long false (l.drop (n + 1 + w + 1))).2 = []
      · rw [if_pos h4, if_pos h4]
        simp
      · rw [if_neg h4, if_neg h4, if_neg h4]
        simp only [Prod.mk.injEq, and_true]
        omega
end Go.D

/- Bounds: how long tokens and comments are. Plain lists. -/
set_option linter.unusedVariables false
set_option linter.unusedSimpArgs false
set_option maxRecDepth 100000
namespace Go.D
open Go

theorem word_pos (l : List UInt8) (h : letter (l.getD 0 0) = true) : 0 < word l := by
  rcases l with _ | ⟨a, r⟩
  · revert h; decide
  · have : pB isPart a = true := by
      simp only [List.getD_cons_zero, letter, Bool.or_eq_true] at h
      simp only [pB, isPart, Bool.or_eq_true]
      rcases h with h | h
      · exact .inl (.inl (.inl (.inl h)))
      · exact .inl (.inl (.inl (.inr h)))
    unfold word
    rw [List.takeWhile_cons, if_pos this]
    simp

theorem long_le (n : Nat) : ∀ (f : Bool) (l : List UInt8), l.length ≤ n → (long f l).1 ≤ l.length ∧ (¬ (long f l).2 = [] → 0 < (long f l).1) := by
  induction n with
  | zero => intro f l h; rw [long, if_pos (by omega)]; simp
  | succ n ih =>
    intro f l h
    have hw := word_le l
    cases hl : letter (l.getD 0 0)
    · rw [long_letter f l hl]; simp
    · have hp := word_pos l hl
      have h0 : ¬ l.length = 0 := by omega
      simp only [letter, Bool.or_eq_true] at hl
      rcases hl with hl | hl
      · rw [long_small f l hl]
        split <;> exact ⟨hw, fun _ => hp⟩
      · rw [long_great f l hl]
        unfold tail
        split
        · exact ⟨hw, fun _ => hp⟩
        · rename_i h1
          obtain ⟨i1, i2⟩ := ih false (l.drop (word l + 1)) (by rw [List.length_drop]; omega)
          rw [List.length_drop] at i1
          split
          · simp
          · exact ⟨by simp only; omega, fun _ => by simp only; omega⟩

theorem qS_le (m : Nat) : ∀ (l : List UInt8), l.length ≤ m → ∀ n t, qS l = some (n, t) → 1 ≤ n ∧ n ≤ l.length ∧ t.length ≤ n := by
  induction m with
  | zero => intro l h n t e; have : l = [] := by simpa using h
            subst this; cases e
  | succ m ih =>
    intro l h n t e
    rcases l with _ | ⟨a, _ | ⟨b, r⟩⟩
    · cases e
    · rw [qS] at e
      split at e
      · simp at e; obtain ⟨rfl, rfl⟩ := e; simp
      · cases e
    · rw [qS] at e
      simp only [List.length_cons] at h ⊢
      split at e
      · simp at e; obtain ⟨rfl, rfl⟩ := e; simp
      split at e
      · split at e
        · cases hq : qS r with
          | none => rw [hq] at e; cases e
          | some x => rw [hq] at e; obtain ⟨n', t'⟩ := x; have := ih r (by omega) _ _ hq; simp at e; obtain ⟨rfl, rfl⟩ := e; simp; omega
        · split at e
          · cases hq : qS r with
            | none => rw [hq] at e; cases e
            | some x => rw [hq] at e; obtain ⟨n', t'⟩ := x; have := ih r (by omega) _ _ hq; simp at e; obtain ⟨rfl, rfl⟩ := e; simp; omega
          · cases e
      · split at e
        · cases hq : qS (b :: r) with
          | none => rw [hq] at e; cases e
          | some x => rw [hq] at e; obtain ⟨n', t'⟩ := x; have := ih (b :: r) (by simpa using h) _ _ hq; simp at e this; obtain ⟨rfl, rfl⟩ := e; simp; omega
        · cases e

theorem cs_len (m : Nat) : ∀ (l : List UInt8), l.length ≤ m → ∀ d n, cs d l = some n → 2 ≤ n ∧ n ≤ l.length := by
  induction m with
  | zero => intro l h d n e; have : l = [] := by simpa using h
            subst this; cases e
  | succ m ih =>
    intro l h d n e
    rcases l with _ | ⟨a, _ | ⟨b, r⟩⟩
    · cases e
    · cases e
    · rw [cs] at e
      simp only [List.length_cons] at h ⊢
      split at e
      · cases hq : cs (d + 1) r with
        | none => rw [hq] at e; cases e
        | some x => rw [hq] at e; have := ih r (by omega) _ _ hq; simp at e; omega
      split at e
      · split at e
        · simp at e; omega
        · cases hq : cs (d - 1) r with
          | none => rw [hq] at e; cases e
          | some x => rw [hq] at e; have := ih r (by omega) _ _ hq; simp at e; omega
      · cases hq : cs d (b :: r) with
        | none => rw [hq] at e; cases e
        | some x => rw [hq] at e; have := ih (b :: r) (by simpa using h) _ _ hq; simp at e this; omega

theorem one_le (l : List UInt8) (k t : List UInt8) (n : Nat) (h : one l = some (k, t, n)) : 1 ≤ n ∧ n ≤ l.length ∧ t.length ≤ 1 + l.length := by
  rw [one_eq] at h
  unfold oneR at h
  split at h
  · obtain ⟨h1, h2⟩ := long_le _ true l (Nat.le_refl _)
    split at h
    · cases h
    · rename_i h3
      have := h2 h3
      simp at h; obtain ⟨rfl, rfl, rfl⟩ := h
      refine ⟨this, h1, by simp; omega⟩
  split at h
  · cases hq : qS (l.drop 1) with
    | none => rw [hq] at h; cases h
    | some x =>
      rw [hq] at h
      obtain ⟨n', t'⟩ := x
      have h1 := qS_le _ (l.drop 1) (Nat.le_refl _) _ _ hq
      rw [List.length_drop] at h1
      simp only at h
      split at h
      · simp at h; obtain ⟨rfl, rfl, rfl⟩ := h
        omega
      · cases h
  split at h
  · split at h
    · rename_i h1
      simp at h; obtain ⟨rfl, rfl, rfl⟩ := h
      refine ⟨by omega, by omega, by simp; omega⟩
    · cases h
  split at h
  · have h1 := (digits_take l).2
    split at h
    · simp at h; obtain ⟨rfl, rfl, rfl⟩ := h
      refine ⟨by omega, h1, by simp; omega⟩
    · cases h
  · split at h
    · cases h
    · rename_i h1
      have h2 := (sign_len l).2
      simp at h; obtain ⟨rfl, rfl, rfl⟩ := h
      rw [h2.1] at h2
      have h3 := h2.2
      rw [List.length_take] at h3
      refine ⟨by omega, by omega, by simp; omega⟩
end Go.D

/- The document's small functions of bytes, its words. -/
set_option linter.unusedVariables false
set_option linter.unusedSimpArgs false
set_option maxRecDepth 100000
namespace Go.D
open Go Go.Vm Go.Proofs Go.RowKit

theorem small_ok (a : Int) (σ : List Ent) : ACalls E 161 [u8 a] σ fun r τ => r = boolV (btw 97 a 122) ∧ τ = σ := by
  refine xacalls T0 .drop [] Tryz.func161 rfl (by kernel_rfl) (by kernel_rfl) (by simp [Tryz.ntmps161]) ?_
  unfold btw
  by_cases h : 97 ≤ a <;> (simp only [h, (vmA), Nat.reduceEqDiff, reduceIte, Nat.reduceAdd, Int.reduceToNat, Int.reduceLE, Int.reduceLT, Int.reduceEq, Int.reduceNe, Int.reduceAdd, Int.reduceSub, Int.reduceNeg, Nat.reduceLT, Nat.reduceLeDiff, Nat.reduceBEq, undef, (stA), Nat.reduceMul]; try simp (disch := omega) only [(vmp)])
theorem great_ok (a : Int) (σ : List Ent) : ACalls E 162 [u8 a] σ fun r τ => r = boolV (btw 65 a 90) ∧ τ = σ := by
  refine xacalls T0 .drop [] Tryz.func162 rfl (by kernel_rfl) (by kernel_rfl) (by simp [Tryz.ntmps162]) ?_
  unfold btw
  by_cases h : 65 ≤ a <;> (simp only [h, (vmA), Nat.reduceEqDiff, reduceIte, Nat.reduceAdd, Int.reduceToNat, Int.reduceLE, Int.reduceLT, Int.reduceEq, Int.reduceNe, Int.reduceAdd, Int.reduceSub, Int.reduceNeg, Nat.reduceLT, Nat.reduceLeDiff, Nat.reduceBEq, undef, (stA), Nat.reduceMul]; try simp (disch := omega) only [(vmp)])
theorem digit_ok (a : Int) (σ : List Ent) : ACalls E 177 [u8 a] σ fun r τ => r = boolV (btw 48 a 57) ∧ τ = σ := by
  refine xacalls T0 .drop [] Tryz.func177 rfl (by kernel_rfl) (by kernel_rfl) (by simp [Tryz.ntmps177]) ?_
  unfold btw
  by_cases h : 48 ≤ a <;> (simp only [h, (vmA), Nat.reduceEqDiff, reduceIte, Nat.reduceAdd, Int.reduceToNat, Int.reduceLE, Int.reduceLT, Int.reduceEq, Int.reduceNe, Int.reduceAdd, Int.reduceSub, Int.reduceNeg, Nat.reduceLT, Nat.reduceLeDiff, Nat.reduceBEq, undef, (stA), Nat.reduceMul]; try simp (disch := omega) only [(vmp)])
theorem rest_ok (b : Int) (σ : List Ent) : ACalls E 184 [u8 b] σ fun r τ => r = boolV (isPart b) ∧ τ = σ := by
  refine xacalls T0 .drop [] Tryz.func184 rfl (by kernel_rfl) (by kernel_rfl) (by simp [Tryz.ntmps184]) ?_
  unfold isPart
  (simp only [(vmA), Nat.reduceEqDiff, reduceIte, Nat.reduceAdd, Int.reduceToNat, Int.reduceLE, Int.reduceLT, Int.reduceEq, Int.reduceNe, Int.reduceAdd, Int.reduceSub, Int.reduceNeg, Nat.reduceLT, Nat.reduceLeDiff, Nat.reduceBEq, undef, (stA), Nat.reduceMul]; try simp (disch := omega) only [(vmp)])
  refine xWait.go (small_ok _ _) ?_
  cases h1 : btw 97 b 122 <;> (simp only [(vmA), Nat.reduceEqDiff, reduceIte, Nat.reduceAdd, Int.reduceToNat, Int.reduceLE, Int.reduceLT, Int.reduceEq, Int.reduceNe, Int.reduceAdd, Int.reduceSub, Int.reduceNeg, Nat.reduceLT, Nat.reduceLeDiff, Nat.reduceBEq, undef, (stA), Nat.reduceMul]; try simp (disch := omega) only [(vmp)])
  refine xWait.go (great_ok _ _) ?_
  cases h2 : btw 65 b 90 <;> (simp only [(vmA), Nat.reduceEqDiff, reduceIte, Nat.reduceAdd, Int.reduceToNat, Int.reduceLE, Int.reduceLT, Int.reduceEq, Int.reduceNe, Int.reduceAdd, Int.reduceSub, Int.reduceNeg, Nat.reduceLT, Nat.reduceLeDiff, Nat.reduceBEq, undef, (stA), Nat.reduceMul]; try simp (disch := omega) only [(vmp)])
  refine xWait.go (digit_ok _ _) ?_
  cases h3 : btw 48 b 57 <;> (simp only [(vmA), Nat.reduceEqDiff, reduceIte, Nat.reduceAdd, Int.reduceToNat, Int.reduceLE, Int.reduceLT, Int.reduceEq, Int.reduceNe, Int.reduceAdd, Int.reduceSub, Int.reduceNeg, Nat.reduceLT, Nat.reduceLeDiff, Nat.reduceBEq, undef, (stA), Nat.reduceMul]; try simp (disch := omega) only [(vmp)])
  by_cases h4 : b = 95 <;> (simp only [h4, (vmA), Nat.reduceEqDiff, reduceIte, Nat.reduceAdd, Int.reduceToNat, Int.reduceLE, Int.reduceLT, Int.reduceEq, Int.reduceNe, Int.reduceAdd, Int.reduceSub, Int.reduceNeg, Nat.reduceLT, Nat.reduceLeDiff, Nat.reduceBEq, undef, (stA), Nat.reduceMul]; try simp (disch := omega) only [(vmp)])

/-- How many bytes a word has, if one begins. -/
def wordR (l : List UInt8) : Nat := if letter (l.getD 0 0) = true then word l else 0
theorem wordR_ok (l : List UInt8) (i : Nat) (hl : l.length ≤ 1099511627776) (hi : i ≤ l.length) (σ : List Ent) : ACalls E 175 [.str l, i64 i] σ fun r τ => r = i64 (wordR (l.drop i)) ∧ τ = σ := by
  refine xacalls T0 .drop [] Tryz.func175 rfl (by kernel_rfl) (by kernel_rfl) (by simp [Tryz.ntmps175]) ?_
  have hg : ∀ j, (l.drop i).getD j 0 = l.getD (i + j) 0 := fun j => by simp [List.getD]
  have hdl : (l.drop i).length = l.length - i := List.length_drop
  (simp only [(vmA), Nat.reduceEqDiff, reduceIte, Nat.reduceAdd, Int.reduceToNat, Int.reduceLE, Int.reduceLT, Int.reduceEq, Int.reduceNe, Int.reduceAdd, Int.reduceSub, Int.reduceNeg, Nat.reduceLT, Nat.reduceLeDiff, Nat.reduceBEq, undef, (stA), Nat.reduceMul]; try simp (disch := omega) only [(vmp)])
  refine xGuard.cut (.cut (fun ts g l' => Sub ts [(0, .str l), (1, i64 i), (5, i64 0), (21, boolV (letter (l.getD i 0)))] ∧ g = σ ∧ l' = []) ?_) ?_
  · rintro ts g l' ⟨hsub, rfl, rfl⟩
    simp only [sub_cons, sub_nil, and_true] at hsub
    obtain ⟨h0, h1, h5, h21⟩ := hsub
    unfold wordR
    rw [hg, Nat.add_zero]
    cases hlet : letter (l.getD i 0)
    · rw [hlet] at h21
      (simp only [h0, h1, h5, h21, (vmA), Nat.reduceEqDiff, reduceIte, Nat.reduceAdd, Int.reduceToNat, Int.reduceLE, Int.reduceLT, Int.reduceEq, Int.reduceNe, Int.reduceAdd, Int.reduceSub, Int.reduceNeg, Nat.reduceLT, Nat.reduceLeDiff, Nat.reduceBEq, undef, (stA), Nat.reduceMul]; try simp (disch := omega) only [(vmp)])
    · rw [hlet] at h21
      (simp only [h0, h1, h5, h21, (vmA), Nat.reduceEqDiff, reduceIte, Nat.reduceAdd, Int.reduceToNat, Int.reduceLE, Int.reduceLT, Int.reduceEq, Int.reduceNe, Int.reduceAdd, Int.reduceSub, Int.reduceNeg, Nat.reduceLT, Nat.reduceLeDiff, Nat.reduceBEq, undef, (stA), Nat.reduceMul]; try simp (disch := omega) only [(vmp)])
      have hlt : i < l.length := by
        rcases Nat.lt_or_ge i l.length with h | h
        · exact h
        · rw [show l.getD i 0 = 0 by simp [List.getD, h]] at hlet; exact absurd hlet (by decide)
      have hp : pB isPart (l.getD i 0) = true := by
        simp only [letter, Bool.or_eq_true] at hlet
        simp only [pB, isPart, Bool.or_eq_true]
        rcases hlet with h | h
        · exact .inl (.inl (.inl (.inl h)))
        · exact .inl (.inl (.inl (.inr h)))
      refine xloop (α := Nat) T0 (fun j => [(0, .str l), (1, i64 i), (5, i64 j)]) (fun _ => g) (fun _ => []) (fun j => j ≤ l.length - i ∧ ∀ x ∈ (l.drop i).take j, pB isPart x = true) (fun j => l.length - j) (by kernel_rfl)
        ⟨1, ⟨by omega, take_succ_all (l := l.drop i) (i := 0) (by omega) (by simp) (by rw [hg]; exact hp)⟩, by (simp only [h0, h1, (vmA), Nat.reduceEqDiff, reduceIte, Nat.reduceAdd, Int.reduceToNat, Int.reduceLE, Int.reduceLT, Int.reduceEq, Int.reduceNe, Int.reduceAdd, Int.reduceSub, Int.reduceNeg, Nat.reduceLT, Nat.reduceLeDiff, Nat.reduceBEq, undef, (stA), Nat.reduceMul, Int.natCast_one]; try simp (disch := omega) only [(vmp)]), rfl, rfl⟩ ?_
      rintro j ⟨hj, hall⟩
      (simp only [(vmA), Nat.reduceEqDiff, reduceIte, Nat.reduceAdd, Int.reduceToNat, Int.reduceLE, Int.reduceLT, Int.reduceEq, Int.reduceNe, Int.reduceAdd, Int.reduceSub, Int.reduceNeg, Nat.reduceLT, Nat.reduceLeDiff, Nat.reduceBEq, undef, (stA), Nat.reduceMul]; try simp (disch := omega) only [(vmp)])
      by_cases h : ((i + j : Nat) : Int) < l.length
      · (simp only [h, (vmA), Nat.reduceEqDiff, reduceIte, Nat.reduceAdd, Int.reduceToNat, Int.reduceLE, Int.reduceLT, Int.reduceEq, Int.reduceNe, Int.reduceAdd, Int.reduceSub, Int.reduceNeg, Nat.reduceLT, Nat.reduceLeDiff, Nat.reduceBEq, undef, (stA), Nat.reduceMul]; try simp (disch := omega) only [(vmp)])
        refine ⟨by omega, ?_⟩
        refine xWait.go (rest_ok _ _) ?_
        cases hp2 : isPart (l.getD (i + j) 0).toNat
        · (simp only [(vmA), Nat.reduceEqDiff, reduceIte, Nat.reduceAdd, Int.reduceToNat, Int.reduceLE, Int.reduceLT, Int.reduceEq, Int.reduceNe, Int.reduceAdd, Int.reduceSub, Int.reduceNeg, Nat.reduceLT, Nat.reduceLeDiff, Nat.reduceBEq, undef, (stA), Nat.reduceMul]; try simp (disch := omega) only [(vmp)])
          exact congrArg (fun n : Nat => i64 n) (takeWhile_len (by omega) hall fun _ => by rw [hg]; exact hp2).symm
        · (simp only [(vmA), Nat.reduceEqDiff, reduceIte, Nat.reduceAdd, Int.reduceToNat, Int.reduceLE, Int.reduceLT, Int.reduceEq, Int.reduceNe, Int.reduceAdd, Int.reduceSub, Int.reduceNeg, Nat.reduceLT, Nat.reduceLeDiff, Nat.reduceBEq, undef, (stA), Nat.reduceMul]; try simp (disch := omega) only [(vmp)])
          exact ⟨j + 1, ⟨by omega, take_succ_all (by omega) hall (by rw [hg]; exact hp2)⟩, by omega, rfl⟩
      · (simp only [h, (vmA), Nat.reduceEqDiff, reduceIte, Nat.reduceAdd, Int.reduceToNat, Int.reduceLE, Int.reduceLT, Int.reduceEq, Int.reduceNe, Int.reduceAdd, Int.reduceSub, Int.reduceNeg, Nat.reduceLT, Nat.reduceLeDiff, Nat.reduceBEq, undef, (stA), Nat.reduceMul]; try simp (disch := omega) only [(vmp)])
        exact congrArg (fun n : Nat => i64 n) (takeWhile_len (by omega) hall fun hh => absurd (by omega) h).symm
  · by_cases h : (i : Int) < l.length
    · (simp only [h, (vmA), Nat.reduceEqDiff, reduceIte, Nat.reduceAdd, Int.reduceToNat, Int.reduceLE, Int.reduceLT, Int.reduceEq, Int.reduceNe, Int.reduceAdd, Int.reduceSub, Int.reduceNeg, Nat.reduceLT, Nat.reduceLeDiff, Nat.reduceBEq, undef, (stA), Nat.reduceMul]; try simp (disch := omega) only [(vmp)])
      refine xWait.go (small_ok _ _) ?_
      unfold letter
      cases h1 : btw 97 (l.getD i 0).toNat 122
      · (simp only [h, (vmA), Nat.reduceEqDiff, reduceIte, Nat.reduceAdd, Int.reduceToNat, Int.reduceLE, Int.reduceLT, Int.reduceEq, Int.reduceNe, Int.reduceAdd, Int.reduceSub, Int.reduceNeg, Nat.reduceLT, Nat.reduceLeDiff, Nat.reduceBEq, undef, (stA), Nat.reduceMul]; try simp (disch := omega) only [(vmp)])
        refine xWait.go (great_ok _ _) ?_
        (simp only [(vmA), Nat.reduceEqDiff, reduceIte, Nat.reduceAdd, Int.reduceToNat, Int.reduceLE, Int.reduceLT, Int.reduceEq, Int.reduceNe, Int.reduceAdd, Int.reduceSub, Int.reduceNeg, Nat.reduceLT, Nat.reduceLeDiff, Nat.reduceBEq, undef, (stA), Nat.reduceMul]; try simp (disch := omega) only [(vmp)])
      · (simp only [(vmA), Nat.reduceEqDiff, reduceIte, Nat.reduceAdd, Int.reduceToNat, Int.reduceLE, Int.reduceLT, Int.reduceEq, Int.reduceNe, Int.reduceAdd, Int.reduceSub, Int.reduceNeg, Nat.reduceLT, Nat.reduceLeDiff, Nat.reduceBEq, undef, (stA), Nat.reduceMul]; try simp (disch := omega) only [(vmp)])
    · (simp only [h, (vmA), Nat.reduceEqDiff, reduceIte, Nat.reduceAdd, Int.reduceToNat, Int.reduceLE, Int.reduceLT, Int.reduceEq, Int.reduceNe, Int.reduceAdd, Int.reduceSub, Int.reduceNeg, Nat.reduceLT, Nat.reduceLeDiff, Nat.reduceBEq, undef, (stA), Nat.reduceMul]; try simp (disch := omega) only [(vmp)])
      rw [show l.getD i 0 = 0 by simp [List.getD, (by omega : l.length ≤ i)]]; rfl
end Go.D

/- The tokens of one text. -/
set_option linter.unusedVariables false
set_option linter.unusedSimpArgs false
set_option maxRecDepth 100000
namespace Go.D
open Go

theorem toks_nil (a : Nat) : toks a [] = some [] := by rw [toks]; rfl
theorem toks_space (a : Nat) (c : UInt8) (r : List UInt8) (h : c = 32 ∨ c = 9 ∨ c = 10) : toks a (c :: r) = toks (a + 1) r := by
  rw [toks, if_neg (by simp), if_pos (by simpa using h)]; simp
theorem toks_one (a : Nat) (l : List UInt8) (k t : List UInt8) (n : Nat) (h0 : ¬ l.length = 0) (h1 : ¬ (l.getD 0 0 = 32 ∨ l.getD 0 0 = 9 ∨ l.getD 0 0 = 10)) (h2 : ¬ l.take 2 = [40, 42]) (h3 : one l = some (k, t, n)) :
    toks a l = (toks (a + n) (l.drop n)).map fun r => (k, t, a) :: r := by
  have := one_le l k t n h3
  rw [toks, if_neg h0, if_neg h1, if_neg h2, h3]
  simp only
  rw [if_neg (by omega)]

def saneText : List UInt8 := [40, 83, 46, 120, 43, 32, 45, 53, 41]
def saneToks : List Tok := [(kSign, [40], 0), (kName, [83, 46, 120], 1), (kSign, [43], 4), (kInt, [45, 53], 6), (kSign, [41], 8)]
theorem sane1 : one [40, 83, 46, 120, 43, 32, 45, 53, 41] = some (kSign, [40], 1) := by
  rw [one_eq]; decide +kernel
theorem sane3 : one [43, 32, 45, 53, 41] = some (kSign, [43], 1) := by
  rw [one_eq]; decide +kernel
theorem sane4 : one [45, 53, 41] = some (kInt, [45, 53], 2) := by
  rw [one_eq]; decide +kernel
theorem sane5 : one [41] = some (kSign, [41], 1) := by
  rw [one_eq]; decide +kernel
theorem sane2 : one [83, 46, 120, 43, 32, 45, 53, 41] = some (kName, [83, 46, 120], 3) := by
  have h : long true [83, 46, 120, 43, 32, 45, 53, 41] = (3, kName) := by
    rw [long_great true _ (by decide)]
    have hw : word [83, 46, 120, 43, 32, 45, 53, 41] = 1 := by decide
    rw [hw, (tail_dot _ 1 (by decide) (by decide)).2.1 (by decide)]
    decide
  rw [one_eq]; unfold oneR
  rw [h]; decide +kernel
theorem sane_toks : toks 0 saneText = some saneToks := by
  unfold saneText saneToks
  rw [toks_one 0 _ _ _ _ (by decide) (by decide) (by decide) sane1]
  simp only [List.drop_succ_cons, List.drop_zero]
  rw [toks_one _ _ _ _ _ (by decide) (by decide) (by decide) sane2]
  simp only [List.drop_succ_cons, List.drop_zero]
  rw [toks_one _ _ _ _ _ (by decide) (by decide) (by decide) sane3]
  simp only [List.drop_succ_cons, List.drop_zero]
  rw [toks_space _ _ _ (by decide)]
  rw [toks_one _ _ _ _ _ (by decide) (by decide) (by decide) sane4]
  simp only [List.drop_succ_cons, List.drop_zero]
  rw [toks_one _ _ _ _ _ (by decide) (by decide) (by decide) sane5]
  simp only [List.drop_succ_cons, List.drop_zero, toks_nil]
  rfl
end Go.D

/- Lines and columns. Plain lists. -/
set_option linter.unusedVariables false
set_option linter.unusedSimpArgs false
set_option maxRecDepth 100000
namespace Go.D
open Go

/-- Where the last line before a place ends. -/
def lastN (l : List UInt8) : Nat → Int
  | 0 => -1
  | i + 1 => if l.getD i 0 = 10 then i else lastN l i
theorem lastN_le (l : List UInt8) : ∀ i : Nat, -1 ≤ lastN l i ∧ lastN l i < i
  | 0 => by simp [lastN]
  | i + 1 => by
    have := lastN_le l i
    unfold lastN
    split <;> omega
theorem lastIdx_take (l : List UInt8) (i : Nat) (hi : i ≤ l.length) : ∀ k : Nat, k ≤ i → Lib.lastIdx ⟨⟨l.take i⟩⟩ 10 k = lastN l k
  | 0, _ => rfl
  | k + 1, h => by
    have h1 : ((⟨⟨l.take i⟩⟩ : ByteArray).data[k]!) = l.getD k 0 := by
      have h2 : k < l.length := by omega
      have h3 : k < i := by omega
      simp [List.getD, h2, h3]
    rw [Lib.lastIdx, lastN, lastIdx_take l i hi k (by omega), h1]
    by_cases h2 : l.getD k 0 = 10
    · rw [if_pos h2, if_pos (by rw [h2]; rfl)]
    · rw [if_neg h2, if_neg]
      intro e
      have h3 : (l.getD k 0).toNat = 10 := by omega
      exact h2 (UInt8.toNat_inj.1 h3)
theorem lastIndex_take (l : List UInt8) (i : Nat) (hi : i ≤ l.length) : Lib.lastIndexByte ⟨⟨l.take i⟩⟩ 10 = lastN l i := by
  have h : (⟨⟨l.take i⟩⟩ : ByteArray).size = i := by simp [ByteArray.size]; omega
  rw [Lib.lastIndexByte, h]
  exact lastIdx_take l i hi i (Nat.le_refl _)
theorem count_take (l : List UInt8) (i : Nat) (hi : i < l.length) : Lib.countByte (l.take (i + 1)) 10 = Lib.countByte (l.take i) 10 + if l.getD i 0 = 10 then 1 else 0 := by
  unfold Lib.countByte
  rw [List.take_add_one, List.count_append, List.getElem?_eq_getElem hi]
  have : l.getD i 0 = l[i] := by simp [List.getD, hi]
  rw [this]
  simp [List.count_cons]
end Go.D

/- Quoted texts, tokens (plain). -/
set_option linter.unusedVariables false
set_option linter.unusedSimpArgs false
set_option maxRecDepth 100000
namespace Go.D
open Go Go.Vm Go.Proofs Go.RowKit

theorem av_all (a : UInt8) (r : List UInt8) : avBytes ((byteAV a :: List.map byteAV r).take (r.length + 1)) = some (a :: r) := by
  have : (byteAV a :: List.map byteAV r).take (r.length + 1) = (a :: r).map byteAV := by rw [List.take_of_length_le (by simp)]; rfl
  rw [this, avBytes_map]
theorem av_all2 (a : UInt8) (r : List UInt8) : avBytes (byteAV a :: List.take r.length (List.map byteAV r)) = some (a :: r) := av_all a r
theorem qS_q (x : List UInt8) : qS (34 :: x) = some (1, []) := by cases x <;> simp [qS]
theorem qS_bad (a : UInt8) (x : List UInt8) (h : a ≠ 34) (h2 : btw 32 a.toNat 126 = false) : qS (a :: x) = none := by
  have h3 : a ≠ 92 := fun e => by rw [e] at h2; revert h2; decide
  cases x <;> simp [qS, h, h2, h3]
theorem qS_plain (a : UInt8) (x : List UInt8) (h : a ≠ 34) (h3 : a ≠ 92) (h2 : btw 32 a.toNat 126 = true) : qS (a :: x) = (qS x).map fun y => (y.1 + 1, a :: y.2) := by
  cases x <;> simp [qS, h, h2, h3]
theorem qS_end : qS [92] = none := by simp [qS]
theorem qS_esc (b : UInt8) (x : List UInt8) : qS (92 :: b :: x) = if b = 110 then (qS x).map fun y => (y.1 + 2, 10 :: y.2) else if b = 34 ∨ b = 92 then (qS x).map fun y => (y.1 + 2, b :: y.2) else none := by
  simp [qS]

theorem one_at {l : List UInt8} {i : Nat} (h : i < l.length) : l.drop i = l.getD i 0 :: l.drop (i + 1) ∧ (l.drop i).take 1 = [l.getD i 0] := by
  have : l.drop i = l.getD i 0 :: l.drop (i + 1) := by rw [List.drop_eq_getElem_cons h]; simp [List.getD, h]
  refine ⟨this, ?_⟩
  rw [this]; rfl
theorem u8_eq (a : UInt8) (n : Nat) (hn : n < 256) : ((a.toNat : Int) = n) ↔ a = UInt8.ofNat n := by
  constructor
  · intro h
    apply UInt8.toNat_inj.1
    simp; omega
  · intro h; rw [h]; simp; omega


def tokA (k t : List UInt8) (p : Nat) : AV := .agg [.str k, .str t, i64 p]

theorem prefix_take (x : List UInt8) : Lib.hasPrefix x [40, 42] = true ↔ x.take 2 = [40, 42] := by
  rcases x with _ | ⟨a, _ | ⟨b, r⟩⟩
  · simp [Lib.hasPrefix, List.isPrefixOf]
  · simp [Lib.hasPrefix, List.isPrefixOf]
  · simp [Lib.hasPrefix, List.isPrefixOf]
    exact ⟨fun h => ⟨h.1.symm, h.2.symm⟩, fun h => ⟨h.1.symm, h.2.symm⟩⟩

end Go.D

/- The document's names. -/
set_option linter.unusedVariables false
set_option linter.unusedSimpArgs false
set_option maxRecDepth 100000
namespace Go.D
open Go Go.Vm Go.Proofs Go.RowKit

theorem named_ok (l : List UInt8) (i : Nat) (hl : l.length ≤ 1099511627776) (hi : i < l.length) (hlet : letter (l.getD i 0) = true) (σ : List Ent) :
    ACalls E 163 [.str l, i64 i] σ fun r τ => r = .tup [i64 (long true (l.drop i)).1, .str (long true (l.drop i)).2] ∧ τ = σ := by
  refine xacalls T0 .drop [] Tryz.func163 rfl (by kernel_rfl) (by kernel_rfl) (by simp [Tryz.ntmps163]) ?_
  have hg : ∀ j, (l.drop i).getD j 0 = l.getD (i + j) 0 := fun j => by simp [List.getD]
  have hdl : (l.drop i).length = l.length - i := List.length_drop
  have hw := word_le (l.drop i)
  have hwr : wordR (l.drop i) = word (l.drop i) := by unfold wordR; rw [hg, Nat.add_zero, if_pos hlet]
  (simp only [(vmA), Nat.reduceEqDiff, reduceIte, Nat.reduceAdd, Int.reduceToNat, Int.reduceLE, Int.reduceLT, Int.reduceEq, Int.reduceNe, Int.reduceAdd, Int.reduceSub, Int.reduceNeg, Nat.reduceLT, Nat.reduceLeDiff, Nat.reduceBEq, undef, (stA), Nat.reduceMul]; try simp (disch := omega) only [(vmp)])
  refine xWait.go (wordR_ok l i hl (by omega) _) ?_
  rw [hwr]
  (simp only [(vmA), Nat.reduceEqDiff, reduceIte, Nat.reduceAdd, Int.reduceToNat, Int.reduceLE, Int.reduceLT, Int.reduceEq, Int.reduceNe, Int.reduceAdd, Int.reduceSub, Int.reduceNeg, Nat.reduceLT, Nat.reduceLeDiff, Nat.reduceBEq, undef, (stA), Nat.reduceMul]; try simp (disch := omega) only [(vmp)])
  refine ⟨by omega, ?_⟩
  refine xWait.go (small_ok _ _) ?_
  cases h1 : btw 97 (l.getD i 0).toNat 122
  · (simp only [(vmA), Nat.reduceEqDiff, reduceIte, Nat.reduceAdd, Int.reduceToNat, Int.reduceLE, Int.reduceLT, Int.reduceEq, Int.reduceNe, Int.reduceAdd, Int.reduceSub, Int.reduceNeg, Nat.reduceLT, Nat.reduceLeDiff, Nat.reduceBEq, undef, (stA), Nat.reduceMul]; try simp (disch := omega) only [(vmp)])
    have h2 : btw 65 (l.getD i 0).toNat 90 = true := by simp only [letter, h1, Bool.false_or] at hlet; exact hlet
    have hlong := long_great true (l.drop i) (by rw [hg, Nat.add_zero]; exact h2)
    refine xloop (α := Nat × List UInt8) T0 (fun x => [(0, .str l), (1, i64 i), (6, i64 x.1), (7, .str x.2)]) (fun _ => σ) (fun _ => [])
      (fun x => x.1 ≤ l.length - i ∧ ((x.2 = kCon ∧ long true (l.drop i) = tail (l.drop i) x.1) ∨ (x.2 = kName ∧ long true (l.drop i) = (x.1, kName)))) (fun x => l.length - x.1) (by kernel_rfl)
      ⟨(word (l.drop i), kCon), ⟨by omega, .inl ⟨rfl, hlong⟩⟩, by (simp only [kCon, (vmA), Nat.reduceEqDiff, reduceIte, Nat.reduceAdd, Int.reduceToNat, Int.reduceLE, Int.reduceLT, Int.reduceEq, Int.reduceNe, Int.reduceAdd, Int.reduceSub, Int.reduceNeg, Nat.reduceLT, Nat.reduceLeDiff, Nat.reduceBEq, undef, (stA), Nat.reduceMul]; try simp (disch := omega) only [(vmp)]), rfl, rfl⟩ ?_
    rintro ⟨n, k⟩ ⟨hn, hk⟩
    simp only at hn hk
    (simp only [(vmA), Nat.reduceEqDiff, reduceIte, Nat.reduceAdd, Int.reduceToNat, Int.reduceLE, Int.reduceLT, Int.reduceEq, Int.reduceNe, Int.reduceAdd, Int.reduceSub, Int.reduceNeg, Nat.reduceLT, Nat.reduceLeDiff, Nat.reduceBEq, undef, (stA), Nat.reduceMul]; try simp (disch := omega) only [(vmp)])
    rcases hk with ⟨rfl, hk⟩ | ⟨rfl, hk⟩
    · (simp only [kCon, (vmA), Nat.reduceEqDiff, reduceIte, Nat.reduceAdd, Int.reduceToNat, Int.reduceLE, Int.reduceLT, Int.reduceEq, Int.reduceNe, Int.reduceAdd, Int.reduceSub, Int.reduceNeg, Nat.reduceLT, Nat.reduceLeDiff, Nat.reduceBEq, undef, (stA), Nat.reduceMul]; try simp (disch := omega) only [(vmp)])
      by_cases q1 : ((i + n : Nat) : Int) < l.length
      · (simp only [q1, (vmA), Nat.reduceEqDiff, reduceIte, Nat.reduceAdd, Int.reduceToNat, Int.reduceLE, Int.reduceLT, Int.reduceEq, Int.reduceNe, Int.reduceAdd, Int.reduceSub, Int.reduceNeg, Nat.reduceLT, Nat.reduceLeDiff, Nat.reduceBEq, undef, (stA), Nat.reduceMul]; try simp (disch := omega) only [(vmp)])
        refine ⟨by omega, ?_⟩
        by_cases q2 : ((l.getD (i + n) 0).toNat : Int) = 46
        · (simp only [q2, (vmA), Nat.reduceEqDiff, reduceIte, Nat.reduceAdd, Int.reduceToNat, Int.reduceLE, Int.reduceLT, Int.reduceEq, Int.reduceNe, Int.reduceAdd, Int.reduceSub, Int.reduceNeg, Nat.reduceLT, Nat.reduceLeDiff, Nat.reduceBEq, undef, (stA), Nat.reduceMul]; try simp (disch := omega) only [(vmp)])
          refine xWait.go (wordR_ok l (i + n + 1) hl (by omega) _) ?_
          (simp only [(vmA), Nat.reduceEqDiff, reduceIte, Nat.reduceAdd, Int.reduceToNat, Int.reduceLE, Int.reduceLT, Int.reduceEq, Int.reduceNe, Int.reduceAdd, Int.reduceSub, Int.reduceNeg, Nat.reduceLT, Nat.reduceLeDiff, Nat.reduceBEq, undef, (stA), Nat.reduceMul]; try simp (disch := omega) only [(vmp)])
          obtain ⟨t1, t2, t3⟩ := tail_dot (l.drop i) n (by omega) (by rw [hg]; omega)
          rw [hg, show i + (n + 1) = i + n + 1 by omega] at t1
          rw [hg, List.drop_drop, show i + (n + 1) = i + n + 1 by omega] at t2 t3
          cases hl2 : letter (l.getD (i + n + 1) 0)
          · have hz : wordR (l.drop (i + n + 1)) = 0 := by
              unfold wordR; rw [if_neg]; simp only [List.getD, List.getElem?_drop, Nat.add_zero] at hl2 ⊢; rw [hl2]; simp
            rw [hz]
            (simp only [(vmA), Nat.reduceEqDiff, reduceIte, Nat.reduceAdd, Int.reduceToNat, Int.reduceLE, Int.reduceLT, Int.reduceEq, Int.reduceNe, Int.reduceAdd, Int.reduceSub, Int.reduceNeg, Nat.reduceLT, Nat.reduceLeDiff, Nat.reduceBEq, undef, (stA), Nat.reduceMul, Int.natCast_zero]; try simp (disch := omega) only [(vmp)])
            rw [hk, t1 hl2]; rfl
          · have hz : wordR (l.drop (i + n + 1)) = word (l.drop (i + n + 1)) := by
              unfold wordR; rw [if_pos]; simp only [List.getD, List.getElem?_drop, Nat.add_zero] at hl2 ⊢; rw [hl2]
            have hpos := word_pos (l.drop (i + n + 1)) (by simp only [List.getD, List.getElem?_drop, Nat.add_zero] at hl2 ⊢; rw [hl2])
            have hwl := word_le (l.drop (i + n + 1))
            rw [List.length_drop] at hwl
            rw [hz]
            have hne : ¬ (word (l.drop (i + n + 1)) : Int) = 0 := by omega
            (simp only [hne, (vmA), Nat.reduceEqDiff, reduceIte, Nat.reduceAdd, Int.reduceToNat, Int.reduceLE, Int.reduceLT, Int.reduceEq, Int.reduceNe, Int.reduceAdd, Int.reduceSub, Int.reduceNeg, Nat.reduceLT, Nat.reduceLeDiff, Nat.reduceBEq, undef, (stA), Nat.reduceMul]; try simp (disch := omega) only [(vmp)])
            refine ⟨by omega, ?_⟩
            refine xWait.go (small_ok _ _) ?_
            cases h3 : btw 97 (l.getD (i + n + 1) 0).toNat 122
            · have h4 : btw 65 (l.getD (i + n + 1) 0).toNat 90 = true := by simp only [letter, h3, Bool.false_or] at hl2; exact hl2
              (simp only [(vmA), Nat.reduceEqDiff, reduceIte, Nat.reduceAdd, Int.reduceToNat, Int.reduceLE, Int.reduceLT, Int.reduceEq, Int.reduceNe, Int.reduceAdd, Int.reduceSub, Int.reduceNeg, Nat.reduceLT, Nat.reduceLeDiff, Nat.reduceBEq, undef, (stA), Nat.reduceMul]; try simp (disch := omega) only [(vmp)])
              refine ⟨(n + 1 + word (l.drop (i + n + 1)), kCon), ⟨by simp only; omega, .inl ⟨rfl, by rw [hk, t3 h4]⟩⟩, by simp only; omega, rfl, rfl⟩
            · (simp only [(vmA), Nat.reduceEqDiff, reduceIte, Nat.reduceAdd, Int.reduceToNat, Int.reduceLE, Int.reduceLT, Int.reduceEq, Int.reduceNe, Int.reduceAdd, Int.reduceSub, Int.reduceNeg, Nat.reduceLT, Nat.reduceLeDiff, Nat.reduceBEq, undef, (stA), Nat.reduceMul]; try simp (disch := omega) only [(vmp)])
              refine ⟨(n + 1 + word (l.drop (i + n + 1)), kName), ⟨by simp only; omega, .inr ⟨rfl, by rw [hk, t2 h3]⟩⟩, ?_, rfl, rfl⟩
              simp only; omega
        · (simp only [q2, (vmA), Nat.reduceEqDiff, reduceIte, Nat.reduceAdd, Int.reduceToNat, Int.reduceLE, Int.reduceLT, Int.reduceEq, Int.reduceNe, Int.reduceAdd, Int.reduceSub, Int.reduceNeg, Nat.reduceLT, Nat.reduceLeDiff, Nat.reduceBEq, undef, (stA), Nat.reduceMul]; try simp (disch := omega) only [(vmp)])
          rw [hk, tail, if_pos (by rw [hg]; omega)]; rfl
      · (simp only [q1, (vmA), Nat.reduceEqDiff, reduceIte, Nat.reduceAdd, Int.reduceToNat, Int.reduceLE, Int.reduceLT, Int.reduceEq, Int.reduceNe, Int.reduceAdd, Int.reduceSub, Int.reduceNeg, Nat.reduceLT, Nat.reduceLeDiff, Nat.reduceBEq, undef, (stA), Nat.reduceMul]; try simp (disch := omega) only [(vmp)])
        rw [hk, tail, if_pos (by omega)]; rfl
    · have hne : ¬ ([110, 97, 109, 101] : List UInt8) = [99, 111, 110] := by decide
      (simp only [kName, hne, (vmA), Nat.reduceEqDiff, reduceIte, Nat.reduceAdd, Int.reduceToNat, Int.reduceLE, Int.reduceLT, Int.reduceEq, Int.reduceNe, Int.reduceAdd, Int.reduceSub, Int.reduceNeg, Nat.reduceLT, Nat.reduceLeDiff, Nat.reduceBEq, undef, (stA), Nat.reduceMul]; try simp (disch := omega) only [(vmp)])
      rw [hk]; rfl
  · have hlong := long_small true (l.drop i) (by rw [hg, Nat.add_zero]; exact h1)
    (simp only [(vmA), Nat.reduceEqDiff, reduceIte, Nat.reduceAdd, Int.reduceToNat, Int.reduceLE, Int.reduceLT, Int.reduceEq, Int.reduceNe, Int.reduceAdd, Int.reduceSub, Int.reduceNeg, Nat.reduceLT, Nat.reduceLeDiff, Nat.reduceBEq, undef, (stA), Nat.reduceMul]; try simp (disch := omega) only [(vmp)])
    refine ⟨by omega, ?_⟩
    refine xWait.go (IsKey_ok _ (by simp; omega) _) ?_
    by_cases h4 : (l.drop i).take (word (l.drop i)) ∈ keys
    · (simp only [h4, (vmA), Nat.reduceEqDiff, reduceIte, Nat.reduceAdd, Int.reduceToNat, Int.reduceLE, Int.reduceLT, Int.reduceEq, Int.reduceNe, Int.reduceAdd, Int.reduceSub, Int.reduceNeg, Nat.reduceLT, Nat.reduceLeDiff, Nat.reduceBEq, undef, (stA), Nat.reduceMul]; try simp (disch := omega) only [(vmp)])
      rw [hlong, if_pos ⟨rfl, h4⟩]; rfl
    · (simp only [h4, (vmA), Nat.reduceEqDiff, reduceIte, Nat.reduceAdd, Int.reduceToNat, Int.reduceLE, Int.reduceLT, Int.reduceEq, Int.reduceNe, Int.reduceAdd, Int.reduceSub, Int.reduceNeg, Nat.reduceLT, Nat.reduceLeDiff, Nat.reduceBEq, undef, (stA), Nat.reduceMul]; try simp (disch := omega) only [(vmp)])
      rw [hlong, if_neg (by simpa using h4)]; rfl
end Go.D

/- The document's signs, numbers. -/
set_option linter.unusedVariables false
set_option linter.unusedSimpArgs false
set_option maxRecDepth 100000
namespace Go.D
open Go Go.Vm Go.Proofs Go.RowKit

def oneSigns : List UInt8 := [40, 41, 91, 93, 44, 59, 58, 61, 124, 95, 43, 45, 42, 47, 37, 60, 94]
theorem signsR_ok (l : List UInt8) (i : Nat) (hl : l.length ≤ 1099511627776) (hi : i < l.length) (σ : List Ent) :
    ACalls E 167 [.str l, i64 i] σ fun r τ => r = i64 (signsN (l.drop i)) ∧ τ = σ := by
  refine xacalls T0 .drop [] Tryz.func167 rfl (by kernel_rfl) (by kernel_rfl) (by simp [Tryz.ntmps167]) ?_
  have hg : (l.drop i).getD 0 0 = l.getD i 0 := by simp [List.getD]
  have two : ∀ a b : UInt8, (l.drop i).take 2 = [a, b] → i + 2 ≤ l.length := fun a b h => by
    have := congrArg List.length h
    simp only [List.length_take, List.length_drop, List.length_cons, List.length_nil] at this
    omega
  (simp only [(vmA), Nat.reduceEqDiff, reduceIte, Nat.reduceAdd, Int.reduceToNat, Int.reduceLE, Int.reduceLT, Int.reduceEq, Int.reduceNe, Int.reduceAdd, Int.reduceSub, Int.reduceNeg, Nat.reduceLT, Nat.reduceLeDiff, Nat.reduceBEq, undef, (stA), Nat.reduceMul]; try simp (disch := omega) only [(vmp)])
  refine xCond.cut (.cut (fun ts g l' => Sub ts [(0, .str l), (1, i64 i)] ∧ ¬ ((l.drop i).take 2 = [58, 58] ∨ (l.drop i).take 2 = [61, 62] ∨ (l.drop i).take 2 = [45, 62] ∨ (l.drop i).take 2 = [58, 62]) ∧ g = σ ∧ l' = []) ?_) ?_
  · rintro ts g l' ⟨hsub, hno, rfl, rfl⟩
    simp only [sub_cons, sub_nil, and_true] at hsub
    obtain ⟨h0, h1⟩ := hsub
    unfold signsN
    rw [if_neg hno, hg]
    have hlt : (i : Int) < l.length := by omega
    (simp only [h0, h1, hlt, (vmA), Nat.reduceEqDiff, reduceIte, Nat.reduceAdd, Int.reduceToNat, Int.reduceLE, Int.reduceLT, Int.reduceEq, Int.reduceNe, Int.reduceAdd, Int.reduceSub, Int.reduceNeg, Nat.reduceLT, Nat.reduceLeDiff, Nat.reduceBEq, undef, (stA), Nat.reduceMul]; try simp (disch := omega) only [(vmp)])
    refine xWait.go (IndexByte_ok _ _ _) ?_
    rw [toU8]
    have hm := indexByte_mem oneSigns (l.getD i 0)
    unfold oneSigns at hm
    by_cases h2 : (0 : Int) ≤ Lib.indexByte [40, 41, 91, 93, 44, 59, 58, 61, 124, 95, 43, 45, 42, 47, 37, 60, 94] (l.getD i 0)
    · rw [if_pos (hm.1 h2)]
      (simp only [h0, h1, h2, (vmA), Nat.reduceEqDiff, reduceIte, Nat.reduceAdd, Int.reduceToNat, Int.reduceLE, Int.reduceLT, Int.reduceEq, Int.reduceNe, Int.reduceAdd, Int.reduceSub, Int.reduceNeg, Nat.reduceLT, Nat.reduceLeDiff, Nat.reduceBEq, undef, (stA), Nat.reduceMul, Int.natCast_one]; try simp (disch := omega) only [(vmp)])
    · rw [if_neg (fun e => h2 (hm.2 e))]
      (simp only [h0, h1, h2, (vmA), Nat.reduceEqDiff, reduceIte, Nat.reduceAdd, Int.reduceToNat, Int.reduceLE, Int.reduceLT, Int.reduceEq, Int.reduceNe, Int.reduceAdd, Int.reduceSub, Int.reduceNeg, Nat.reduceLT, Nat.reduceLeDiff, Nat.reduceBEq, undef, (stA), Nat.reduceMul, Int.natCast_zero]; try simp (disch := omega) only [(vmp)])
  · by_cases q : ((i + 2 : Nat) : Int) ≤ l.length
    · (simp only [q, (vmA), Nat.reduceEqDiff, reduceIte, Nat.reduceAdd, Int.reduceToNat, Int.reduceLE, Int.reduceLT, Int.reduceEq, Int.reduceNe, Int.reduceAdd, Int.reduceSub, Int.reduceNeg, Nat.reduceLT, Nat.reduceLeDiff, Nat.reduceBEq, undef, (stA), Nat.reduceMul]; try simp (disch := omega) only [(vmp)])
      refine ⟨by omega, ?_⟩
      unfold signsN
      by_cases h1 : (l.drop i).take 2 = [58, 58]
      · (simp only [h1, (vmA), Nat.reduceEqDiff, reduceIte, Nat.reduceAdd, Int.reduceToNat, Int.reduceLE, Int.reduceLT, Int.reduceEq, Int.reduceNe, Int.reduceAdd, Int.reduceSub, Int.reduceNeg, Nat.reduceLT, Nat.reduceLeDiff, Nat.reduceBEq, undef, (stA), Nat.reduceMul, true_or]; try simp (disch := omega) only [(vmp)])
      · (simp only [h1, (vmA), Nat.reduceEqDiff, reduceIte, Nat.reduceAdd, Int.reduceToNat, Int.reduceLE, Int.reduceLT, Int.reduceEq, Int.reduceNe, Int.reduceAdd, Int.reduceSub, Int.reduceNeg, Nat.reduceLT, Nat.reduceLeDiff, Nat.reduceBEq, undef, (stA), Nat.reduceMul, false_or]; try simp (disch := omega) only [(vmp)])
        by_cases h2 : (l.drop i).take 2 = [61, 62]
        · (simp only [h2, (vmA), Nat.reduceEqDiff, reduceIte, Nat.reduceAdd, Int.reduceToNat, Int.reduceLE, Int.reduceLT, Int.reduceEq, Int.reduceNe, Int.reduceAdd, Int.reduceSub, Int.reduceNeg, Nat.reduceLT, Nat.reduceLeDiff, Nat.reduceBEq, undef, (stA), Nat.reduceMul, true_or]; try simp (disch := omega) only [(vmp)])
        · (simp only [h2, (vmA), Nat.reduceEqDiff, reduceIte, Nat.reduceAdd, Int.reduceToNat, Int.reduceLE, Int.reduceLT, Int.reduceEq, Int.reduceNe, Int.reduceAdd, Int.reduceSub, Int.reduceNeg, Nat.reduceLT, Nat.reduceLeDiff, Nat.reduceBEq, undef, (stA), Nat.reduceMul, false_or]; try simp (disch := omega) only [(vmp)])
          by_cases h3 : (l.drop i).take 2 = [45, 62]
          · (simp only [h3, (vmA), Nat.reduceEqDiff, reduceIte, Nat.reduceAdd, Int.reduceToNat, Int.reduceLE, Int.reduceLT, Int.reduceEq, Int.reduceNe, Int.reduceAdd, Int.reduceSub, Int.reduceNeg, Nat.reduceLT, Nat.reduceLeDiff, Nat.reduceBEq, undef, (stA), Nat.reduceMul, true_or]; try simp (disch := omega) only [(vmp)])
          · (simp only [h3, (vmA), Nat.reduceEqDiff, reduceIte, Nat.reduceAdd, Int.reduceToNat, Int.reduceLE, Int.reduceLT, Int.reduceEq, Int.reduceNe, Int.reduceAdd, Int.reduceSub, Int.reduceNeg, Nat.reduceLT, Nat.reduceLeDiff, Nat.reduceBEq, undef, (stA), Nat.reduceMul, false_or]; try simp (disch := omega) only [(vmp)])
            by_cases h4 : (l.drop i).take 2 = [58, 62]
            · (simp only [h4, (vmA), Nat.reduceEqDiff, reduceIte, Nat.reduceAdd, Int.reduceToNat, Int.reduceLE, Int.reduceLT, Int.reduceEq, Int.reduceNe, Int.reduceAdd, Int.reduceSub, Int.reduceNeg, Nat.reduceLT, Nat.reduceLeDiff, Nat.reduceBEq, undef, (stA), Nat.reduceMul]; try simp (disch := omega) only [(vmp)])
            · (simp only [h4, (vmA), Nat.reduceEqDiff, reduceIte, Nat.reduceAdd, Int.reduceToNat, Int.reduceLE, Int.reduceLT, Int.reduceEq, Int.reduceNe, Int.reduceAdd, Int.reduceSub, Int.reduceNeg, Nat.reduceLT, Nat.reduceLeDiff, Nat.reduceBEq, undef, (stA), Nat.reduceMul, not_false_eq_true]; try simp (disch := omega) only [(vmp)])
    · (simp only [q, (vmA), Nat.reduceEqDiff, reduceIte, Nat.reduceAdd, Int.reduceToNat, Int.reduceLE, Int.reduceLT, Int.reduceEq, Int.reduceNe, Int.reduceAdd, Int.reduceSub, Int.reduceNeg, Nat.reduceLT, Nat.reduceLeDiff, Nat.reduceBEq, undef, (stA), Nat.reduceMul]; try simp (disch := omega) only [(vmp)])
      rintro (h | h | h | h)
      all_goals exact q (by have := two _ _ h; omega)

theorem numberR_ok (l : List UInt8) (i : Nat) (hl : l.length ≤ 1099511627776) (hi : i < l.length) (σ : List Ent) :
    ACalls E 165 [.str l, i64 i] σ fun r τ => r = i64 (digits (l.drop i)) ∧ τ = σ := by
  refine xacalls T0 .drop [] Tryz.func165 rfl (by kernel_rfl) (by kernel_rfl) (by simp [Tryz.ntmps165]) ?_
  have hg : ∀ j, (l.drop i).getD j 0 = l.getD (i + j) 0 := fun j => by simp [List.getD]
  have hdl : (l.drop i).length = l.length - i := List.length_drop
  have hn := negN_le (l.drop i)
  have hdig := digits.eq_def (l.drop i)
  rw [hg, hdl] at hdig
  (simp only [(vmA), Nat.reduceEqDiff, reduceIte, Nat.reduceAdd, Int.reduceToNat, Int.reduceLE, Int.reduceLT, Int.reduceEq, Int.reduceNe, Int.reduceAdd, Int.reduceSub, Int.reduceNeg, Nat.reduceLT, Nat.reduceLeDiff, Nat.reduceBEq, undef, (stA), Nat.reduceMul]; try simp (disch := omega) only [(vmp)])
  refine xGuard.cut (.seq (.cut (fun ts g l' => Sub ts [(0, .str l), (1, i64 i), (5, i64 (negN (l.drop i)))] ∧ g = σ ∧ l' = []) ?_)) ?_
  · generalize negN (l.drop i) = n at *
    rintro ts g l' ⟨hsub, rfl, rfl⟩
    simp only [sub_cons, sub_nil, and_true] at hsub
    obtain ⟨h0, h1, h5⟩ := hsub
    (simp only [h0, h1, h5, (vmA), Nat.reduceEqDiff, reduceIte, Nat.reduceAdd, Int.reduceToNat, Int.reduceLE, Int.reduceLT, Int.reduceEq, Int.reduceNe, Int.reduceAdd, Int.reduceSub, Int.reduceNeg, Nat.reduceLT, Nat.reduceLeDiff, Nat.reduceBEq, undef, (stA), Nat.reduceMul]; try simp (disch := omega) only [(vmp)])
    by_cases q : (l.length : Int) ≤ ((i + n : Nat) : Int)
    · (simp only [h0, h1, h5, q, (vmA), Nat.reduceEqDiff, reduceIte, Nat.reduceAdd, Int.reduceToNat, Int.reduceLE, Int.reduceLT, Int.reduceEq, Int.reduceNe, Int.reduceAdd, Int.reduceSub, Int.reduceNeg, Nat.reduceLT, Nat.reduceLeDiff, Nat.reduceBEq, undef, (stA), Nat.reduceMul]; try simp (disch := omega) only [(vmp)])
      rw [hdig, if_pos (by omega)]; rfl
    · rw [if_neg (by omega)] at hdig
      (simp only [h0, h1, h5, q, (vmA), Nat.reduceEqDiff, reduceIte, Nat.reduceAdd, Int.reduceToNat, Int.reduceLE, Int.reduceLT, Int.reduceEq, Int.reduceNe, Int.reduceAdd, Int.reduceSub, Int.reduceNeg, Nat.reduceLT, Nat.reduceLeDiff, Nat.reduceBEq, undef, (stA), Nat.reduceMul]; try simp (disch := omega) only [(vmp)])
      refine ⟨by omega, ?_⟩
      refine xWait.go (digit_ok _ _) ?_
      cases h6 : btw 48 (l.getD (i + n) 0).toNat 57
      · rw [if_neg (by unfold isDig; rw [h6]; simp)] at hdig
        (simp only [h0, h1, h5, (vmA), Nat.reduceEqDiff, reduceIte, Nat.reduceAdd, Int.reduceToNat, Int.reduceLE, Int.reduceLT, Int.reduceEq, Int.reduceNe, Int.reduceAdd, Int.reduceSub, Int.reduceNeg, Nat.reduceLT, Nat.reduceLeDiff, Nat.reduceBEq, undef, (stA), Nat.reduceMul]; try simp (disch := omega) only [(vmp)])
        rw [hdig]; rfl
      · rw [if_pos (by unfold isDig; rw [h6])] at hdig
        (simp only [h0, h1, h5, (vmA), Nat.reduceEqDiff, reduceIte, Nat.reduceAdd, Int.reduceToNat, Int.reduceLE, Int.reduceLT, Int.reduceEq, Int.reduceNe, Int.reduceAdd, Int.reduceSub, Int.reduceNeg, Nat.reduceLT, Nat.reduceLeDiff, Nat.reduceBEq, undef, (stA), Nat.reduceMul]; try simp (disch := omega) only [(vmp)])
        refine ⟨by omega, ?_⟩
        by_cases h7 : ((l.getD (i + n) 0).toNat : Int) = 48
        · rw [if_pos h7] at hdig
          (simp only [h0, h1, h5, h7, (vmA), Nat.reduceEqDiff, reduceIte, Nat.reduceAdd, Int.reduceToNat, Int.reduceLE, Int.reduceLT, Int.reduceEq, Int.reduceNe, Int.reduceAdd, Int.reduceSub, Int.reduceNeg, Nat.reduceLT, Nat.reduceLeDiff, Nat.reduceBEq, undef, (stA), Nat.reduceMul]; try simp (disch := omega) only [(vmp)])
          rw [hdig]
        · rw [if_neg h7, List.drop_drop] at hdig
          (simp only [h0, h1, h5, h7, (vmA), Nat.reduceEqDiff, reduceIte, Nat.reduceAdd, Int.reduceToNat, Int.reduceLE, Int.reduceLT, Int.reduceEq, Int.reduceNe, Int.reduceAdd, Int.reduceSub, Int.reduceNeg, Nat.reduceLT, Nat.reduceLeDiff, Nat.reduceBEq, undef, (stA), Nat.reduceMul]; try simp (disch := omega) only [(vmp)])
          have hg2 : ∀ j, (l.drop (i + n)).getD j 0 = l.getD (i + n + j) 0 := fun j => by simp [List.getD]
          have hdl2 : (l.drop (i + n)).length = l.length - (i + n) := List.length_drop
          refine xloop (α := Nat) T0 (fun j => [(0, .str l), (1, i64 i), (5, i64 (n + j : Nat))]) (fun _ => g) (fun _ => []) (fun j => j ≤ (l.drop (i + n)).length ∧ ∀ x ∈ (l.drop (i + n)).take j, pB isDig x = true) (fun j => l.length - j) (by kernel_rfl)
            ⟨0, by simp, by (simp only [h0, h1, h5, (vmA), Nat.reduceEqDiff, reduceIte, Nat.reduceAdd, Int.reduceToNat, Int.reduceLE, Int.reduceLT, Int.reduceEq, Int.reduceNe, Int.reduceAdd, Int.reduceSub, Int.reduceNeg, Nat.reduceLT, Nat.reduceLeDiff, Nat.reduceBEq, undef, (stA), Nat.reduceMul]; try simp (disch := omega) only [(vmp)]), rfl, rfl⟩ ?_
          rintro j ⟨hj, hall⟩
          (simp only [(vmA), Nat.reduceEqDiff, reduceIte, Nat.reduceAdd, Int.reduceToNat, Int.reduceLE, Int.reduceLT, Int.reduceEq, Int.reduceNe, Int.reduceAdd, Int.reduceSub, Int.reduceNeg, Nat.reduceLT, Nat.reduceLeDiff, Nat.reduceBEq, undef, (stA), Nat.reduceMul]; try simp (disch := omega) only [(vmp)])
          by_cases h8 : ((i + (n + j) : Nat) : Int) < l.length
          · (simp only [h8, (vmA), Nat.reduceEqDiff, reduceIte, Nat.reduceAdd, Int.reduceToNat, Int.reduceLE, Int.reduceLT, Int.reduceEq, Int.reduceNe, Int.reduceAdd, Int.reduceSub, Int.reduceNeg, Nat.reduceLT, Nat.reduceLeDiff, Nat.reduceBEq, undef, (stA), Nat.reduceMul]; try simp (disch := omega) only [(vmp)])
            refine ⟨by omega, ?_⟩
            refine xWait.go (digit_ok _ _) ?_
            rw [← Nat.add_assoc]
            cases hp : btw 48 (l.getD (i + n + j) 0).toNat 57
            · (simp only [(vmA), Nat.reduceEqDiff, reduceIte, Nat.reduceAdd, Int.reduceToNat, Int.reduceLE, Int.reduceLT, Int.reduceEq, Int.reduceNe, Int.reduceAdd, Int.reduceSub, Int.reduceNeg, Nat.reduceLT, Nat.reduceLeDiff, Nat.reduceBEq, undef, (stA), Nat.reduceMul]; try simp (disch := omega) only [(vmp)])
              rw [hdig, takeWhile_len hj hall fun _ => by rw [hg2]; exact hp]
            · (simp only [(vmA), Nat.reduceEqDiff, reduceIte, Nat.reduceAdd, Int.reduceToNat, Int.reduceLE, Int.reduceLT, Int.reduceEq, Int.reduceNe, Int.reduceAdd, Int.reduceSub, Int.reduceNeg, Nat.reduceLT, Nat.reduceLeDiff, Nat.reduceBEq, undef, (stA), Nat.reduceMul]; try simp (disch := omega) only [(vmp)])
              exact ⟨j + 1, ⟨by omega, take_succ_all (by omega) hall (by rw [hg2]; exact hp)⟩, by omega, rfl⟩
          · (simp only [h8, (vmA), Nat.reduceEqDiff, reduceIte, Nat.reduceAdd, Int.reduceToNat, Int.reduceLE, Int.reduceLT, Int.reduceEq, Int.reduceNe, Int.reduceAdd, Int.reduceSub, Int.reduceNeg, Nat.reduceLT, Nat.reduceLeDiff, Nat.reduceBEq, undef, (stA), Nat.reduceMul]; try simp (disch := omega) only [(vmp)])
            rw [hdig, takeWhile_len hj hall fun hh => absurd (by omega) h8]
  · have hneg := negB.eq_def (l.drop i)
    rw [hg, hg, hdl, Nat.add_zero] at hneg
    have f0 : negB (l.drop i) = false → negN (l.drop i) = 0 := fun e => by simp [negN, e]
    have f1 : negB (l.drop i) = true → negN (l.drop i) = 1 := fun e => by simp [negN, e]
    by_cases h1 : ((i + 1 : Nat) : Int) < l.length
    · have h1' : (1 : Int) < ((l.length - i : Nat) : Int) := by omega
      simp only [h1', decide_true, Bool.true_and] at hneg
      (simp only [h1, (vmA), Nat.reduceEqDiff, reduceIte, Nat.reduceAdd, Int.reduceToNat, Int.reduceLE, Int.reduceLT, Int.reduceEq, Int.reduceNe, Int.reduceAdd, Int.reduceSub, Int.reduceNeg, Nat.reduceLT, Nat.reduceLeDiff, Nat.reduceBEq, undef, (stA), Nat.reduceMul]; try simp (disch := omega) only [(vmp)])
      refine ⟨by omega, ?_⟩
      by_cases h2 : ((l.getD i 0).toNat : Int) = 45
      · simp only [h2, decide_true, Bool.true_and] at hneg
        (simp only [h1, h2, (vmA), Nat.reduceEqDiff, reduceIte, Nat.reduceAdd, Int.reduceToNat, Int.reduceLE, Int.reduceLT, Int.reduceEq, Int.reduceNe, Int.reduceAdd, Int.reduceSub, Int.reduceNeg, Nat.reduceLT, Nat.reduceLeDiff, Nat.reduceBEq, undef, (stA), Nat.reduceMul]; try simp (disch := omega) only [(vmp)])
        refine ⟨by omega, ?_⟩
        refine xWait.go (digit_ok _ _) ?_
        by_cases h3 : btw 48 (l.getD (i + 1) 0).toNat 57 = true
        · (simp only [h3, (vmA), Nat.reduceEqDiff, reduceIte, Nat.reduceAdd, Int.reduceToNat, Int.reduceLE, Int.reduceLT, Int.reduceEq, Int.reduceNe, Int.reduceAdd, Int.reduceSub, Int.reduceNeg, Nat.reduceLT, Nat.reduceLeDiff, Nat.reduceBEq, undef, (stA), Nat.reduceMul]; try simp (disch := omega) only [(vmp)])
          refine ⟨by omega, ?_⟩
          by_cases h4 : ((l.getD (i + 1) 0).toNat : Int) = 48
          · rw [h4] at hneg
            (simp only [h4, (vmA), Nat.reduceEqDiff, reduceIte, Nat.reduceAdd, Int.reduceToNat, Int.reduceLE, Int.reduceLT, Int.reduceEq, Int.reduceNe, Int.reduceAdd, Int.reduceSub, Int.reduceNeg, Nat.reduceLT, Nat.reduceLeDiff, Nat.reduceBEq, undef, (stA), Nat.reduceMul]; try simp (disch := omega) only [(vmp)])
            rw [f0 (by rw [hneg]; rfl)]; rfl
          · have h5 : btw 49 (l.getD (i + 1) 0).toNat 57 = true := by rw [btw_iff] at h3 ⊢; omega
            (simp only [h4, (vmA), Nat.reduceEqDiff, reduceIte, Nat.reduceAdd, Int.reduceToNat, Int.reduceLE, Int.reduceLT, Int.reduceEq, Int.reduceNe, Int.reduceAdd, Int.reduceSub, Int.reduceNeg, Nat.reduceLT, Nat.reduceLeDiff, Nat.reduceBEq, undef, (stA), Nat.reduceMul]; try simp (disch := omega) only [(vmp)])
            rw [f1 (by rw [hneg]; exact h5)]; rfl
        · have h5 : btw 49 (l.getD (i + 1) 0).toNat 57 = false := by
            rw [← Bool.not_eq_true, btw_iff]; rw [btw_iff] at h3; omega
          rw [Bool.not_eq_true] at h3
          (simp only [h3, (vmA), Nat.reduceEqDiff, reduceIte, Nat.reduceAdd, Int.reduceToNat, Int.reduceLE, Int.reduceLT, Int.reduceEq, Int.reduceNe, Int.reduceAdd, Int.reduceSub, Int.reduceNeg, Nat.reduceLT, Nat.reduceLeDiff, Nat.reduceBEq, undef, (stA), Nat.reduceMul]; try simp (disch := omega) only [(vmp)])
          rw [f0 (by rw [hneg]; exact h5)]; rfl
      · simp only [h2, decide_false, Bool.false_and] at hneg
        (simp only [h2, (vmA), Nat.reduceEqDiff, reduceIte, Nat.reduceAdd, Int.reduceToNat, Int.reduceLE, Int.reduceLT, Int.reduceEq, Int.reduceNe, Int.reduceAdd, Int.reduceSub, Int.reduceNeg, Nat.reduceLT, Nat.reduceLeDiff, Nat.reduceBEq, undef, (stA), Nat.reduceMul]; try simp (disch := omega) only [(vmp)])
        rw [f0 hneg]; rfl
    · have h1' : ¬ (1 : Int) < ((l.length - i : Nat) : Int) := by omega
      simp only [h1', decide_false, Bool.false_and] at hneg
      (simp only [h1, (vmA), Nat.reduceEqDiff, reduceIte, Nat.reduceAdd, Int.reduceToNat, Int.reduceLE, Int.reduceLT, Int.reduceEq, Int.reduceNe, Int.reduceAdd, Int.reduceSub, Int.reduceNeg, Nat.reduceLT, Nat.reduceLeDiff, Nat.reduceBEq, undef, (stA), Nat.reduceMul]; try simp (disch := omega) only [(vmp)])
      rw [f0 hneg]; rfl
end Go.D

/- The document's test of a number's size; its comments. -/
set_option linter.unusedVariables false
set_option linter.unusedSimpArgs false
set_option maxRecDepth 100000
namespace Go.D
open Go Go.Vm Go.Proofs Go.RowKit

theorem fitsR_ok (l : List UInt8) (hl : l.length ≤ 1099511627776) (hpos : 0 < l.length) (σ : List Ent) :
    ACalls E 166 [.str l] σ fun r τ => r = boolV (fits l) ∧ τ = σ := by
  refine xacalls T0 .drop [] Tryz.func166 rfl (by kernel_rfl) (by kernel_rfl) (by simp [Tryz.ntmps166]) ?_
  have fin : ∀ (neg : Bool) (d : List UInt8), fitsD neg d = (decide ((d.length : Int) < 19) || (decide ((d.length : Int) = 19) && !Op.bytesLess (most neg) d)) := fun neg d => by
    unfold fitsD
    have e1 : (((d.length : Int) < 19)) = (d.length < 19) := propext ⟨fun h => by omega, fun h => by omega⟩
    have e2 : (((d.length : Int) = 19)) = (d.length = 19) := propext ⟨fun h => by omega, fun h => by omega⟩
    simp only [e1, e2]
  have m0 : most false = [57, 50, 50, 51, 51, 55, 50, 48, 51, 54, 56, 53, 52, 55, 55, 53, 56, 48, 55] := rfl
  have m1 : most true = [57, 50, 50, 51, 51, 55, 50, 48, 51, 54, 56, 53, 52, 55, 55, 53, 56, 48, 56] := rfl
  (simp only [(vmA), Nat.reduceEqDiff, reduceIte, Nat.reduceAdd, Int.reduceToNat, Int.reduceLE, Int.reduceLT, Int.reduceEq, Int.reduceNe, Int.reduceAdd, Int.reduceSub, Int.reduceNeg, Nat.reduceLT, Nat.reduceLeDiff, Nat.reduceBEq, undef, (stA), Nat.reduceMul]; try simp (disch := omega) only [(vmp)])
  refine ⟨by omega, ?_⟩
  by_cases h : ((l.getD 0 0).toNat : Int) = 45
  · have h' : l.getD 0 0 = 45 := (u8_eq _ 45 (by omega)).1 h
    have hf : fits l = fitsD true (l.drop 1) := by unfold fits body; simp only [h', decide_true, if_true]
    rw [hf, fin, m1]
    (simp only [h, (vmA), Nat.reduceEqDiff, reduceIte, Nat.reduceAdd, Int.reduceToNat, Int.reduceLE, Int.reduceLT, Int.reduceEq, Int.reduceNe, Int.reduceAdd, Int.reduceSub, Int.reduceNeg, Nat.reduceLT, Nat.reduceLeDiff, Nat.reduceBEq, undef, (stA), Nat.reduceMul]; try simp (disch := omega) only [(vmp)])
    refine ⟨by omega, ?_⟩
    by_cases q : (((l.drop 1).length : Nat) : Int) < 19
    · (simp only [q, (vmA), Nat.reduceEqDiff, reduceIte, Nat.reduceAdd, Int.reduceToNat, Int.reduceLE, Int.reduceLT, Int.reduceEq, Int.reduceNe, Int.reduceAdd, Int.reduceSub, Int.reduceNeg, Nat.reduceLT, Nat.reduceLeDiff, Nat.reduceBEq, undef, (stA), Nat.reduceMul]; try simp (disch := omega) only [(vmp)])
    · by_cases q2 : (((l.drop 1).length : Nat) : Int) = 19
      · (simp only [q, q2, (vmA), Nat.reduceEqDiff, reduceIte, Nat.reduceAdd, Int.reduceToNat, Int.reduceLE, Int.reduceLT, Int.reduceEq, Int.reduceNe, Int.reduceAdd, Int.reduceSub, Int.reduceNeg, Nat.reduceLT, Nat.reduceLeDiff, Nat.reduceBEq, undef, (stA), Nat.reduceMul]; try simp (disch := omega) only [(vmp)])
      · (simp only [q, q2, (vmA), Nat.reduceEqDiff, reduceIte, Nat.reduceAdd, Int.reduceToNat, Int.reduceLE, Int.reduceLT, Int.reduceEq, Int.reduceNe, Int.reduceAdd, Int.reduceSub, Int.reduceNeg, Nat.reduceLT, Nat.reduceLeDiff, Nat.reduceBEq, undef, (stA), Nat.reduceMul]; try simp (disch := omega) only [(vmp)])
  · have h' : ¬ l.getD 0 0 = 45 := fun e => h ((u8_eq _ 45 (by omega)).2 e)
    have hf : fits l = fitsD false l := by unfold fits body; simp only [h', decide_false, if_false]
    rw [hf, fin, m0]
    (simp only [h, (vmA), Nat.reduceEqDiff, reduceIte, Nat.reduceAdd, Int.reduceToNat, Int.reduceLE, Int.reduceLT, Int.reduceEq, Int.reduceNe, Int.reduceAdd, Int.reduceSub, Int.reduceNeg, Nat.reduceLT, Nat.reduceLeDiff, Nat.reduceBEq, undef, (stA), Nat.reduceMul]; try simp (disch := omega) only [(vmp)])
    by_cases q : (l.length : Int) < 19
    · (simp only [q, (vmA), Nat.reduceEqDiff, reduceIte, Nat.reduceAdd, Int.reduceToNat, Int.reduceLE, Int.reduceLT, Int.reduceEq, Int.reduceNe, Int.reduceAdd, Int.reduceSub, Int.reduceNeg, Nat.reduceLT, Nat.reduceLeDiff, Nat.reduceBEq, undef, (stA), Nat.reduceMul]; try simp (disch := omega) only [(vmp)])
    · by_cases q2 : (l.length : Int) = 19
      · (simp only [q, q2, (vmA), Nat.reduceEqDiff, reduceIte, Nat.reduceAdd, Int.reduceToNat, Int.reduceLE, Int.reduceLT, Int.reduceEq, Int.reduceNe, Int.reduceAdd, Int.reduceSub, Int.reduceNeg, Nat.reduceLT, Nat.reduceLeDiff, Nat.reduceBEq, undef, (stA), Nat.reduceMul]; try simp (disch := omega) only [(vmp)])
      · (simp only [q, q2, (vmA), Nat.reduceEqDiff, reduceIte, Nat.reduceAdd, Int.reduceToNat, Int.reduceLE, Int.reduceLT, Int.reduceEq, Int.reduceNe, Int.reduceAdd, Int.reduceSub, Int.reduceNeg, Nat.reduceLT, Nat.reduceLeDiff, Nat.reduceBEq, undef, (stA), Nat.reduceMul]; try simp (disch := omega) only [(vmp)])

theorem cs_step (d : Nat) (x : List UInt8) (hx : 0 < x.length) :
    (Lib.hasPrefix x [40, 42] = true → 2 ≤ x.length ∧ cs d x = (cs (d + 1) (x.drop 2)).map (· + 2)) ∧
    (Lib.hasPrefix x [40, 42] = false → Lib.hasPrefix x [42, 41] = true → 2 ≤ x.length ∧ cs d x = if d = 1 then some 2 else (cs (d - 1) (x.drop 2)).map (· + 2)) ∧
    (Lib.hasPrefix x [40, 42] = false → Lib.hasPrefix x [42, 41] = false → cs d x = (cs d (x.drop 1)).map (· + 1)) := by
  rcases x with _ | ⟨a, _ | ⟨b, r⟩⟩
  · simp at hx
  · refine ⟨fun h => ?_, fun _ h => ?_, fun _ _ => rfl⟩
    · simp [Lib.hasPrefix, List.isPrefixOf] at h
    · simp [Lib.hasPrefix, List.isPrefixOf] at h
  · have e : ∀ p q : UInt8, Lib.hasPrefix (a :: b :: r) [p, q] = true ↔ a = p ∧ b = q := fun p q => by
      simp [Lib.hasPrefix, List.isPrefixOf]
      exact ⟨fun h => ⟨h.1.symm, h.2.symm⟩, fun h => ⟨h.1.symm, h.2.symm⟩⟩
    refine ⟨fun h => ⟨by simp, ?_⟩, fun h h2 => ⟨by simp, ?_⟩, fun h h2 => ?_⟩
    · rw [cs, if_pos ((e _ _).1 h)]; rfl
    · rw [cs, if_neg (fun hh => by rw [(e _ _).2 hh] at h; cases h), if_pos ((e _ _).1 h2)]; rfl
    · rw [cs, if_neg (fun hh => by rw [(e _ _).2 hh] at h; cases h), if_neg (fun hh => by rw [(e _ _).2 hh] at h2; cases h2)]; rfl

end Go.D

/- The document's quoted texts. -/
set_option linter.unusedVariables false
set_option linter.unusedSimpArgs false
set_option maxRecDepth 100000
namespace Go.D
open Go Go.Vm Go.Proofs Go.RowKit

/-- A row of bytes that is appended to: what names it, what it holds. -/
def rA (m : Nat) : List UInt8 → AV
  | [] => .v (.slice none 0 0)
  | _ :: r => .rsl m r.length 0 (r.length + 1) 1
def rE : List UInt8 → List Ent
  | [] => []
  | b :: r => [.arr 5 ((b :: r).map byteAV) r.length 0]

set_option maxHeartbeats 4000000 in
theorem quotedR_ok (l : List UInt8) (i : Nat) (hl : l.length ≤ 1099511627776) (hi : i < l.length) (hq : l.getD i 0 = 34) (σ : List Ent) :
    ACalls E 164 [.str l, i64 i] σ fun r τ => r = (match qS (l.drop (i + 1)) with | some x => AV.tup [i64 (x.1 + 1 : Nat), .str x.2] | none => .tup [i64 0, .str []]) ∧ τ = σ := by
  refine xacalls T0 .drop [] Tryz.func164 rfl (by kernel_rfl) (by kernel_rfl) (by simp [Tryz.ntmps164]) ?_
  (simp only [(vmA), Nat.reduceEqDiff, reduceIte, Nat.reduceAdd, Int.reduceToNat, Int.reduceLE, Int.reduceLT, Int.reduceEq, Int.reduceNe, Int.reduceAdd, Int.reduceSub, Int.reduceNeg, Nat.reduceLT, Nat.reduceLeDiff, Nat.reduceBEq, undef, (stA), Nat.reduceMul]; try simp (disch := omega) only [(vmp)])
  have h1 : ¬ (l.length : Int) ≤ i := by omega
  have hq' : ((l.getD i 0).toNat : Int) = 34 := by rw [hq]; rfl
  (simp only [h1, hq', (vmA), Nat.reduceEqDiff, reduceIte, Nat.reduceAdd, Int.reduceToNat, Int.reduceLE, Int.reduceLT, Int.reduceEq, Int.reduceNe, Int.reduceAdd, Int.reduceSub, Int.reduceNeg, Nat.reduceLT, Nat.reduceLeDiff, Nat.reduceBEq, undef, (stA), Nat.reduceMul]; try simp (disch := omega) only [(vmp)])
  refine ⟨by omega, ?_⟩
  refine xloop (α := Nat × List UInt8) T0 (fun x => [(0, .str l), (1, i64 i), (6, rA σ.length x.2), (7, i64 x.1)]) (fun _ => σ) (fun x => rE x.2)
    (fun x => i + 1 ≤ x.1 ∧ x.1 ≤ l.length ∧ x.2.length ≤ x.1 ∧ qS (l.drop (i + 1)) = (qS (l.drop x.1)).map fun y => (y.1 + (x.1 - (i + 1)), x.2 ++ y.2)) (fun x => l.length - x.1) (by kernel_rfl)
    ⟨(i + 1, []), ⟨by simp only; omega, by simp only; omega, by simp, by simp⟩, by (simp only [rA, (vmA), Nat.reduceEqDiff, reduceIte, Nat.reduceAdd, Int.reduceToNat, Int.reduceLE, Int.reduceLT, Int.reduceEq, Int.reduceNe, Int.reduceAdd, Int.reduceSub, Int.reduceNeg, Nat.reduceLT, Nat.reduceLeDiff, Nat.reduceBEq, undef, (stA), Nat.reduceMul]; try simp (disch := omega) only [(vmp)]), rfl, rfl⟩ ?_
  generalize hR : qS (l.drop (i + 1)) = R
  rintro ⟨j, acc⟩ ⟨h2, h3, ha, hc⟩
  simp only at h2 h3 ha hc
  (simp only [(vmA), Nat.reduceEqDiff, reduceIte, Nat.reduceAdd, Int.reduceToNat, Int.reduceLE, Int.reduceLT, Int.reduceEq, Int.reduceNe, Int.reduceAdd, Int.reduceSub, Int.reduceNeg, Nat.reduceLT, Nat.reduceLeDiff, Nat.reduceBEq, undef, (stA), Nat.reduceMul]; try simp (disch := omega) only [(vmp)])
  by_cases h : (j : Int) < l.length
  · obtain ⟨e1, e2⟩ := one_at (l := l) (i := j) (by omega)
    rw [e1] at hc
    (simp only [h, (vmA), Nat.reduceEqDiff, reduceIte, Nat.reduceAdd, Int.reduceToNat, Int.reduceLE, Int.reduceLT, Int.reduceEq, Int.reduceNe, Int.reduceAdd, Int.reduceSub, Int.reduceNeg, Nat.reduceLT, Nat.reduceLeDiff, Nat.reduceBEq, undef, (stA), Nat.reduceMul]; try simp (disch := omega) only [(vmp)])
    generalize hcc : l.getD j 0 = c at *
    by_cases q1 : (c.toNat : Int) = 34
    · have : c = 34 := (u8_eq c 34 (by omega)).1 q1
      subst this
      rw [qS_q] at hc
      (simp only [q1, (vmA), Nat.reduceEqDiff, reduceIte, Nat.reduceAdd, Int.reduceToNat, Int.reduceLE, Int.reduceLT, Int.reduceEq, Int.reduceNe, Int.reduceAdd, Int.reduceSub, Int.reduceNeg, Nat.reduceLT, Nat.reduceLeDiff, Nat.reduceBEq, undef, (stA), Nat.reduceMul]; try simp (disch := omega) only [(vmp)])
      rcases acc with _ | ⟨a, r⟩
      · (simp only [rA, rE, (vmA), Nat.reduceEqDiff, reduceIte, Nat.reduceAdd, Int.reduceToNat, Int.reduceLE, Int.reduceLT, Int.reduceEq, Int.reduceNe, Int.reduceAdd, Int.reduceSub, Int.reduceNeg, Nat.reduceLT, Nat.reduceLeDiff, Nat.reduceBEq, undef, (stA), Nat.reduceMul]; try simp (disch := omega) only [(vmp)])
        refine ydraw T0 [] (by kernel_rfl) (by kernel_rfl) (by kernel_rfl) (by kernel_rfl) ?_
        (simp only [(vmA), Nat.reduceEqDiff, reduceIte, Nat.reduceAdd, Int.reduceToNat, Int.reduceLE, Int.reduceLT, Int.reduceEq, Int.reduceNe, Int.reduceAdd, Int.reduceSub, Int.reduceNeg, Nat.reduceLT, Nat.reduceLeDiff, Nat.reduceBEq, undef, (stA), Nat.reduceMul]; try simp (disch := omega) only [(vmp)])
        rw [hc]
        have e5 : ((j + 1 : Nat) : Int) - i = ((j + 1 - i : Nat) : Int) := by omega
        simp only [Option.map_some, List.append_nil, e5]
        rw [show 1 + (j - (i + 1)) + 1 = j + 1 - i by omega]
      · (simp only [rA, rE, (vmA), Nat.reduceEqDiff, reduceIte, Nat.reduceAdd, Int.reduceToNat, Int.reduceLE, Int.reduceLT, Int.reduceEq, Int.reduceNe, Int.reduceAdd, Int.reduceSub, Int.reduceNeg, Nat.reduceLT, Nat.reduceLeDiff, Nat.reduceBEq, undef, (stA), Nat.reduceMul]; try simp (disch := omega) only [(vmp)])
        refine ydraw T0 [] (by kernel_rfl) (by kernel_rfl) (by kernel_rfl) (by kernel_rfl) ?_
        (simp only [av_all, av_all2, (vmA), Nat.reduceEqDiff, reduceIte, Nat.reduceAdd, Int.reduceToNat, Int.reduceLE, Int.reduceLT, Int.reduceEq, Int.reduceNe, Int.reduceAdd, Int.reduceSub, Int.reduceNeg, Nat.reduceLT, Nat.reduceLeDiff, Nat.reduceBEq, undef, (stA), Nat.reduceMul]; try simp (disch := omega) only [(vmp)])
        refine ⟨by omega, ?_⟩
        rw [hc]
        have e5 : ((j + 1 : Nat) : Int) - i = ((j + 1 - i : Nat) : Int) := by omega
        simp only [Option.map_some, List.append_nil, e5]
        rw [show 1 + (j - (i + 1)) + 1 = j + 1 - i by omega]
    · have n1 : c ≠ 34 := fun e => q1 ((u8_eq c 34 (by omega)).2 e)
      (simp only [q1, (vmA), Nat.reduceEqDiff, reduceIte, Nat.reduceAdd, Int.reduceToNat, Int.reduceLE, Int.reduceLT, Int.reduceEq, Int.reduceNe, Int.reduceAdd, Int.reduceSub, Int.reduceNeg, Nat.reduceLT, Nat.reduceLeDiff, Nat.reduceBEq, undef, (stA), Nat.reduceMul]; try simp (disch := omega) only [(vmp)])
      by_cases q3 : (c.toNat : Int) = 92
      · have : c = 92 := (u8_eq c 92 (by omega)).1 q3
        subst this
        (simp only [q3, (vmA), Nat.reduceEqDiff, reduceIte, Nat.reduceAdd, Int.reduceToNat, Int.reduceLE, Int.reduceLT, Int.reduceEq, Int.reduceNe, Int.reduceAdd, Int.reduceSub, Int.reduceNeg, Nat.reduceLT, Nat.reduceLeDiff, Nat.reduceBEq, undef, (stA), Nat.reduceMul]; try simp (disch := omega) only [(vmp)])
        by_cases q4 : ((j + 1 : Nat) : Int) < l.length
        · obtain ⟨e3, e4⟩ := one_at (l := l) (i := j + 1) (by omega)
          rw [e3, qS_esc] at hc
          (simp only [q4, (vmA), Nat.reduceEqDiff, reduceIte, Nat.reduceAdd, Int.reduceToNat, Int.reduceLE, Int.reduceLT, Int.reduceEq, Int.reduceNe, Int.reduceAdd, Int.reduceSub, Int.reduceNeg, Nat.reduceLT, Nat.reduceLeDiff, Nat.reduceBEq, undef, (stA), Nat.reduceMul]; try simp (disch := omega) only [(vmp)])
          refine ⟨by omega, ?_⟩
          generalize hdd : l.getD (j + 1) 0 = d at *
          have fin : ∀ (b : UInt8), R = ((qS (l.drop (j + 2))).map fun y => (y.1 + 2, b :: y.2)).map (fun y => (y.1 + (j - (i + 1)), acc ++ y.2)) →
              R = (qS (l.drop (j + 2))).map fun y => (y.1 + (j + 2 - (i + 1)), (acc ++ [b]) ++ y.2) := fun b hh => by
            rw [hh]; cases qS (l.drop (j + 2)) <;> simp
            omega
          by_cases p1 : d = 110
          · subst p1
            have e110 : (((110 : UInt8).toNat : Nat) : Int) = 110 := rfl
            rw [if_pos rfl] at hc
            (simp only [e110, (vmA), Nat.reduceEqDiff, reduceIte, Nat.reduceAdd, Int.reduceToNat, Int.reduceLE, Int.reduceLT, Int.reduceEq, Int.reduceNe, Int.reduceAdd, Int.reduceSub, Int.reduceNeg, Nat.reduceLT, Nat.reduceLeDiff, Nat.reduceBEq, undef, (stA), Nat.reduceMul]; try simp (disch := omega) only [(vmp)])
            rcases acc with _ | ⟨a, r⟩
            · (simp only [rA, rE, (vmA), Nat.reduceEqDiff, reduceIte, Nat.reduceAdd, Int.reduceToNat, Int.reduceLE, Int.reduceLT, Int.reduceEq, Int.reduceNe, Int.reduceAdd, Int.reduceSub, Int.reduceNeg, Nat.reduceLT, Nat.reduceLeDiff, Nat.reduceBEq, undef, (stA), Nat.reduceMul]; try simp (disch := omega) only [(vmp)])
              refine ⟨by unfold maxRoom; omega, (j + 2, [10]), ⟨by simp only; omega, by simp only; omega, by simp only [List.length_cons, List.length_nil]; omega, ?_⟩, by simp only; omega, by (simp [rA]; try omega), by simp [rE, byteAV, intV]⟩
              exact fin 10 hc
            · (simp only [rA, rE, (vmA), Nat.reduceEqDiff, reduceIte, Nat.reduceAdd, Int.reduceToNat, Int.reduceLE, Int.reduceLT, Int.reduceEq, Int.reduceNe, Int.reduceAdd, Int.reduceSub, Int.reduceNeg, Nat.reduceLT, Nat.reduceLeDiff, Nat.reduceBEq, undef, (stA), Nat.reduceMul]; try simp (disch := omega) only [(vmp)])
              simp only [List.length_cons] at ha
              refine ⟨by unfold maxRoom; omega, (j + 2, (a :: r) ++ [10]), ⟨by simp only; omega, by simp only; omega, by simp only [List.length_cons, List.length_append, List.length_nil]; omega, ?_⟩, by simp only; omega, by (simp [rA]; try omega), by simp [rE, byteAV, intV]⟩
              exact fin 10 hc
          · rw [if_neg p1] at hc
            have n5 : ¬ (d.toNat : Int) = 110 := fun e => p1 ((u8_eq d 110 (by omega)).1 e)
            (simp only [n5, (vmA), Nat.reduceEqDiff, reduceIte, Nat.reduceAdd, Int.reduceToNat, Int.reduceLE, Int.reduceLT, Int.reduceEq, Int.reduceNe, Int.reduceAdd, Int.reduceSub, Int.reduceNeg, Nat.reduceLT, Nat.reduceLeDiff, Nat.reduceBEq, undef, (stA), Nat.reduceMul]; try simp (disch := omega) only [(vmp)])
            (simp only [q4, (vmA), Nat.reduceEqDiff, reduceIte, Nat.reduceAdd, Int.reduceToNat, Int.reduceLE, Int.reduceLT, Int.reduceEq, Int.reduceNe, Int.reduceAdd, Int.reduceSub, Int.reduceNeg, Nat.reduceLT, Nat.reduceLeDiff, Nat.reduceBEq, undef, (stA), Nat.reduceMul]; try simp (disch := omega) only [(vmp)])
            refine ⟨by omega, ?_⟩
            simp only [hdd]
            by_cases p2 : (d.toNat : Int) = 34
            · have p2' : d = 34 := (u8_eq d 34 (by omega)).1 p2
              rw [if_pos (.inl p2')] at hc
              (simp only [p2, (vmA), Nat.reduceEqDiff, reduceIte, Nat.reduceAdd, Int.reduceToNat, Int.reduceLE, Int.reduceLT, Int.reduceEq, Int.reduceNe, Int.reduceAdd, Int.reduceSub, Int.reduceNeg, Nat.reduceLT, Nat.reduceLeDiff, Nat.reduceBEq, undef, (stA), Nat.reduceMul]; try simp (disch := omega) only [(vmp)])
              refine ⟨by omega, ?_⟩
              simp only [hdd]
              rcases acc with _ | ⟨a, r⟩
              · (simp only [rA, rE, (vmA), Nat.reduceEqDiff, reduceIte, Nat.reduceAdd, Int.reduceToNat, Int.reduceLE, Int.reduceLT, Int.reduceEq, Int.reduceNe, Int.reduceAdd, Int.reduceSub, Int.reduceNeg, Nat.reduceLT, Nat.reduceLeDiff, Nat.reduceBEq, undef, (stA), Nat.reduceMul]; try simp (disch := omega) only [(vmp)])
                refine ⟨by unfold maxRoom; omega, (j + 2, [d]), ⟨by simp only; omega, by simp only; omega, by simp only [List.length_cons, List.length_nil]; omega, ?_⟩, by simp only; omega, by (simp [rA]; try omega), by simp [rE, byteAV, intV]⟩
                exact fin d hc
              · (simp only [rA, rE, (vmA), Nat.reduceEqDiff, reduceIte, Nat.reduceAdd, Int.reduceToNat, Int.reduceLE, Int.reduceLT, Int.reduceEq, Int.reduceNe, Int.reduceAdd, Int.reduceSub, Int.reduceNeg, Nat.reduceLT, Nat.reduceLeDiff, Nat.reduceBEq, undef, (stA), Nat.reduceMul]; try simp (disch := omega) only [(vmp)])
                simp only [List.length_cons] at ha
                refine ⟨by unfold maxRoom; omega, (j + 2, (a :: r) ++ [d]), ⟨by simp only; omega, by simp only; omega, by simp only [List.length_cons, List.length_append, List.length_nil]; omega, ?_⟩, by simp only; omega, by (simp [rA]; try omega), by simp [rE, byteAV, intV]⟩
                exact fin d hc
            · have p2' : d ≠ 34 := fun e => p2 ((u8_eq d 34 (by omega)).2 e)
              (simp only [p2, (vmA), Nat.reduceEqDiff, reduceIte, Nat.reduceAdd, Int.reduceToNat, Int.reduceLE, Int.reduceLT, Int.reduceEq, Int.reduceNe, Int.reduceAdd, Int.reduceSub, Int.reduceNeg, Nat.reduceLT, Nat.reduceLeDiff, Nat.reduceBEq, undef, (stA), Nat.reduceMul]; try simp (disch := omega) only [(vmp)])
              refine ⟨by omega, ?_⟩
              simp only [hdd]
              by_cases p3 : (d.toNat : Int) = 92
              · have p3' : d = 92 := (u8_eq d 92 (by omega)).1 p3
                rw [if_pos (.inr p3')] at hc
                (simp only [p3, (vmA), Nat.reduceEqDiff, reduceIte, Nat.reduceAdd, Int.reduceToNat, Int.reduceLE, Int.reduceLT, Int.reduceEq, Int.reduceNe, Int.reduceAdd, Int.reduceSub, Int.reduceNeg, Nat.reduceLT, Nat.reduceLeDiff, Nat.reduceBEq, undef, (stA), Nat.reduceMul]; try simp (disch := omega) only [(vmp)])
                refine ⟨by omega, ?_⟩
                simp only [hdd]
                rcases acc with _ | ⟨a, r⟩
                · (simp only [rA, rE, (vmA), Nat.reduceEqDiff, reduceIte, Nat.reduceAdd, Int.reduceToNat, Int.reduceLE, Int.reduceLT, Int.reduceEq, Int.reduceNe, Int.reduceAdd, Int.reduceSub, Int.reduceNeg, Nat.reduceLT, Nat.reduceLeDiff, Nat.reduceBEq, undef, (stA), Nat.reduceMul]; try simp (disch := omega) only [(vmp)])
                  refine ⟨by unfold maxRoom; omega, (j + 2, [d]), ⟨by simp only; omega, by simp only; omega, by simp only [List.length_cons, List.length_nil]; omega, ?_⟩, by simp only; omega, by (simp [rA]; try omega), by simp [rE, byteAV, intV]⟩
                  exact fin d hc
                · (simp only [rA, rE, (vmA), Nat.reduceEqDiff, reduceIte, Nat.reduceAdd, Int.reduceToNat, Int.reduceLE, Int.reduceLT, Int.reduceEq, Int.reduceNe, Int.reduceAdd, Int.reduceSub, Int.reduceNeg, Nat.reduceLT, Nat.reduceLeDiff, Nat.reduceBEq, undef, (stA), Nat.reduceMul]; try simp (disch := omega) only [(vmp)])
                  simp only [List.length_cons] at ha
                  refine ⟨by unfold maxRoom; omega, (j + 2, (a :: r) ++ [d]), ⟨by simp only; omega, by simp only; omega, by simp only [List.length_cons, List.length_append, List.length_nil]; omega, ?_⟩, by simp only; omega, by (simp [rA]; try omega), by simp [rE, byteAV, intV]⟩
                  exact fin d hc
              · have p3' : d ≠ 92 := fun e => p3 ((u8_eq d 92 (by omega)).2 e)
                rw [if_neg (by simp [p2', p3'])] at hc
                (simp only [p3, (vmA), Nat.reduceEqDiff, reduceIte, Nat.reduceAdd, Int.reduceToNat, Int.reduceLE, Int.reduceLT, Int.reduceEq, Int.reduceNe, Int.reduceAdd, Int.reduceSub, Int.reduceNeg, Nat.reduceLT, Nat.reduceLeDiff, Nat.reduceBEq, undef, (stA), Nat.reduceMul]; try simp (disch := omega) only [(vmp)])
                rw [hc]; rfl
        · (simp only [q4, (vmA), Nat.reduceEqDiff, reduceIte, Nat.reduceAdd, Int.reduceToNat, Int.reduceLE, Int.reduceLT, Int.reduceEq, Int.reduceNe, Int.reduceAdd, Int.reduceSub, Int.reduceNeg, Nat.reduceLT, Nat.reduceLeDiff, Nat.reduceBEq, undef, (stA), Nat.reduceMul]; try simp (disch := omega) only [(vmp)])
          (simp only [q4, (vmA), Nat.reduceEqDiff, reduceIte, Nat.reduceAdd, Int.reduceToNat, Int.reduceLE, Int.reduceLT, Int.reduceEq, Int.reduceNe, Int.reduceAdd, Int.reduceSub, Int.reduceNeg, Nat.reduceLT, Nat.reduceLeDiff, Nat.reduceBEq, undef, (stA), Nat.reduceMul]; try simp (disch := omega) only [(vmp)])
          rw [List.drop_of_length_le (by omega), qS_end] at hc
          rw [hc]; rfl
      · have n3 : c ≠ 92 := fun e => q3 ((u8_eq c 92 (by omega)).2 e)
        (simp only [q3, (vmA), Nat.reduceEqDiff, reduceIte, Nat.reduceAdd, Int.reduceToNat, Int.reduceLE, Int.reduceLT, Int.reduceEq, Int.reduceNe, Int.reduceAdd, Int.reduceSub, Int.reduceNeg, Nat.reduceLT, Nat.reduceLeDiff, Nat.reduceBEq, undef, (stA), Nat.reduceMul]; try simp (disch := omega) only [(vmp)])
        by_cases q5 : (c.toNat : Int) < 32
        · (simp only [q5, (vmA), Nat.reduceEqDiff, reduceIte, Nat.reduceAdd, Int.reduceToNat, Int.reduceLE, Int.reduceLT, Int.reduceEq, Int.reduceNe, Int.reduceAdd, Int.reduceSub, Int.reduceNeg, Nat.reduceLT, Nat.reduceLeDiff, Nat.reduceBEq, undef, (stA), Nat.reduceMul]; try simp (disch := omega) only [(vmp)])
          rw [qS_bad c _ n1 (by rw [← Bool.not_eq_true, btw_iff]; omega)] at hc
          rw [hc]; rfl
        · (simp only [q5, (vmA), Nat.reduceEqDiff, reduceIte, Nat.reduceAdd, Int.reduceToNat, Int.reduceLE, Int.reduceLT, Int.reduceEq, Int.reduceNe, Int.reduceAdd, Int.reduceSub, Int.reduceNeg, Nat.reduceLT, Nat.reduceLeDiff, Nat.reduceBEq, undef, (stA), Nat.reduceMul]; try simp (disch := omega) only [(vmp)])
          by_cases q6 : (126 : Int) < c.toNat
          · (simp only [q6, (vmA), Nat.reduceEqDiff, reduceIte, Nat.reduceAdd, Int.reduceToNat, Int.reduceLE, Int.reduceLT, Int.reduceEq, Int.reduceNe, Int.reduceAdd, Int.reduceSub, Int.reduceNeg, Nat.reduceLT, Nat.reduceLeDiff, Nat.reduceBEq, undef, (stA), Nat.reduceMul]; try simp (disch := omega) only [(vmp)])
            rw [qS_bad c _ n1 (by rw [← Bool.not_eq_true, btw_iff]; omega)] at hc
            rw [hc]; rfl
          · rw [qS_plain c _ n1 n3 (by rw [btw_iff]; omega)] at hc
            have fin : R = (qS (l.drop (j + 1))).map fun y => (y.1 + (j + 1 - (i + 1)), (acc ++ [c]) ++ y.2) := by
              rw [hc]; cases qS (l.drop (j + 1)) <;> simp
              omega
            (simp only [q6, (vmA), Nat.reduceEqDiff, reduceIte, Nat.reduceAdd, Int.reduceToNat, Int.reduceLE, Int.reduceLT, Int.reduceEq, Int.reduceNe, Int.reduceAdd, Int.reduceSub, Int.reduceNeg, Nat.reduceLT, Nat.reduceLeDiff, Nat.reduceBEq, undef, (stA), Nat.reduceMul]; try simp (disch := omega) only [(vmp)])
            rcases acc with _ | ⟨a, r⟩
            · (simp only [rA, rE, (vmA), Nat.reduceEqDiff, reduceIte, Nat.reduceAdd, Int.reduceToNat, Int.reduceLE, Int.reduceLT, Int.reduceEq, Int.reduceNe, Int.reduceAdd, Int.reduceSub, Int.reduceNeg, Nat.reduceLT, Nat.reduceLeDiff, Nat.reduceBEq, undef, (stA), Nat.reduceMul]; try simp (disch := omega) only [(vmp)])
              refine ⟨by unfold maxRoom; omega, (j + 1, [c]), ⟨by simp only; omega, by simp only; omega, by simp only [List.length_cons, List.length_nil]; omega, ?_⟩, by simp only; omega, by (simp [rA]; try omega), by simp [rE, byteAV, intV]⟩
              exact fin
            · (simp only [rA, rE, (vmA), Nat.reduceEqDiff, reduceIte, Nat.reduceAdd, Int.reduceToNat, Int.reduceLE, Int.reduceLT, Int.reduceEq, Int.reduceNe, Int.reduceAdd, Int.reduceSub, Int.reduceNeg, Nat.reduceLT, Nat.reduceLeDiff, Nat.reduceBEq, undef, (stA), Nat.reduceMul]; try simp (disch := omega) only [(vmp)])
              simp only [List.length_cons] at ha
              refine ⟨by unfold maxRoom; omega, (j + 1, (a :: r) ++ [c]), ⟨by simp only; omega, by simp only; omega, by simp only [List.length_cons, List.length_append, List.length_nil]; omega, ?_⟩, by simp only; omega, by (simp [rA]; try omega), by simp [rE, byteAV, intV]⟩
              exact fin
  · (simp only [h, (vmA), Nat.reduceEqDiff, reduceIte, Nat.reduceAdd, Int.reduceToNat, Int.reduceLE, Int.reduceLT, Int.reduceEq, Int.reduceNe, Int.reduceAdd, Int.reduceSub, Int.reduceNeg, Nat.reduceLT, Nat.reduceLeDiff, Nat.reduceBEq, undef, (stA), Nat.reduceMul]; try simp (disch := omega) only [(vmp)])
    rw [List.drop_of_length_le (by omega), qS] at hc
    rw [hc]; rfl
end Go.D
