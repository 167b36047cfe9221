/- What the tokens of a text are: plain lists, no program. -/
import Derived.Lib.Strings
import Derived.Lib.ParseIntB
import GoSem.Op.String
import Derived.Lib.LastIndexByte
import Derived.Lib.Bytealg
import Derived.Test.YtikjefmoclienaaGreatDoorVmF
set_option linter.unusedVariables false
set_option linter.unusedSimpArgs false
set_option maxRecDepth 100000
namespace Go.D
open Go

def btw (a b c : Int) : Bool := decide (a ≤ b) && decide (b ≤ c)
def isPart (b : Int) : Bool := btw 97 b 122 || btw 65 b 90 || btw 48 b 57 || decide (b = 95) || decide (b = 39)
def pB (p : Int → Bool) (x : UInt8) : Bool := p x.toNat
/-- How many come first that are so. -/
theorem takeWhile_len {p : UInt8 → Bool} : ∀ {l : List UInt8} {i : Nat}, i ≤ l.length → (∀ x ∈ l.take i, p x = true) → (i < l.length → p (l.getD i 0) = false) → (l.takeWhile p).length = i
  | [], i, h, _, _ => by simp at h; simp [h]
  | a :: l, 0, _, _, h => by have := h (by simp); simp at this; simp [this]
  | a :: l, i + 1, h, h1, h2 => by
    have ha : p a = true := h1 a (by simp)
    rw [List.takeWhile_cons, if_pos ha, List.length_cons, takeWhile_len (i := i) (by simpa using h) (fun x hx => h1 x (by simp [hx])) (fun hi => by simpa using h2 (by simpa using hi))]
theorem take_succ_all {p : UInt8 → Bool} {l : List UInt8} {i : Nat} (hi : i < l.length) (h : ∀ x ∈ l.take i, p x = true) (h1 : p (l.getD i 0) = true) : ∀ x ∈ l.take (i + 1), p x = true := by
  intro x hx
  rw [List.take_add_one, List.mem_append] at hx
  rcases hx with hx | hx
  · exact h x hx
  · have : x = l.getD i 0 := by simp [List.getElem?_eq_getElem hi] at hx; simp [hi, hx]
    rw [this]; exact h1

def word (l : List UInt8) : Nat := (l.takeWhile (pB isPart)).length
def isDig (b : Int) : Bool := btw 48 b 57
/-- Whether a sign stands before a digit that is not 0. -/
def negB (l : List UInt8) : Bool := decide ((1 : Int) < l.length) && (decide (((l.getD 0 0).toNat : Int) = 45) && btw 49 (l.getD 1 0).toNat 57)
def negN (l : List UInt8) : Nat := if negB l then 1 else 0
/-- How long the number is that stands first. -/
def digits (l : List UInt8) : Nat :=
  if negN l = l.length then 0
  else if isDig (l.getD (negN l) 0).toNat then (if ((l.getD (negN l) 0).toNat : Int) = 48 then negN l + 1 else negN l + ((l.drop (negN l)).takeWhile (pB isDig)).length) else 0

theorem negN_le (l : List UInt8) : negN l ≤ l.length := by
  unfold negN
  split
  · rename_i h; simp only [negB, Bool.and_eq_true, decide_eq_true_eq] at h; omega
  · omega

def keysText : List UInt8 := [102, 110, 32, 108, 101, 116, 32, 105, 110, 32, 102, 117, 110, 32, 105, 102, 32, 116, 104, 101, 110, 32, 101, 108, 115, 101, 32, 99, 97, 115, 101, 32, 111, 102, 32, 114, 97, 105, 115, 101, 32, 104, 97, 110, 100, 108, 101, 32, 100, 97, 116, 97, 116, 121, 112, 101, 32, 101, 120, 99, 101, 112, 116, 105, 111, 110, 32, 118, 97, 108, 32, 115, 116, 114, 117, 99, 116, 117, 114, 101, 32, 115, 116, 114, 117, 99, 116, 32, 101, 110, 100, 32, 115, 105, 103, 110, 97, 116, 117, 114, 101, 32, 115, 105, 103, 32, 116, 121, 112, 101, 32, 102, 117, 110, 99, 116, 111, 114, 32, 100, 111, 32, 116, 114, 117, 101, 32, 102, 97, 108, 115, 101, 32, 105, 110, 116, 32, 98, 111, 111, 108, 32, 117, 110, 105, 116, 32, 116, 101, 120, 116, 32, 108, 105, 115, 116, 32, 97, 114, 114, 97, 121, 32, 115, 105, 122, 101, 32, 98, 121, 116, 101, 32, 99, 104, 97, 114, 32, 115, 104, 111, 119, 32, 115, 97, 109, 101, 32, 103, 101, 116, 32, 115, 101, 116, 32, 108, 101, 110, 103, 116, 104, 32, 112, 114, 105, 110, 116]
def keys : List (List UInt8) := [[102, 110], [108, 101, 116], [105, 110], [102, 117, 110], [105, 102], [116, 104, 101, 110], [101, 108, 115, 101], [99, 97, 115, 101], [111, 102], [114, 97, 105, 115, 101], [104, 97, 110, 100, 108, 101], [100, 97, 116, 97, 116, 121, 112, 101], [101, 120, 99, 101, 112, 116, 105, 111, 110], [118, 97, 108], [115, 116, 114, 117, 99, 116, 117, 114, 101], [115, 116, 114, 117, 99, 116], [101, 110, 100], [115, 105, 103, 110, 97, 116, 117, 114, 101], [115, 105, 103], [116, 121, 112, 101], [102, 117, 110, 99, 116, 111, 114], [100, 111], [116, 114, 117, 101], [102, 97, 108, 115, 101], [105, 110, 116], [98, 111, 111, 108], [117, 110, 105, 116], [116, 101, 120, 116], [108, 105, 115, 116], [97, 114, 114, 97, 121], [115, 105, 122, 101], [98, 121, 116, 101], [99, 104, 97, 114], [115, 104, 111, 119], [115, 97, 109, 101], [103, 101, 116], [115, 101, 116], [108, 101, 110, 103, 116, 104], [112, 114, 105, 110, 116]]
def signsText : List UInt8 := [40, 32, 41, 32, 91, 32, 93, 32, 44, 32, 59, 32, 58, 32, 61, 32, 124, 32, 95, 32, 43, 32, 45, 32, 42, 32, 47, 32, 37, 32, 60, 32, 94, 32, 58, 58, 32, 61, 62, 32, 45, 62, 32, 58, 62]
def signs : List (List UInt8) := [[40], [41], [91], [93], [44], [59], [58], [61], [124], [95], [43], [45], [42], [47], [37], [60], [94], [58, 58], [61, 62], [45, 62], [58, 62]]
def signStep (l s x : List UInt8) : List UInt8 := if s.length < x.length ∧ Lib.hasPrefix l x = true then x else s
def sign (l : List UInt8) : List UInt8 := signs.foldl (signStep l) []

def kKey : List UInt8 := [107, 101, 121]
def kName : List UInt8 := [110, 97, 109, 101]
def kCon : List UInt8 := [99, 111, 110]
/-- The name that stands first: how long it is, and its kind. -/
def long (first : Bool) (l : List UInt8) : Nat × List UInt8 :=
  if l.length = 0 then (0, []) else
  if btw 97 (l.getD 0 0).toNat 122 = true then (if first = true ∧ l.take (word l) ∈ keys then (word l, kKey) else (word l, kName))
  else if btw 65 (l.getD 0 0).toNat 90 = true then
    (if word l = l.length ∨ ¬ (l.getD (word l) 0).toNat = 46 then (word l, kCon)
     else if (long false (l.drop (word l + 1))).2 = [] then (0, []) else (word l + 1 + (long false (l.drop (word l + 1))).1, (long false (l.drop (word l + 1))).2))
  else (0, [])
termination_by l.length
decreasing_by all_goals (simp only [List.length_drop]; omega)

theorem long_none (f : Bool) (l : List UInt8) (h : (long f l).2 = []) : long f l = (0, []) := by
  rw [long] at h ⊢
  repeat' split at h
  all_goals first | (simp [kKey, kName, kCon] at h; done) | skip
  all_goals simp_all

theorem word_le (l : List UInt8) : word l ≤ l.length := by
  unfold word
  exact (List.takeWhile_prefix _).length_le

end Go.D

/- Numbers: what fits 64 bits, by its digits and by its value. Plain lists. -/
set_option linter.unusedVariables false
set_option linter.unusedSimpArgs false
set_option maxRecDepth 100000
namespace Go.D
open Go

/-- Whether a byte is a digit. -/
def digP (c : UInt8) : Prop := 48 ≤ c.toNat ∧ c.toNat ≤ 57
/-- The value of digits behind others. -/
def val (acc : Nat) (l : List UInt8) : Nat := l.foldl (fun a c => a * 10 + (c.toNat - 48)) acc
theorem val_nil (acc : Nat) : val acc [] = acc := rfl
theorem val_cons (acc : Nat) (c : UInt8) (r : List UInt8) : val acc (c :: r) = val (acc * 10 + (c.toNat - 48)) r := by unfold val; rw [List.foldl_cons]
theorem val_acc (l : List UInt8) : ∀ acc : Nat, val acc l = acc * 10 ^ l.length + val 0 l := by
  induction l with
  | nil => intro acc; rw [val_nil, val_nil, List.length_nil, Nat.pow_zero, Nat.mul_one, Nat.add_zero]
  | cons c r ih =>
    intro acc
    rw [val_cons, val_cons, ih, ih (0 * 10 + _), List.length_cons, Nat.pow_succ, Nat.add_mul, Nat.zero_mul, Nat.zero_add, Nat.mul_assoc, Nat.mul_comm 10]
    omega
theorem val_lt : ∀ (l : List UInt8), (∀ c ∈ l, digP c) → val 0 l < 10 ^ l.length
  | [], _ => by simp [val_nil]
  | c :: r, h => by
    have h1 := val_lt r fun c hc => h c (by simp [hc])
    have h2 := h c (by simp)
    unfold digP at h2
    rw [val_cons, val_acc, List.length_cons, Nat.pow_succ, Nat.zero_mul, Nat.zero_add]
    have : (c.toNat - 48) * 10 ^ r.length ≤ 9 * 10 ^ r.length := Nat.mul_le_mul_right _ (by omega)
    omega
theorem val_le (l : List UInt8) (acc : Nat) : acc ≤ val acc l := by
  rw [val_acc]
  have : acc * 1 ≤ acc * 10 ^ l.length := Nat.mul_le_mul_left _ (Nat.pos_of_ne_zero (by simp))
  omega

theorem parse_val : ∀ (l : List UInt8) (acc : Nat), acc ≤ 18446744073709551615 → (∀ c ∈ l, digP c) →
    Lib.parseUintM 18446744073709551615 acc l = if val acc l ≤ 18446744073709551615 then .ok (val acc l) else .range
  | [], acc, ha, _ => by simp [val_nil, Lib.parseUintM, ha]
  | c :: r, acc, ha, h => by
    have h2 := h c (by simp)
    have h3 := val_le r (acc * 10 + (c.toNat - 48))
    rw [Lib.parseUintM, if_pos (by simpa [digP] using h2), val_cons]
    by_cases h4 : 1844674407370955162 ≤ acc
    · rw [if_pos h4, if_neg (by omega)]
    · rw [if_neg h4]
      by_cases h5 : 18446744073709551615 < acc * 10 + (c.toNat - 48)
      · rw [if_pos h5, if_neg (by omega)]
      · rw [if_neg h5, parse_val r _ (by omega) fun c hc => h c (by simp [hc])]

/-- Of as many digits, the order of texts is that of values. -/
theorem less_val : ∀ (a b : List UInt8), a.length = b.length → (∀ c ∈ a, digP c) → (∀ c ∈ b, digP c) → (Op.bytesLess a b = true ↔ val 0 a < val 0 b)
  | [], [], _, _, _ => by simp [Op.bytesLess, val_nil]
  | a :: x, b :: y, hl, ha, hb => by
    have h1 := val_lt x fun c hc => ha c (by simp [hc])
    have h2 := val_lt y fun c hc => hb c (by simp [hc])
    have h3 := ha a (by simp)
    have h4 := hb b (by simp)
    have hl' : x.length = y.length := by simpa using hl
    have ih := less_val x y hl' (fun c hc => ha c (by simp [hc])) (fun c hc => hb c (by simp [hc]))
    unfold digP at h3 h4
    rw [val_cons, val_cons, val_acc x, val_acc y, hl']
    rw [hl'] at h1
    have e1 : a.toNat = b.toNat → a = b := fun h => UInt8.toNat_inj.1 h
    simp only [Op.bytesLess, Bool.or_eq_true, decide_eq_true_eq, Bool.and_eq_true, beq_iff_eq, ih, UInt8.lt_iff_toNat_lt]
    generalize hp : 10 ^ y.length = p at *
    rcases Nat.lt_trichotomy a.toNat b.toNat with h5 | h5 | h5
    · refine ⟨fun _ => ?_, fun _ => .inl h5⟩
      have : (0 * 10 + (a.toNat - 48) + 1) * p ≤ (0 * 10 + (b.toNat - 48)) * p := Nat.mul_le_mul_right _ (by omega)
      rw [Nat.add_mul] at this
      omega
    · have := e1 h5
      subst this
      refine ⟨fun h => ?_, fun h => .inr ⟨rfl, by omega⟩⟩
      rcases h with h | h
      · omega
      · omega
    · refine ⟨fun h => ?_, fun h => ?_⟩
      · rcases h with h | h
        · omega
        · rw [h.1] at h5; omega
      · have : (0 * 10 + (b.toNat - 48) + 1) * p ≤ (0 * 10 + (a.toNat - 48)) * p := Nat.mul_le_mul_right _ (by omega)
        rw [Nat.add_mul] at this
        omega
  | [], _ :: _, h, _, _ => by simp at h
  | _ :: _, [], h, _, _ => by simp at h

def most (neg : Bool) : List UInt8 := [57, 50, 50, 51, 51, 55, 50, 48, 51, 54, 56, 53, 52, 55, 55, 53, 56, 48, if neg then 56 else 55]
/-- Whether digits are no more than the greatest ones. -/
def fitsD (neg : Bool) (d : List UInt8) : Bool := decide (d.length < 19) || (decide (d.length = 19) && !Op.bytesLess (most neg) d)

theorem fitsD_iff (neg : Bool) (d : List UInt8) (hd : ∀ c ∈ d, digP c) (h0 : d.getD 0 0 = 48 → d.length < 2) :
    fitsD neg d = true ↔ val 0 d ≤ if neg then 9223372036854775808 else 9223372036854775807 := by
  have hm : val 0 (most neg) = if neg then 9223372036854775808 else 9223372036854775807 := by cases neg <;> decide
  have hml : (most neg).length = 19 := by cases neg <;> rfl
  have hmd : ∀ c ∈ most neg, digP c := by cases neg <;> (unfold digP; decide)
  have h1 := val_lt d hd
  rcases Nat.lt_trichotomy d.length 19 with h | h | h
  · have h2 : 10 ^ d.length ≤ 10 ^ 18 := Nat.pow_le_pow_right (by omega) (by omega)
    simp only [fitsD, h, decide_true, Bool.true_or, true_iff]
    have h3 : 9223372036854775807 ≤ (if neg = true then 9223372036854775808 else 9223372036854775807 : Nat) := by split <;> omega
    have h4 : (10 : Nat) ^ 18 = 1000000000000000000 := by decide
    generalize (if neg = true then 9223372036854775808 else 9223372036854775807 : Nat) = m at *
    omega
  · have := less_val (most neg) d (by omega) hmd hd
    rw [hm] at this
    have h3 : ¬ d.length < 19 := by omega
    simp only [fitsD, h3, decide_false, Bool.false_or, h, decide_true, Bool.true_and]
    cases hb : Op.bytesLess (most neg) d <;> rw [hb] at this <;> simp at this ⊢ <;> omega
  · cases d with
    | nil => simp at h
    | cons c r =>
      have h2 : c ≠ 48 := fun e => by have := h0 (by simp [e]); omega
      have h3 := hd c (by simp)
      have h4 : c.toNat ≠ 48 := fun e => h2 (UInt8.toNat_inj.1 e)
      unfold digP at h3
      have h5 : 10 ^ 19 ≤ 10 ^ r.length := Nat.pow_le_pow_right (by omega) (by simp at h; omega)
      have h6 : 1 * 10 ^ r.length ≤ (c.toNat - 48) * 10 ^ r.length := Nat.mul_le_mul_right _ (by omega)
      have h7 : ¬ (c :: r).length < 19 := by omega
      have h8 : ¬ (c :: r).length = 19 := by omega
      simp only [fitsD, h7, h8, decide_false, Bool.false_and, Bool.or_false, Bool.false_eq_true, false_iff]
      rw [val_cons, val_acc, Nat.zero_mul, Nat.zero_add]
      split <;> omega

/-- Of a text that is digits, whether there is a sign. -/
theorem digits_shape (l : List UInt8) (h : digits l = l.length) (hn : l ≠ []) :
    ∃ d : List UInt8, d ≠ [] ∧ (∀ c ∈ d, digP c) ∧ (d.getD 0 0 = 48 → d.length < 2) ∧ (l = 45 :: d ∨ (l = d ∧ l.getD 0 0 ≠ 45)) := by
  have hlen : l.length ≠ 0 := by simpa using hn
  unfold digits at h
  split at h
  · omega
  rename_i h1
  have hle := negN_le l
  split at h
  case isFalse => omega
  rename_i h2
  have h2' : digP (l.getD (negN l) 0) := by
    simp only [isDig, btw, Bool.and_eq_true, decide_eq_true_eq] at h2
    unfold digP; omega
  have hg : (l.drop (negN l)).getD 0 0 = l.getD (negN l) 0 := by simp [List.getD]
  refine ⟨l.drop (negN l), by simp; omega, ?_, ?_, ?_⟩
  · split at h
    · have hl : (l.drop (negN l)).length = 1 := by simp; omega
      intro c hc
      obtain ⟨i, hi, rfl⟩ := List.getElem_of_mem hc
      have : i = 0 := by omega
      subst this
      have : (l.drop (negN l))[0] = l.getD (negN l) 0 := by simp [List.getD, (by omega : negN l < l.length)]
      rw [this]; exact h2'
    · have hl : ((l.drop (negN l)).takeWhile (pB isDig)).length = (l.drop (negN l)).length := by simp; omega
      have := (List.takeWhile_prefix (p := pB isDig) (l := l.drop (negN l))).eq_of_length hl
      intro c hc
      rw [← this] at hc
      have := List.all_eq_true.1 (List.all_takeWhile (p := pB isDig)) c hc
      simp only [pB, isDig, btw, Bool.and_eq_true, decide_eq_true_eq] at this
      unfold digP; omega
  · intro e
    rw [hg] at e
    rw [if_pos (by rw [e]; rfl)] at h
    simp; omega
  · unfold negN
    cases hb : negB l
    · right
      simp only [Bool.false_eq_true, if_false, List.drop_zero, true_and]
      have : negN l = 0 := by simp [negN, hb]
      rw [this] at h2'
      unfold digP at h2'
      intro e
      rw [e] at h2'
      revert h2'; decide
    · left
      simp only [if_true]
      simp only [negB, Bool.and_eq_true, decide_eq_true_eq] at hb
      cases l with
      | nil => simp at hn
      | cons a r =>
        have : a.toNat = 45 := by have := hb.2.1; simp at this; omega
        have : a = 45 := UInt8.toNat_inj.1 this
        simp [this]

def body (l : List UInt8) : List UInt8 := if l.getD 0 0 = 45 then l.drop 1 else l
/-- Whether the digits of a number are one of 64 bits. -/
def fits (l : List UInt8) : Bool := fitsD (decide (l.getD 0 0 = 45)) (body l)

theorem parse_step (l : List UInt8) (neg : Bool) (d : List UInt8) (hn : l ≠ []) (h1 : decide ((l.getD 0 0).toNat = 45) = neg) (h2 : (if (l.getD 0 0).toNat = 43 ∨ (l.getD 0 0).toNat = 45 then l.drop 1 else l) = d) (u : Nat) :
    (Lib.parseUintB 64 d = .range → Lib.parseIntB 64 l = .range) ∧
    (Lib.parseUintB 64 d = .ok u → (u ≤ if neg then 9223372036854775808 else 9223372036854775807) → ∃ v, Lib.parseIntB 64 l = .ok v) ∧
    (Lib.parseUintB 64 d = .ok u → ¬ (u ≤ if neg then 9223372036854775808 else 9223372036854775807) → Lib.parseIntB 64 l = .range) := by
  obtain ⟨c, r, rfl⟩ : ∃ c r, l = c :: r := by cases l with | nil => simp at hn | cons c r => exact ⟨c, r, rfl⟩
  simp only [List.getD_cons_zero, List.drop_succ_cons, List.drop_zero] at h1 h2
  subst h1
  rw [Lib.parseIntB]
  simp only [h2]
  refine ⟨fun h => by rw [h], fun h hu => ?_, fun h hu => ?_⟩
  all_goals rw [h]
  all_goals by_cases h3 : c.toNat = 45
  all_goals simp only [h3, decide_true, decide_false, if_true, if_false, not_true_eq_false, not_false_eq_true, true_and, false_and, Bool.false_eq_true] at hu ⊢
  · rw [if_neg (by omega)]; exact ⟨_, rfl⟩
  · rw [if_neg (by omega)]; exact ⟨_, rfl⟩
  · rw [if_pos (by omega)]
  · rw [if_pos (by omega)]

theorem parse_fits (l : List UInt8) (h : digits l = l.length) (hn : l ≠ []) :
    (fits l = true ∧ ∃ v, Lib.parseIntB 64 l = .ok v) ∨ (fits l = false ∧ Lib.parseIntB 64 l = .range) := by
  obtain ⟨d, hd0, hd, hz, hl⟩ := digits_shape l h hn
  have hp : Lib.parseUintB 64 d = if val 0 d ≤ 18446744073709551615 then .ok (val 0 d) else .range := by
    unfold Lib.parseUintB
    rw [if_neg hd0]
    exact parse_val d 0 (by decide) hd
  obtain ⟨neg, h1, h2, hf⟩ : ∃ neg, decide ((l.getD 0 0).toNat = 45) = neg ∧ (if (l.getD 0 0).toNat = 43 ∨ (l.getD 0 0).toNat = 45 then l.drop 1 else l) = d ∧ fits l = fitsD neg d := by
    rcases hl with rfl | ⟨rfl, h1⟩
    · exact ⟨true, by simp, by simp, by simp [fits, body]⟩
    · obtain ⟨c, r, rfl⟩ : ∃ c r, l = c :: r := by cases l with | nil => simp at hn | cons c r => exact ⟨c, r, rfl⟩
      have h1 : c ≠ 45 := by simpa using h1
      have h2 := hd c (by simp)
      unfold digP at h2
      have h3 : ¬ (c.toNat = 43 ∨ c.toNat = 45) := by omega
      have h4 : ¬ c.toNat = 45 := by omega
      exact ⟨false, by simp [h4], by simp [h3], by simp [fits, body, h1]⟩
  obtain ⟨k1, k2, k3⟩ := parse_step l neg d hn h1 h2 (val 0 d)
  have hiff := fitsD_iff neg d hd hz
  have hb : (if neg = true then 9223372036854775808 else 9223372036854775807 : Nat) ≤ 9223372036854775808 := by split <;> omega
  rw [hf]
  cases hv : fitsD neg d
  · refine .inr ⟨rfl, ?_⟩
    have hv' : ¬ val 0 d ≤ (if neg then 9223372036854775808 else 9223372036854775807) := fun hh => by have := hiff.2 hh; rw [hv] at this; cases this
    by_cases hu : val 0 d ≤ 18446744073709551615
    · rw [if_pos hu] at hp; exact k3 hp hv'
    · rw [if_neg hu] at hp; exact k1 hp
  · refine .inl ⟨rfl, ?_⟩
    have hv' := hiff.1 hv
    rw [if_pos (by omega)] at hp
    exact k2 hp hv'

theorem negN_take (l : List UInt8) (k : Nat) (hk : negN l < k) : negN (l.take k) = negN l := by
  have hg : ∀ i, i < k → (l.take k).getD i 0 = l.getD i 0 := fun i hi => by simp [List.getD, hi]
  have hb : negB (l.take k) = negB l := by
    by_cases h2 : 1 < k
    · unfold negB
      rw [hg 0 (by omega), hg 1 h2]
      congr 2
      rw [List.length_take]
      simp; omega
    · have : negB l = false := by
        cases hh : negB l
        · rfl
        · simp [negN, hh] at hk; omega
      rw [this]
      have : ¬ (1 : Int) < (l.take k).length := by rw [List.length_take]; omega
      simp only [negB, this, decide_false, Bool.false_and]
  unfold negN; rw [hb]

theorem takeWhile_all {p : UInt8 → Bool} : ∀ {l : List UInt8}, (∀ c ∈ l, p c = true) → l.takeWhile p = l
  | [], _ => rfl
  | a :: l, h => by rw [List.takeWhile_cons, if_pos (h a (by simp)), takeWhile_all fun c hc => h c (by simp [hc])]
theorem digits_take (l : List UInt8) : digits (l.take (digits l)) = digits l ∧ digits l ≤ l.length := by
  have hle := negN_le l
  by_cases h1 : negN l = l.length
  · have : digits l = 0 := by unfold digits; rw [if_pos h1]
    rw [this]; simp [digits, negN, negB]
  · cases h2 : isDig (l.getD (negN l) 0).toNat
    · have : digits l = 0 := by unfold digits; rw [if_neg h1, if_neg (by rw [h2]; simp)]
      rw [this]; simp [digits, negN, negB]
    · have key : ∀ k, negN l < k → k ≤ l.length → (l.take k).length = k ∧ negN (l.take k) = negN l ∧ (l.take k).getD (negN l) 0 = l.getD (negN l) 0 :=
        fun k hk hkl => ⟨by simp; omega, negN_take l k hk, by simp [List.getD, hk]⟩
      by_cases h3 : ((l.getD (negN l) 0).toNat : Int) = 48
      · have e : digits l = negN l + 1 := by unfold digits; rw [if_neg h1, if_pos h2, if_pos h3]
        obtain ⟨k1, k2, k3⟩ := key (negN l + 1) (by omega) (by omega)
        refine ⟨?_, by omega⟩
        rw [e]; unfold digits
        rw [k2, k1, k3, if_neg (by omega), if_pos h2, if_pos h3]
      · have e : digits l = negN l + ((l.drop (negN l)).takeWhile (pB isDig)).length := by unfold digits; rw [if_neg h1, if_pos h2, if_neg h3]
        have hpos : 0 < ((l.drop (negN l)).takeWhile (pB isDig)).length := by
          rw [List.drop_eq_getElem_cons (by omega : negN l < l.length), List.takeWhile_cons, if_pos (by
            have : l[negN l]'(by omega) = l.getD (negN l) 0 := by simp [List.getD, (by omega : negN l < l.length)]
            rw [this]; exact h2)]
          simp
        have hle2 : ((l.drop (negN l)).takeWhile (pB isDig)).length ≤ (l.drop (negN l)).length := (List.takeWhile_prefix _).length_le
        have hdl : (l.drop (negN l)).length = l.length - negN l := List.length_drop
        obtain ⟨k1, k2, k3⟩ := key (digits l) (by omega) (by omega)
        refine ⟨?_, by omega⟩
        generalize digits l = k at *
        unfold digits
        rw [k2, k1, k3, if_neg (by omega), if_pos h2, if_neg h3, e]
        congr 1
        rw [List.drop_take]
        have : ∀ (x : List UInt8), (x.take (x.takeWhile (pB isDig)).length).takeWhile (pB isDig) = x.takeWhile (pB isDig) := fun x => by
          rw [← (List.prefix_iff_eq_take.1 (List.takeWhile_prefix (p := pB isDig) (l := x)))]
          exact takeWhile_all fun c hc => List.all_eq_true.1 List.all_takeWhile c hc
        rw [show negN l + ((l.drop (negN l)).takeWhile (pB isDig)).length - negN l = ((l.drop (negN l)).takeWhile (pB isDig)).length by omega, this]
end Go.D

/- Comments, quoted texts, tokens. Plain lists. -/
set_option linter.unusedVariables false
set_option linter.unusedSimpArgs false
set_option maxRecDepth 100000
namespace Go.D
open Go

/-- How many bytes until a comment of a depth ends. -/
def cs (d : Nat) : List UInt8 → Option Nat
  | [] => none
  | [_] => none
  | a :: b :: r =>
    if a = 40 ∧ b = 42 then (cs (d + 1) r).map (· + 2)
    else if a = 42 ∧ b = 41 then (if d = 1 then some 2 else (cs (d - 1) r).map (· + 2))
    else (cs d (b :: r)).map (· + 1)

/-- What a quoted text means, behind its first quote, and where it ends. -/
def qS : List UInt8 → Option (Nat × List UInt8)
  | [] => none
  | [a] => if a = 34 then some (1, []) else none
  | a :: b :: r =>
    if a = 34 then some (1, [])
    else if a = 92 then
      (if b = 110 then (qS r).map fun x => (x.1 + 2, 10 :: x.2)
       else if b = 34 ∨ b = 92 then (qS r).map fun x => (x.1 + 2, b :: x.2) else none)
    else if btw 32 a.toNat 126 = true then (qS (b :: r)).map fun x => (x.1 + 1, a :: x.2) else none

def kInt : List UInt8 := [105, 110, 116]
def kText : List UInt8 := [116, 101, 120, 116]
def kVar : List UInt8 := [118, 97, 114]
def kSign : List UInt8 := [115, 105, 103, 110]
/-- Kind, text, length of the token that stands first. -/
def one (l : List UInt8) : Option (List UInt8 × List UInt8 × Nat) :=
  if ¬ (long true l).2 = [] then some ((long true l).2, l.take (long true l).1, (long true l).1)
  else if 0 < digits l then (if fits (l.take (digits l)) then some (kInt, l.take (digits l), digits l) else none)
  else if l.getD 0 0 = 34 then (match qS (l.drop 1) with
    | some x => if x.2.length ≤ 200 then some (kText, x.2, x.1 + 1) else none
    | none => none)
  else if 1 < l.length ∧ l.getD 0 0 = 39 ∧ btw 97 (l.getD 1 0).toNat 122 = true then some (kVar, l.take 2, 2)
  else if sign l = [] then none else some (kSign, sign l, (sign l).length)

abbrev Tok := List UInt8 × List UInt8 × Nat
/-- The tokens of a text, from a place on. -/
def toks (at' : Nat) (l : List UInt8) : Option (List Tok) :=
  if l.length = 0 then some []
  else if l.getD 0 0 = 32 ∨ l.getD 0 0 = 9 ∨ l.getD 0 0 = 10 then toks (at' + 1) (l.drop 1)
  else if l.take 2 = [40, 42] then (match cs 1 (l.drop 2) with
    | none => none
    | some n => toks (at' + (n + 2)) (l.drop (n + 2)))
  else match one l with
    | none => none
    | some x => if x.2.2 = 0 then none else (toks (at' + x.2.2) (l.drop x.2.2)).map fun r => (x.1, x.2.1, at') :: r
termination_by l.length
decreasing_by all_goals (simp only [List.length_drop]; omega)

theorem sign_eq (l : List UInt8) : sign l =
    if l.take 2 = [58, 58] ∨ l.take 2 = [61, 62] ∨ l.take 2 = [45, 62] ∨ l.take 2 = [58, 62] then l.take 2
    else if l.getD 0 0 ∈ ([40, 41, 91, 93, 44, 59, 58, 61, 124, 95, 43, 45, 42, 47, 37, 60, 94] : List UInt8) then l.take 1 else [] := by
  have e1 : sign l = ([[58, 58], [61, 62], [45, 62], [58, 62]] : List (List UInt8)).foldl (signStep l) (([[40], [41], [91], [93], [44], [59], [58], [61], [124], [95], [43], [45], [42], [47], [37], [60], [94]] : List (List UInt8)).foldl (signStep l) []) := by simp only [sign, signs, List.foldl_cons, List.foldl_nil]
  have e2 : ∀ (a : UInt8) (r : List UInt8) (ss : List UInt8), (ss.map fun x => [x]).foldl (signStep (a :: r)) [] = if a ∈ ss then [a] else [] := by
    intro a r ss
    have g : ∀ (ss : List UInt8), (ss.map fun x => [x]).foldl (signStep (a :: r)) [a] = [a] := by
      intro ss
      induction ss with
      | nil => rfl
      | cons b ss ih => rw [List.map_cons, List.foldl_cons, signStep, if_neg (by simp)]; exact ih
    induction ss with
    | nil => rfl
    | cons b ss ih =>
      rw [List.map_cons, List.foldl_cons]
      by_cases h : b = a
      · subst h
        rw [signStep, if_pos (by simp [Lib.hasPrefix, List.isPrefixOf]), g]
        simp
      · rw [signStep, if_neg (by simp [Lib.hasPrefix, List.isPrefixOf, h]), ih]
        simp [Ne.symm h]
  have e3 : ([[40], [41], [91], [93], [44], [59], [58], [61], [124], [95], [43], [45], [42], [47], [37], [60], [94]] : List (List UInt8)) = ([40, 41, 91, 93, 44, 59, 58, 61, 124, 95, 43, 45, 42, 47, 37, 60, 94] : List UInt8).map fun x => [x] := rfl
  rw [e1, e3]
  rcases l with _ | ⟨a, _ | ⟨b, r⟩⟩
  · have hp : ∀ (s : List UInt8) (x : UInt8) (y : List UInt8), signStep [] s (x :: y) = s := fun s x y => by simp [signStep, Lib.hasPrefix, List.isPrefixOf]
    simp [hp]
  · rw [e2]
    have hp : ∀ (s : List UInt8) (x y : UInt8), signStep [a] s [x, y] = s := fun s x y => by simp [signStep, Lib.hasPrefix, List.isPrefixOf]
    simp [hp]
  · rw [e2]
    have hp : ∀ (s : List UInt8) (x y : UInt8), signStep (a :: b :: r) s [x, y] = if s.length < 2 ∧ (a = x ∧ b = y) then [a, b] else s := fun s x y => by
      unfold signStep
      by_cases h : s.length < 2 ∧ (a = x ∧ b = y)
      · rw [if_pos h, if_pos (by simp [Lib.hasPrefix, List.isPrefixOf, h]), h.2.1, h.2.2]
      · rw [if_neg h, if_neg (by simpa [Lib.hasPrefix, List.isPrefixOf, @eq_comm _ x, @eq_comm _ y] using h)]
    generalize hq : (if a ∈ ([40, 41, 91, 93, 44, 59, 58, 61, 124, 95, 43, 45, 42, 47, 37, 60, 94] : List UInt8) then [a] else []) = q
    have hql : q.length < 2 := by rw [← hq]; split <;> simp
    simp only [List.foldl_cons, List.foldl_nil, hp, List.take_succ_cons, List.take_zero, List.getD_cons_zero, List.cons.injEq, and_true]
    by_cases h1 : a = 58 ∧ b = 58
    · simp [h1, hql]
    by_cases h2 : a = 61 ∧ b = 62
    · simp [h1, h2, hql]
    by_cases h3 : a = 45 ∧ b = 62
    · simp [h1, h2, h3, hql]
    by_cases h4 : a = 58 ∧ b = 62
    · simp [h1, h2, h3, h4, hql]
    · simp only [h1, h2, h3, h4, and_false, if_false, or_self]
      exact hq.symm
end Go.D

/- The document's reading of a token is the program's. Plain lists. -/
set_option linter.unusedVariables false
set_option linter.unusedSimpArgs false
set_option maxRecDepth 100000
namespace Go.D
open Go

def letter (a : UInt8) : Bool := btw 97 a.toNat 122 || btw 65 a.toNat 90
def signsN (l : List UInt8) : Nat :=
  if l.take 2 = [58, 58] ∨ l.take 2 = [61, 62] ∨ l.take 2 = [45, 62] ∨ l.take 2 = [58, 62] then 2
  else if l.getD 0 0 ∈ ([40, 41, 91, 93, 44, 59, 58, 61, 124, 95, 43, 45, 42, 47, 37, 60, 94] : List UInt8) then 1 else 0
theorem sign_len (l : List UInt8) : (sign l = [] ↔ signsN l = 0) ∧ sign l = l.take (signsN l) ∧ (sign l).length = signsN l := by
  rw [sign_eq]
  unfold signsN
  split
  · rename_i h
    have : 2 ≤ l.length := by
      rcases l with _ | ⟨a, _ | ⟨b, r⟩⟩ <;> simp at h ⊢
    refine ⟨⟨fun e => ?_, fun e => by omega⟩, rfl, by simp; omega⟩
    rw [e] at h; simp at h
  · split
    · rename_i h
      rcases l with _ | ⟨a, r⟩
      · simp at h
      · simp
    · simp

theorem long_letter (f : Bool) (l : List UInt8) (h : letter (l.getD 0 0) = false) : long f l = (0, []) := by
  simp only [letter, Bool.or_eq_false_iff] at h
  rw [long]
  split
  · rfl
  · rw [if_neg (by rw [h.1]; simp), if_neg (by rw [h.2]; simp)]

theorem btw_iff (a b c : Int) : btw a b c = true ↔ a ≤ b ∧ b ≤ c := by simp [btw]
theorem letter_num (a : UInt8) (h : letter a = true) : (97 ≤ a.toNat ∧ a.toNat ≤ 122) ∨ (65 ≤ a.toNat ∧ a.toNat ≤ 90) := by
  simp only [letter, Bool.or_eq_true, btw_iff] at h
  omega

theorem digits_head (l : List UInt8) (h : 0 < digits l) : l.getD 0 0 = 45 ∨ (48 ≤ (l.getD 0 0).toNat ∧ (l.getD 0 0).toNat ≤ 57) := by
  unfold digits at h
  split at h
  · omega
  split at h
  · rename_i h1 h2
    unfold isDig at h2
    rw [btw_iff] at h2
    unfold negN at h2
    cases hb : negB l
    · rw [hb] at h2; simp only [Bool.false_eq_true, if_false] at h2; right; omega
    · left
      simp only [negB, Bool.and_eq_true, decide_eq_true_eq] at hb
      have := hb.2.1
      have h5 : (l.getD 0 0).toNat = 45 := by omega
      exact UInt8.toNat_inj.1 h5
  · omega

def oneR (l : List UInt8) : Option (List UInt8 × List UInt8 × Nat) :=
  if letter (l.getD 0 0) = true then (if (long true l).2 = [] then none else some ((long true l).2, l.take (long true l).1, (long true l).1))
  else if l.getD 0 0 = 34 then (match qS (l.drop 1) with
    | some x => if x.2.length ≤ 200 then some (kText, x.2, x.1 + 1) else none
    | none => none)
  else if l.getD 0 0 = 39 then (if 1 < l.length ∧ btw 97 (l.getD 1 0).toNat 122 = true then some (kVar, l.take 2, 2) else none)
  else if 0 < digits l then (if fits (l.take (digits l)) then some (kInt, l.take (digits l), digits l) else none)
  else if signsN l = 0 then none else some (kSign, l.take (signsN l), signsN l)

theorem signs_num (a : UInt8) (h : a ∈ ([40, 41, 91, 93, 44, 59, 58, 61, 124, 95, 43, 45, 42, 47, 37, 60, 94] : List UInt8)) :
    letter a = false ∧ a ≠ 39 := by
  revert a; decide
theorem signs_none (l : List UInt8) (h : l.getD 0 0 = 39 ∨ letter (l.getD 0 0) = true) : signsN l = 0 := by
  unfold signsN
  have h0 : l.getD 0 0 ∉ ([40, 41, 91, 93, 44, 59, 58, 61, 124, 95, 43, 45, 42, 47, 37, 60, 94] : List UInt8) := fun hm => by
    obtain ⟨h1, h2⟩ := signs_num _ hm
    rcases h with h | h
    · exact h2 h
    · rw [h1] at h; cases h
  rw [if_neg, if_neg h0]
  intro hh
  apply h0
  rcases l with _ | ⟨a, _ | ⟨b, r⟩⟩
  · simp at hh
  · simp at hh
  · simp only [List.take_succ_cons, List.take_zero, List.cons.injEq, and_true, List.getD_cons_zero] at hh ⊢
    rcases hh with hh | hh | hh | hh <;> rw [hh.1] <;> decide

theorem one_eq (l : List UInt8) : one l = oneR l := by
  obtain ⟨s1, s2, s3⟩ := sign_len l
  unfold one oneR
  cases hl : letter (l.getD 0 0)
  · have : (long true l).2 = [] := by rw [long_letter true l hl]
    rw [if_neg (by simp [this])]
    simp only [Bool.false_eq_true, if_false]
    by_cases hd : 0 < digits l
    · have hh := digits_head l hd
      have h1 : ¬ l.getD 0 0 = 34 := fun e => by rw [e] at hh; revert hh; decide
      have h2 : ¬ l.getD 0 0 = 39 := fun e => by rw [e] at hh; revert hh; decide
      rw [if_pos hd, if_neg h1, if_neg h2, if_pos hd]
    · rw [if_neg hd, if_neg hd]
      by_cases h1 : l.getD 0 0 = 34
      · rw [if_pos h1, if_pos h1]; try (cases qS (l.drop 1) <;> rfl)
      · rw [if_neg h1, if_neg h1]
        by_cases h2 : l.getD 0 0 = 39
        · rw [if_pos h2]
          have : sign l = [] := s1.2 (signs_none l (.inl h2))
          simp only [h2, true_and, this, if_true]
        · rw [if_neg h2, if_neg (fun e => h2 e.2.1), s3, s2]
          by_cases h3 : signsN l = 0
          · rw [if_pos h3, if_pos (by rw [h3]; rfl)]
          · rw [if_neg h3, if_neg (by rw [← s2]; intro e; exact h3 (s1.1 e))]
  · simp only [if_true]
    by_cases h0 : (long true l).2 = []
    · rw [if_neg (by simp [h0]), if_pos h0]
      have hn := letter_num _ hl
      have hd : ¬ 0 < digits l := fun hd => by
        have := digits_head l hd
        rcases this with h | h
        · rw [h] at hn; revert hn; decide
        · omega
      have h1 : ¬ l.getD 0 0 = 34 := fun e => by rw [e] at hn; revert hn; decide
      have h2 : ¬ l.getD 0 0 = 39 := fun e => by rw [e] at hn; revert hn; decide
      rw [if_neg hd, if_neg h1, if_neg (by simp only [h2, false_and, and_false, not_false_eq_true]), if_pos (s1.2 (signs_none l (.inr hl)))]
    · rw [if_pos h0, if_neg h0]

/-- What stands behind a first part of a long name. -/
def tail (l : List UInt8) (n : Nat) : Nat × List UInt8 :=
  if n = l.length ∨ ¬ (l.getD n 0).toNat = 46 then (n, kCon)
  else if (long false (l.drop (n + 1))).2 = [] then (0, []) else (n + 1 + (long false (l.drop (n + 1))).1, (long false (l.drop (n + 1))).2)

theorem long_small (f : Bool) (l : List UInt8) (h : btw 97 (l.getD 0 0).toNat 122 = true) : long f l = if f = true ∧ l.take (word l) ∈ keys then (word l, kKey) else (word l, kName) := by
  rw [long, if_neg, if_pos h]
  intro e
  have : l = [] := by simpa using e
  rw [this] at h; revert h; decide
theorem small_great (a : Int) (h : btw 65 a 90 = true) : btw 97 a 122 = false := by
  rw [btw_iff] at h
  simp [btw]; omega
theorem long_great (f : Bool) (l : List UInt8) (h : btw 65 (l.getD 0 0).toNat 90 = true) : long f l = tail l (word l) := by
  rw [long, if_neg, if_neg (by rw [small_great _ h]; simp), if_pos h]
  · rfl
  intro e
  have : l = [] := by simpa using e
  rw [this] at h; revert h; decide

/-- Behind a dot: nothing, a name, or more. -/
theorem tail_dot (l : List UInt8) (n : Nat) (h : n < l.length) (h1 : (l.getD n 0).toNat = 46) :
    (letter (l.getD (n + 1) 0) = false → tail l n = (0, [])) ∧
    (btw 97 (l.getD (n + 1) 0).toNat 122 = true → tail l n = (n + 1 + word (l.drop (n + 1)), kName)) ∧
    (btw 65 (l.getD (n + 1) 0).toNat 90 = true → tail l n = tail l (n + 1 + word (l.drop (n + 1)))) := by
  have hg : (l.drop (n + 1)).getD 0 0 = l.getD (n + 1) 0 := by simp [List.getD]
  have e : tail l n = if (long false (l.drop (n + 1))).2 = [] then (0, []) else (n + 1 + (long false (l.drop (n + 1))).1, (long false (l.drop (n + 1))).2) := by
    unfold tail; rw [if_neg (by omega)]
  refine ⟨fun h2 => ?_, fun h2 => ?_, fun h2 => ?_⟩
  · rw [e, long_letter false _ (by rw [hg]; exact h2), if_pos rfl]
  · have e2 : long false (l.drop (n + 1)) = (word (l.drop (n + 1)), kName) := by
      rw [long_small false _ (by rw [hg]; exact h2), if_neg (by simp)]
    rw [e, e2, if_neg (by simp [kName])]
  · have hw : word (l.drop (n + 1)) ≤ (l.drop (n + 1)).length := word_le _
    have hgt : n + 1 < l.length := by
      rcases Nat.lt_or_ge (n + 1) l.length with h | h
      · exact h
      · rw [show l.getD (n + 1) 0 = 0 by simp [List.getD, h], btw_iff] at h2; exact absurd h2.1 (by decide)
    rw [List.length_drop] at hw
    rw [e, long_great false _ (by rw [hg]; exact h2)]
    generalize hwd : word (l.drop (n + 1)) = w at *
    have hg2 : (l.drop (n + 1)).getD w 0 = l.getD (n + 1 + w) 0 := by simp [List.getD]
    unfold tail
    rw [hg2, List.length_drop, List.drop_drop]
    have hc : (w = l.length - (n + 1) ∨ ¬ (l.getD (n + 1 + w) 0).toNat = 46) ↔ (n + 1 + w = l.length ∨ ¬ (l.getD (n + 1 + w) 0).toNat = 46) := by omega
    by_cases h3 : n + 1 + w = l.length ∨ ¬ (l.getD (n + 1 + w) 0).toNat = 46
    · rw [if_pos (hc.2 h3), if_pos h3, if_neg (by simp [kCon])]
    · rw [if_neg (fun e => h3 (hc.1 e)), if_neg h3]
      rw [show n + 1 + (w + 1) = n + 1 + w + 1 by omega]
      by_cases h4 : (long false (l.drop (n + 1 + w + 1))).2 = []
      · rw [if_pos h4, if_pos h4]
        simp
      · rw [if_neg h4, if_neg h4, if_neg h4]
        simp only [Prod.mk.injEq, and_true]
        omega
end Go.D

/- Bounds: how long tokens and comments are. Plain lists. -/
set_option linter.unusedVariables false
set_option linter.unusedSimpArgs false
set_option maxRecDepth 100000
namespace Go.D
open Go

theorem word_pos (l : List UInt8) (h : letter (l.getD 0 0) = true) : 0 < word l := by
  rcases l with _ | ⟨a, r⟩
  · revert h; decide
  · have : pB isPart a = true := by
      simp only [List.getD_cons_zero, letter, Bool.or_eq_true] at h
      simp only [pB, isPart, Bool.or_eq_true]
      rcases h with h | h
      · exact .inl (.inl (.inl (.inl h)))
      · exact .inl (.inl (.inl (.inr h)))
    unfold word
    rw [List.takeWhile_cons, if_pos this]
    simp

theorem long_le (n : Nat) : ∀ (f : Bool) (l : List UInt8), l.length ≤ n → (long f l).1 ≤ l.length ∧ (¬ (long f l).2 = [] → 0 < (long f l).1) := by
  induction n with
  | zero => intro f l h; rw [long, if_pos (by omega)]; simp
  | succ n ih =>
    intro f l h
    have hw := word_le l
    cases hl : letter (l.getD 0 0)
    · rw [long_letter f l hl]; simp
    · have hp := word_pos l hl
      have h0 : ¬ l.length = 0 := by omega
      simp only [letter, Bool.or_eq_true] at hl
      rcases hl with hl | hl
      · rw [long_small f l hl]
        split <;> exact ⟨hw, fun _ => hp⟩
      · rw [long_great f l hl]
        unfold tail
        split
        · exact ⟨hw, fun _ => hp⟩
        · rename_i h1
          obtain ⟨i1, i2⟩ := ih false (l.drop (word l + 1)) (by rw [List.length_drop]; omega)
          rw [List.length_drop] at i1
          split
          · simp
          · exact ⟨by simp only; omega, fun _ => by simp only; omega⟩

theorem qS_le (m : Nat) : ∀ (l : List UInt8), l.length ≤ m → ∀ n t, qS l = some (n, t) → 1 ≤ n ∧ n ≤ l.length ∧ t.length ≤ n := by
  induction m with
  | zero => intro l h n t e; have : l = [] := by simpa using h
            subst this; cases e
  | succ m ih =>
    intro l h n t e
    rcases l with _ | ⟨a, _ | ⟨b, r⟩⟩
    · cases e
    · rw [qS] at e
      split at e
      · simp at e; obtain ⟨rfl, rfl⟩ := e; simp
      · cases e
    · rw [qS] at e
      simp only [List.length_cons] at h ⊢
      split at e
      · simp at e; obtain ⟨rfl, rfl⟩ := e; simp
      split at e
      · split at e
        · cases hq : qS r with
          | none => rw [hq] at e; cases e
          | some x => rw [hq] at e; obtain ⟨n', t'⟩ := x; have := ih r (by omega) _ _ hq; simp at e; obtain ⟨rfl, rfl⟩ := e; simp; omega
        · split at e
          · cases hq : qS r with
            | none => rw [hq] at e; cases e
            | some x => rw [hq] at e; obtain ⟨n', t'⟩ := x; have := ih r (by omega) _ _ hq; simp at e; obtain ⟨rfl, rfl⟩ := e; simp; omega
          · cases e
      · split at e
        · cases hq : qS (b :: r) with
          | none => rw [hq] at e; cases e
          | some x => rw [hq] at e; obtain ⟨n', t'⟩ := x; have := ih (b :: r) (by simpa using h) _ _ hq; simp at e this; obtain ⟨rfl, rfl⟩ := e; simp; omega
        · cases e

theorem cs_len (m : Nat) : ∀ (l : List UInt8), l.length ≤ m → ∀ d n, cs d l = some n → 2 ≤ n ∧ n ≤ l.length := by
  induction m with
  | zero => intro l h d n e; have : l = [] := by simpa using h
            subst this; cases e
  | succ m ih =>
    intro l h d n e
    rcases l with _ | ⟨a, _ | ⟨b, r⟩⟩
    · cases e
    · cases e
    · rw [cs] at e
      simp only [List.length_cons] at h ⊢
      split at e
      · cases hq : cs (d + 1) r with
        | none => rw [hq] at e; cases e
        | some x => rw [hq] at e; have := ih r (by omega) _ _ hq; simp at e; omega
      split at e
      · split at e
        · simp at e; omega
        · cases hq : cs (d - 1) r with
          | none => rw [hq] at e; cases e
          | some x => rw [hq] at e; have := ih r (by omega) _ _ hq; simp at e; omega
      · cases hq : cs d (b :: r) with
        | none => rw [hq] at e; cases e
        | some x => rw [hq] at e; have := ih (b :: r) (by simpa using h) _ _ hq; simp at e this; omega

theorem one_le (l : List UInt8) (k t : List UInt8) (n : Nat) (h : one l = some (k, t, n)) : 1 ≤ n ∧ n ≤ l.length ∧ t.length ≤ 1 + l.length := by
  rw [one_eq] at h
  unfold oneR at h
  split at h
  · obtain ⟨h1, h2⟩ := long_le _ true l (Nat.le_refl _)
    split at h
    · cases h
    · rename_i h3
      have := h2 h3
      simp at h; obtain ⟨rfl, rfl, rfl⟩ := h
      refine ⟨this, h1, by simp; omega⟩
  split at h
  · cases hq : qS (l.drop 1) with
    | none => rw [hq] at h; cases h
    | some x =>
      rw [hq] at h
      obtain ⟨n', t'⟩ := x
      have h1 := qS_le _ (l.drop 1) (Nat.le_refl _) _ _ hq
      rw [List.length_drop] at h1
      simp only at h
      split at h
      · simp at h; obtain ⟨rfl, rfl, rfl⟩ := h
        omega
      · cases h
  split at h
  · split at h
    · rename_i h1
      simp at h; obtain ⟨rfl, rfl, rfl⟩ := h
      refine ⟨by omega, by omega, by simp; omega⟩
    · cases h
  split at h
  · have h1 := (digits_take l).2
    split at h
    · simp at h; obtain ⟨rfl, rfl, rfl⟩ := h
      refine ⟨by omega, h1, by simp; omega⟩
    · cases h
  · split at h
    · cases h
    · rename_i h1
      have h2 := (sign_len l).2
      simp at h; obtain ⟨rfl, rfl, rfl⟩ := h
      rw [h2.1] at h2
      have h3 := h2.2
      rw [List.length_take] at h3
      refine ⟨by omega, by omega, by simp; omega⟩
end Go.D

/- The tokens of one text. -/
set_option linter.unusedVariables false
set_option linter.unusedSimpArgs false
set_option maxRecDepth 100000
namespace Go.D
open Go

theorem toks_nil (a : Nat) : toks a [] = some [] := by rw [toks]; rfl
theorem toks_space (a : Nat) (c : UInt8) (r : List UInt8) (h : c = 32 ∨ c = 9 ∨ c = 10) : toks a (c :: r) = toks (a + 1) r := by
  rw [toks, if_neg (by simp), if_pos (by simpa using h)]; simp
theorem toks_one (a : Nat) (l : List UInt8) (k t : List UInt8) (n : Nat) (h0 : ¬ l.length = 0) (h1 : ¬ (l.getD 0 0 = 32 ∨ l.getD 0 0 = 9 ∨ l.getD 0 0 = 10)) (h2 : ¬ l.take 2 = [40, 42]) (h3 : one l = some (k, t, n)) :
    toks a l = (toks (a + n) (l.drop n)).map fun r => (k, t, a) :: r := by
  have := one_le l k t n h3
  rw [toks, if_neg h0, if_neg h1, if_neg h2, h3]
  simp only
  rw [if_neg (by omega)]

def saneText : List UInt8 := [40, 83, 46, 120, 43, 32, 45, 53, 41]
def saneToks : List Tok := [(kSign, [40], 0), (kName, [83, 46, 120], 1), (kSign, [43], 4), (kInt, [45, 53], 6), (kSign, [41], 8)]
theorem sane1 : one [40, 83, 46, 120, 43, 32, 45, 53, 41] = some (kSign, [40], 1) := by
  rw [one_eq]; decide +kernel
theorem sane3 : one [43, 32, 45, 53, 41] = some (kSign, [43], 1) := by
  rw [one_eq]; decide +kernel
theorem sane4 : one [45, 53, 41] = some (kInt, [45, 53], 2) := by
  rw [one_eq]; decide +kernel
theorem sane5 : one [41] = some (kSign, [41], 1) := by
  rw [one_eq]; decide +kernel
theorem sane2 : one [83, 46, 120, 43, 32, 45, 53, 41] = some (kName, [83, 46, 120], 3) := by
  have h : long true [83, 46, 120, 43, 32, 45, 53, 41] = (3, kName) := by
    rw [long_great true _ (by decide)]
    have hw : word [83, 46, 120, 43, 32, 45, 53, 41] = 1 := by decide
    rw [hw, (tail_dot _ 1 (by decide) (by decide)).2.1 (by decide)]
    decide
  rw [one_eq]; unfold oneR
  rw [h]; decide +kernel
theorem sane_toks : toks 0 saneText = some saneToks := by
  unfold saneText saneToks
  rw [toks_one 0 _ _ _ _ (by decide) (by decide) (by decide) sane1]
  simp only [List.drop_succ_cons, List.drop_zero]
  rw [toks_one _ _ _ _ _ (by decide) (by decide) (by decide) sane2]
  simp only [List.drop_succ_cons, List.drop_zero]
  rw [toks_one _ _ _ _ _ (by decide) (by decide) (by decide) sane3]
  simp only [List.drop_succ_cons, List.drop_zero]
  rw [toks_space _ _ _ (by decide)]
  rw [toks_one _ _ _ _ _ (by decide) (by decide) (by decide) sane4]
  simp only [List.drop_succ_cons, List.drop_zero]
  rw [toks_one _ _ _ _ _ (by decide) (by decide) (by decide) sane5]
  simp only [List.drop_succ_cons, List.drop_zero, toks_nil]
  rfl
end Go.D

/- Lines and columns. Plain lists. -/
set_option linter.unusedVariables false
set_option linter.unusedSimpArgs false
set_option maxRecDepth 100000
namespace Go.D
open Go

/-- Where the last line before a place ends. -/
def lastN (l : List UInt8) : Nat → Int
  | 0 => -1
  | i + 1 => if l.getD i 0 = 10 then i else lastN l i
theorem lastN_le (l : List UInt8) : ∀ i : Nat, -1 ≤ lastN l i ∧ lastN l i < i
  | 0 => by simp [lastN]
  | i + 1 => by
    have := lastN_le l i
    unfold lastN
    split <;> omega
theorem lastIdx_take (l : List UInt8) (i : Nat) (hi : i ≤ l.length) : ∀ k : Nat, k ≤ i → Lib.lastIdx ⟨⟨l.take i⟩⟩ 10 k = lastN l k
  | 0, _ => rfl
  | k + 1, h => by
    have h1 : ((⟨⟨l.take i⟩⟩ : ByteArray).data[k]!) = l.getD k 0 := by
      have h2 : k < l.length := by omega
      have h3 : k < i := by omega
      simp [List.getD, h2, h3]
    rw [Lib.lastIdx, lastN, lastIdx_take l i hi k (by omega), h1]
    by_cases h2 : l.getD k 0 = 10
    · rw [if_pos h2, if_pos (by rw [h2]; rfl)]
    · rw [if_neg h2, if_neg]
      intro e
      have h3 : (l.getD k 0).toNat = 10 := by omega
      exact h2 (UInt8.toNat_inj.1 h3)
theorem lastIndex_take (l : List UInt8) (i : Nat) (hi : i ≤ l.length) : Lib.lastIndexByte ⟨⟨l.take i⟩⟩ 10 = lastN l i := by
  have h : (⟨⟨l.take i⟩⟩ : ByteArray).size = i := by simp [ByteArray.size]; omega
  rw [Lib.lastIndexByte, h]
  exact lastIdx_take l i hi i (Nat.le_refl _)
theorem count_take (l : List UInt8) (i : Nat) (hi : i < l.length) : Lib.countByte (l.take (i + 1)) 10 = Lib.countByte (l.take i) 10 + if l.getD i 0 = 10 then 1 else 0 := by
  unfold Lib.countByte
  rw [List.take_add_one, List.count_append, List.getElem?_eq_getElem hi]
  have : l.getD i 0 = l[i] := by simp [List.getD, hi]
  rw [this]
  simp [List.count_cons]
end Go.D

/- What 'quote' makes of a text: plain lists, no program. -/
set_option linter.unusedVariables false
set_option linter.unusedSimpArgs false
set_option maxRecDepth 100000
namespace Go.D
open Go Go.Vm

def sp (b : UInt8) : Bool := decide (b = 34) || decide (b = 10) || decide (b = 92)
def qb (b : UInt8) : List UInt8 := if b = 34 then [92, 34] else if b = 10 then [92, 110] else if b = 92 then [92, 92] else [b]
def quoteS (l : List UInt8) : List UInt8 := l.flatMap qb
theorem qb_len (b : UInt8) : (qb b).length = 1 + (if sp b = true then 1 else 0) := by
  unfold qb sp
  by_cases h1 : b = 34
  · simp [h1]
  · by_cases h2 : b = 10
    · simp [h2]
    · by_cases h3 : b = 92
      · simp [h3]
      · simp [h1, h2, h3]
theorem quoteS_len : ∀ l : List UInt8, (quoteS l).length = l.length + l.countP sp
  | [] => rfl
  | b :: l => by
    rw [quoteS, List.flatMap_cons, List.length_append, ← quoteS, quoteS_len l, qb_len, List.countP_cons, List.length_cons]
    omega
theorem quoteS_append (a b : List UInt8) : quoteS (a ++ b) = quoteS a ++ quoteS b := List.flatMap_append
theorem quoteS_plain : ∀ l : List UInt8, l.countP sp = 0 → quoteS l = l
  | [], _ => rfl
  | b :: l, h => by
    rw [List.countP_cons] at h
    have hb : sp b = false := by cases hb : sp b <;> simp_all
    have hl : l.countP sp = 0 := by omega
    rw [quoteS, List.flatMap_cons, ← quoteS, quoteS_plain l hl]
    unfold sp at hb
    simp only [Bool.or_eq_false_iff, decide_eq_false_iff_not] at hb
    simp [qb, hb.1.1, hb.1.2, hb.2]
/-- How often the first i of the three stand there. -/
def cnt (l : List UInt8) (i : Nat) : Nat := (([34, 10, 92] : List UInt8).take i).foldl (fun n c => n + l.count c) 0
theorem cnt_3 : ∀ l : List UInt8, cnt l 3 = l.countP sp
  | [] => rfl
  | b :: l => by
    have ih := cnt_3 l
    simp only [cnt, List.take, List.foldl] at ih ⊢
    rw [List.countP_cons, ← ih]
    simp only [List.count_cons]
    unfold sp
    by_cases h1 : b = 34
    · simp [h1]; omega
    · by_cases h2 : b = 10
      · simp [h2]; omega
      · by_cases h3 : b = 92
        · simp [h3]; omega
        · simp [h1, h2, h3]
theorem cnt_le (l : List UInt8) (i : Nat) : cnt l i ≤ 3 * l.length := by
  have h1 := List.count_le_length (a := (34 : UInt8)) (l := l)
  have h2 := List.count_le_length (a := (10 : UInt8)) (l := l)
  have h3 := List.count_le_length (a := (92 : UInt8)) (l := l)
  unfold cnt
  match i with
  | 0 => simp
  | 1 => simp; omega
  | 2 => simp; omega
  | i + 3 => simp; omega
theorem take_one (l : List UInt8) (i : Nat) (h : i < l.length) : l.take (i + 1) = l.take i ++ [l.getD i 0] := by
  rw [List.take_add_one, List.getElem?_eq_getElem h]; simp [h]
theorem countP_take (l : List UInt8) (i : Nat) (h : i < l.length) : (l.take (i + 1)).countP sp = (l.take i).countP sp + (if sp (l.getD i 0) = true then 1 else 0) := by
  rw [take_one l i h, List.countP_append]; simp
theorem quoteS_take (l : List UInt8) (i : Nat) (h : i < l.length) : quoteS (l.take (i + 1)) = quoteS (l.take i) ++ qb (l.getD i 0) := by
  rw [take_one l i h, quoteS_append]; simp [quoteS]
theorem quoteS_le (l : List UInt8) (i : Nat) : (quoteS (l.take i)).length ≤ (quoteS l).length := by
  conv => rhs; rw [← List.take_append_drop i l, quoteS_append, List.length_append]
  omega
theorem countP_le (l : List UInt8) (i : Nat) : (l.take i).countP sp ≤ l.length := Nat.le_trans List.countP_le_length (by simp; omega)
/-- A text between quotes. -/
def quoteT (l : List UInt8) : List UInt8 := [34] ++ quoteS l ++ [34]
end Go.D
