/- What the tokens of a text are: plain lists, no program. -/
import Derived.Lib.Strings
set_option linter.unusedVariables false
set_option linter.unusedSimpArgs false
set_option maxRecDepth 100000
namespace Go.D
open Go

def btw (a b c : Int) : Bool := decide (a ≤ b) && decide (b ≤ c)
def isPart (b : Int) : Bool := btw 97 b 122 || btw 65 b 90 || btw 48 b 57 || decide (b = 95) || decide (b = 39)
def pB (p : Int → Bool) (x : UInt8) : Bool := p x.toNat
/-- How many come first that are so. -/
theorem takeWhile_len {p : UInt8 → Bool} : ∀ {l : List UInt8} {i : Nat}, i ≤ l.length → (∀ x ∈ l.take i, p x = true) → (i < l.length → p (l.getD i 0) = false) → (l.takeWhile p).length = i
  | [], i, h, _, _ => by simp at h; simp [h]
  | a :: l, 0, _, _, h => by have := h (by simp); simp at this; simp [this]
  | a :: l, i + 1, h, h1, h2 => by
    have ha : p a = true := h1 a (by simp)
    rw [List.takeWhile_cons, if_pos ha, List.length_cons, takeWhile_len (i := i) (by simpa using h) (fun x hx => h1 x (by simp [hx])) (fun hi => by simpa using h2 (by simpa using hi))]
theorem take_succ_all {p : UInt8 → Bool} {l : List UInt8} {i : Nat} (hi : i < l.length) (h : ∀ x ∈ l.take i, p x = true) (h1 : p (l.getD i 0) = true) : ∀ x ∈ l.take (i + 1), p x = true := by
  intro x hx
  rw [List.take_add_one, List.mem_append] at hx
  rcases hx with hx | hx
  · exact h x hx
  · have : x = l.getD i 0 := by simp [List.getElem?_eq_getElem hi] at hx; simp [hi, hx]
    rw [this]; exact h1

def word (l : List UInt8) : Nat := (l.takeWhile (pB isPart)).length
def isDig (b : Int) : Bool := btw 48 b 57
/-- Whether a sign stands before a digit that is not 0. -/
def negB (l : List UInt8) : Bool := decide ((1 : Int) < l.length) && (decide (((l.getD 0 0).toNat : Int) = 45) && btw 49 (l.getD 1 0).toNat 57)
def negN (l : List UInt8) : Nat := if negB l then 1 else 0
/-- How long the number is that stands first. -/
def digits (l : List UInt8) : Nat :=
  if negN l = l.length then 0
  else if isDig (l.getD (negN l) 0).toNat then (if ((l.getD (negN l) 0).toNat : Int) = 48 then negN l + 1 else negN l + ((l.drop (negN l)).takeWhile (pB isDig)).length) else 0

theorem negN_le (l : List UInt8) : negN l ≤ l.length := by
  unfold negN
  split
  · rename_i h; simp only [negB, Bool.and_eq_true, decide_eq_true_eq] at h; omega
  · omega

def keysText : List UInt8 := [102, 110, 32, 108, 101, 116, 32, 105, 110, 32, 102, 117, 110, 32, 105, 102, 32, 116, 104, 101, 110, 32, 101, 108, 115, 101, 32, 99, 97, 115, 101, 32, 111, 102, 32, 114, 97, 105, 115, 101, 32, 104, 97, 110, 100, 108, 101, 32, 100, 97, 116, 97, 116, 121, 112, 101, 32, 101, 120, 99, 101, 112, 116, 105, 111, 110, 32, 118, 97, 108, 32, 115, 116, 114, 117, 99, 116, 117, 114, 101, 32, 115, 116, 114, 117, 99, 116, 32, 101, 110, 100, 32, 115, 105, 103, 110, 97, 116, 117, 114, 101, 32, 115, 105, 103, 32, 116, 121, 112, 101, 32, 102, 117, 110, 99, 116, 111, 114, 32, 100, 111, 32, 116, 114, 117, 101, 32, 102, 97, 108, 115, 101, 32, 105, 110, 116, 32, 98, 111, 111, 108, 32, 117, 110, 105, 116, 32, 116, 101, 120, 116, 32, 108, 105, 115, 116, 32, 97, 114, 114, 97, 121, 32, 115, 105, 122, 101, 32, 98, 121, 116, 101, 32, 99, 104, 97, 114, 32, 115, 104, 111, 119, 32, 115, 97, 109, 101, 32, 103, 101, 116, 32, 115, 101, 116, 32, 108, 101, 110, 103, 116, 104, 32, 112, 114, 105, 110, 116]
def keys : List (List UInt8) := [[102, 110], [108, 101, 116], [105, 110], [102, 117, 110], [105, 102], [116, 104, 101, 110], [101, 108, 115, 101], [99, 97, 115, 101], [111, 102], [114, 97, 105, 115, 101], [104, 97, 110, 100, 108, 101], [100, 97, 116, 97, 116, 121, 112, 101], [101, 120, 99, 101, 112, 116, 105, 111, 110], [118, 97, 108], [115, 116, 114, 117, 99, 116, 117, 114, 101], [115, 116, 114, 117, 99, 116], [101, 110, 100], [115, 105, 103, 110, 97, 116, 117, 114, 101], [115, 105, 103], [116, 121, 112, 101], [102, 117, 110, 99, 116, 111, 114], [100, 111], [116, 114, 117, 101], [102, 97, 108, 115, 101], [105, 110, 116], [98, 111, 111, 108], [117, 110, 105, 116], [116, 101, 120, 116], [108, 105, 115, 116], [97, 114, 114, 97, 121], [115, 105, 122, 101], [98, 121, 116, 101], [99, 104, 97, 114], [115, 104, 111, 119], [115, 97, 109, 101], [103, 101, 116], [115, 101, 116], [108, 101, 110, 103, 116, 104], [112, 114, 105, 110, 116]]
def signsText : List UInt8 := [40, 32, 41, 32, 91, 32, 93, 32, 44, 32, 59, 32, 58, 32, 61, 32, 124, 32, 95, 32, 43, 32, 45, 32, 42, 32, 47, 32, 37, 32, 60, 32, 94, 32, 58, 58, 32, 61, 62, 32, 45, 62, 32, 58, 62]
def signs : List (List UInt8) := [[40], [41], [91], [93], [44], [59], [58], [61], [124], [95], [43], [45], [42], [47], [37], [60], [94], [58, 58], [61, 62], [45, 62], [58, 62]]
def signStep (l s x : List UInt8) : List UInt8 := if s.length < x.length ∧ Lib.hasPrefix l x = true then x else s
def sign (l : List UInt8) : List UInt8 := signs.foldl (signStep l) []

def kKey : List UInt8 := [107, 101, 121]
def kName : List UInt8 := [110, 97, 109, 101]
def kCon : List UInt8 := [99, 111, 110]
/-- The name that stands first: how long it is, and its kind. -/
def long (first : Bool) (l : List UInt8) : Nat × List UInt8 :=
  if l.length = 0 then (0, []) else
  if btw 97 (l.getD 0 0).toNat 122 = true then (if first = true ∧ l.take (word l) ∈ keys then (word l, kKey) else (word l, kName))
  else if btw 65 (l.getD 0 0).toNat 90 = true then
    (if word l = l.length ∨ ¬ (l.getD (word l) 0).toNat = 46 then (word l, kCon)
     else if (long false (l.drop (word l + 1))).2 = [] then (0, []) else (word l + 1 + (long false (l.drop (word l + 1))).1, (long false (l.drop (word l + 1))).2))
  else (0, [])
termination_by l.length
decreasing_by all_goals (simp only [List.length_drop]; omega)

theorem long_none (f : Bool) (l : List UInt8) (h : (long f l).2 = []) : long f l = (0, []) := by
  rw [long] at h ⊢
  repeat' split at h
  all_goals first | (simp [kKey, kName, kCon] at h; done) | skip
  all_goals simp_all

theorem word_le (l : List UInt8) : word l ≤ l.length := by
  unfold word
  exact (List.takeWhile_prefix _).length_le

end Go.D
