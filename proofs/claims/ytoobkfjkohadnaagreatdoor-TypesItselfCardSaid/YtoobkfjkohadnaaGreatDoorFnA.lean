/- What the tokens of a text are: plain lists, no program. -/
import Derived.Lib.Strings
import Derived.Test.YtoobkfjkohadnaaGreatDoorVmE
set_option linter.unusedVariables false
set_option linter.unusedSimpArgs false
set_option maxRecDepth 100000
namespace Go.D
open Go

def btw (a b c : Int) : Bool := decide (a ≤ b) && decide (b ≤ c)
def isPart (b : Int) : Bool := btw 97 b 122 || btw 65 b 90 || btw 48 b 57 || decide (b = 95) || decide (b = 39)
def pB (p : Int → Bool) (x : UInt8) : Bool := p x.toNat
/-- How many come first that are so. -/
theorem takeWhile_len {p : UInt8 → Bool} : ∀ {l : List UInt8} {i : Nat}, i ≤ l.length → (∀ x ∈ l.take i, p x = true) → (i < l.length → p (l.getD i 0) = false) → (l.takeWhile p).length = i
  | [], i, h, _, _ => by simp at h; simp [h]
  | a :: l, 0, _, _, h => by have := h (by simp); simp at this; simp [this]
  | a :: l, i + 1, h, h1, h2 => by
    have ha : p a = true := h1 a (by simp)
    rw [List.takeWhile_cons, if_pos ha, List.length_cons, takeWhile_len (i := i) (by simpa using h) (fun x hx => h1 x (by simp [hx])) (fun hi => by simpa using h2 (by simpa using hi))]
theorem take_succ_all {p : UInt8 → Bool} {l : List UInt8} {i : Nat} (hi : i < l.length) (h : ∀ x ∈ l.take i, p x = true) (h1 : p (l.getD i 0) = true) : ∀ x ∈ l.take (i + 1), p x = true := by
  intro x hx
  rw [List.take_add_one, List.mem_append] at hx
  rcases hx with hx | hx
  · exact h x hx
  · have : x = l.getD i 0 := by simp [List.getElem?_eq_getElem hi] at hx; simp [hi, hx]
    rw [this]; exact h1

def word (l : List UInt8) : Nat := (l.takeWhile (pB isPart)).length
def isDig (b : Int) : Bool := btw 48 b 57
/-- Whether a sign stands before a digit that is not 0. -/
def negB (l : List UInt8) : Bool := decide ((1 : Int) < l.length) && (decide (((l.getD 0 0).toNat : Int) = 45) && btw 49 (l.getD 1 0).toNat 57)
def negN (l : List UInt8) : Nat := if negB l then 1 else 0
/-- How long the number is that stands first. -/
def digits (l : List UInt8) : Nat :=
  if negN l = l.length then 0
  else if isDig (l.getD (negN l) 0).toNat then (if ((l.getD (negN l) 0).toNat : Int) = 48 then negN l + 1 else negN l + ((l.drop (negN l)).takeWhile (pB isDig)).length) else 0

theorem negN_le (l : List UInt8) : negN l ≤ l.length := by
  unfold negN
  split
  · rename_i h; simp only [negB, Bool.and_eq_true, decide_eq_true_eq] at h; omega
  · omega

def keysText : List UInt8 := [102, 110, 32, 108, 101, 116, 32, 105, 110, 32, 102, 117, 110, 32, 105, 102, 32, 116, 104, 101, 110, 32, 101, 108, 115, 101, 32, 99, 97, 115, 101, 32, 111, 102, 32, 114, 97, 105, 115, 101, 32, 104, 97, 110, 100, 108, 101, 32, 100, 97, 116, 97, 116, 121, 112, 101, 32, 101, 120, 99, 101, 112, 116, 105, 111, 110, 32, 118, 97, 108, 32, 115, 116, 114, 117, 99, 116, 117, 114, 101, 32, 115, 116, 114, 117, 99, 116, 32, 101, 110, 100, 32, 115, 105, 103, 110, 97, 116, 117, 114, 101, 32, 115, 105, 103, 32, 116, 121, 112, 101, 32, 102, 117, 110, 99, 116, 111, 114, 32, 100, 111, 32, 116, 114, 117, 101, 32, 102, 97, 108, 115, 101, 32, 105, 110, 116, 32, 98, 111, 111, 108, 32, 117, 110, 105, 116, 32, 116, 101, 120, 116, 32, 108, 105, 115, 116, 32, 97, 114, 114, 97, 121, 32, 115, 105, 122, 101, 32, 98, 121, 116, 101, 32, 99, 104, 97, 114, 32, 115, 104, 111, 119, 32, 115, 97, 109, 101, 32, 103, 101, 116, 32, 115, 101, 116, 32, 108, 101, 110, 103, 116, 104, 32, 112, 114, 105, 110, 116]
def keys : List (List UInt8) := [[102, 110], [108, 101, 116], [105, 110], [102, 117, 110], [105, 102], [116, 104, 101, 110], [101, 108, 115, 101], [99, 97, 115, 101], [111, 102], [114, 97, 105, 115, 101], [104, 97, 110, 100, 108, 101], [100, 97, 116, 97, 116, 121, 112, 101], [101, 120, 99, 101, 112, 116, 105, 111, 110], [118, 97, 108], [115, 116, 114, 117, 99, 116, 117, 114, 101], [115, 116, 114, 117, 99, 116], [101, 110, 100], [115, 105, 103, 110, 97, 116, 117, 114, 101], [115, 105, 103], [116, 121, 112, 101], [102, 117, 110, 99, 116, 111, 114], [100, 111], [116, 114, 117, 101], [102, 97, 108, 115, 101], [105, 110, 116], [98, 111, 111, 108], [117, 110, 105, 116], [116, 101, 120, 116], [108, 105, 115, 116], [97, 114, 114, 97, 121], [115, 105, 122, 101], [98, 121, 116, 101], [99, 104, 97, 114], [115, 104, 111, 119], [115, 97, 109, 101], [103, 101, 116], [115, 101, 116], [108, 101, 110, 103, 116, 104], [112, 114, 105, 110, 116]]
def signsText : List UInt8 := [40, 32, 41, 32, 91, 32, 93, 32, 44, 32, 59, 32, 58, 32, 61, 32, 124, 32, 95, 32, 43, 32, 45, 32, 42, 32, 47, 32, 37, 32, 60, 32, 94, 32, 58, 58, 32, 61, 62, 32, 45, 62, 32, 58, 62]
def signs : List (List UInt8) := [[40], [41], [91], [93], [44], [59], [58], [61], [124], [95], [43], [45], [42], [47], [37], [60], [94], [58, 58], [61, 62], [45, 62], [58, 62]]
def signStep (l s x : List UInt8) : List UInt8 := if s.length < x.length ∧ Lib.hasPrefix l x = true then x else s
def sign (l : List UInt8) : List UInt8 := signs.foldl (signStep l) []

def kKey : List UInt8 := [107, 101, 121]
def kName : List UInt8 := [110, 97, 109, 101]
def kCon : List UInt8 := [99, 111, 110]
/-- The name that stands first: how long it is, and its kind. -/
def long (first : Bool) (l : List UInt8) : Nat × List UInt8 :=
  if l.length = 0 then (0, []) else
  if btw 97 (l.getD 0 0).toNat 122 = true then (if first = true ∧ l.take (word l) ∈ keys then (word l, kKey) else (word l, kName))
  else if btw 65 (l.getD 0 0).toNat 90 = true then
    (if word l = l.length ∨ ¬ (l.getD (word l) 0).toNat = 46 then (word l, kCon)
     else if (long false (l.drop (word l + 1))).2 = [] then (0, []) else (word l + 1 + (long false (l.drop (word l + 1))).1, (long false (l.drop (word l + 1))).2))
  else (0, [])
termination_by l.length
decreasing_by all_goals (simp only [List.length_drop]; omega)

theorem long_none (f : Bool) (l : List UInt8) (h : (long f l).2 = []) : long f l = (0, []) := by
  rw [long] at h ⊢
  repeat' split at h
  all_goals first | (simp [kKey, kName, kCon] at h; done) | skip
  all_goals simp_all

theorem word_le (l : List UInt8) : word l ≤ l.length := by
  unfold word
  exact (List.takeWhile_prefix _).length_le

end Go.D

/- Types as trees; what layer 4 makes of them: variables, what makes a type another one. (No program in sight.) -/
set_option linter.unusedVariables false
set_option linter.unusedSimpArgs false
namespace Go.D
open Go Go.Vm

/-- A type of layer 2. -/
inductive Tr where
  | mk (d n : List UInt8) (args : List Tr)
def Tr.d : Tr → List UInt8 | .mk d _ _ => d
def Tr.n : Tr → List UInt8 | .mk _ n _ => n
def Tr.args : Tr → List Tr | .mk _ _ us => us
abbrev kiInt : List UInt8 := [105, 110, 116]
abbrev kiBool : List UInt8 := [98, 111, 111, 108]
abbrev kiUnit : List UInt8 := [117, 110, 105, 116]
abbrev kiText : List UInt8 := [116, 101, 120, 116]
abbrev kiData : List UInt8 := [100, 97, 116, 97]
abbrev kiVar : List UInt8 := [118, 97, 114]
abbrev kiList : List UInt8 := [108, 105, 115, 116]
abbrev kiArray : List UInt8 := [97, 114, 114, 97, 121]
abbrev kiPair : List UInt8 := [112, 97, 105, 114]
abbrev kiFn : List UInt8 := [102, 110]
def partsI (d : List UInt8) : Int :=
  if d = kiInt ∨ d = kiBool ∨ d = kiUnit ∨ d = kiText ∨ d = kiData ∨ d = kiVar then 0
  else if d = kiList ∨ d = kiArray then 1
  else if d = kiPair ∨ d = kiFn then 2 else -1
/-- A variable's name. -/
def varB (n : List UInt8) : Bool := decide ((n.length : Int) = 2) && (decide (((n.getD 0 0).toNat : Int) = 39) && btw 97 ((n.getD 1 0).toNat : Int) 122)

section
variable (con : List UInt8 → Bool)
mutual
/-- A type's shape; 'con' tells the names of datatypes. -/
def typeB : Tr → Bool
  | .mk d n us => (!decide (d = kiData) || con n) && ((!decide (d = kiVar) || varB n) && ((decide (d = kiData) || (decide (d = kiVar) || decide (n = []))) && (decide (partsI d = us.length) && typeBs us)))
def typeBs : List Tr → Bool
  | [] => true
  | t :: ts => typeB t && typeBs ts
end
end

def wr (x : Int) : Int := IntKind.i64.wrap x
/-- The size above sizes, in 64 bits. -/
def aboveS : Int × Int → List (Int × Int) → Int × Int
  | o, [] => o
  | o, s :: r => aboveS (wr (o.1 + s.1), max o.2 (wr (s.2 + 1))) r
mutual
def ofT : Tr → Int × Int
  | .mk _ _ us => aboveS (1, 1) (ofTs us)
def ofTs : List Tr → List (Int × Int)
  | [] => []
  | t :: ts => ofT t :: ofTs ts
end
def fitsB (s : Int × Int) : Bool := decide (s.1 ≤ 2000) && decide (s.2 ≤ 200)
def validT (con : List UInt8 → Bool) (t : Tr) : Bool := typeB con t && fitsB (ofT t)

mutual
/-- The variables, in the order in which they first stand, behind others. -/
def ordT : Tr → List (List UInt8) → List (List UInt8)
  | .mk d n us, acc => ordTs us (if d = kiVar ∧ n ∉ acc then acc ++ [n] else acc)
def ordTs : List Tr → List (List UInt8) → List (List UInt8)
  | [], acc => acc
  | t :: ts, acc => ordTs ts (ordT t acc)
end
mutual
def sameB : Tr → Tr → Bool
  | .mk d n us, .mk d' n' us' => decide (d = d') && (decide (n = n') && (decide (us.length = us'.length) && sameBs us us'))
def sameBs : List Tr → List Tr → Bool
  | t :: ts, u :: us => sameB t u && sameBs ts us
  | _, _ => true
end
mutual
theorem sameB_refl : ∀ t : Tr, sameB t t = true
  | .mk d n us => by simp [sameB, sameBs_refl us]
theorem sameBs_refl : ∀ l : List Tr, sameBs l l = true
  | [] => rfl
  | t :: ts => by simp [sameBs, sameB_refl t, sameBs_refl ts]
end
mutual
theorem sameB_eq : ∀ (t u : Tr), sameB t u = true → t = u
  | .mk d n us, .mk d' n' us', h => by
    simp only [sameB, Bool.and_eq_true, decide_eq_true_eq] at h
    obtain ⟨rfl, rfl, h1, h2⟩ := h
    rw [sameBs_eq us us' h1 h2]
theorem sameBs_eq : ∀ (l l' : List Tr), l.length = l'.length → sameBs l l' = true → l = l'
  | [], [], _, _ => rfl
  | t :: ts, u :: us, h1, h2 => by
    simp only [sameBs, Bool.and_eq_true] at h2
    rw [sameB_eq t u h2.1, sameBs_eq ts us (by simpa using h1) h2.2]
end
theorem sameB_iff (t u : Tr) : sameB t u = true ↔ t = u := ⟨sameB_eq t u, fun h => by rw [h]; exact sameB_refl u⟩

/-- A substitution that is being found: what is known of variables, in the order in which they came. -/
abbrev Sub' := List (List UInt8 × Tr)
def Sub'.look (s : Sub') (n : List UInt8) : Option Tr := match s with
  | [] => none
  | e :: r => if n = e.1 then some e.2 else Sub'.look r n
mutual
def matT : Tr → Tr → Sub' → Bool × Sub'
  | .mk d n us, .mk d' n' us', s =>
    if d = kiVar then
      match s.look n with
      | none => (true, s ++ [(n, .mk d' n' us')])
      | some t => (sameB t (.mk d' n' us'), s)
    else if d = d' ∧ n = n' ∧ us.length = us'.length then matTs us us' s else (false, s)
def matTs : List Tr → List Tr → Sub' → Bool × Sub'
  | t :: ts, u :: us, s => if (matT t u s).1 = true then matTs ts us (matT t u s).2 else (false, (matT t u s).2)
  | _, _, s => (true, s)
end

/-! ### A type is an instance of itself -/
def idS (acc : List (List UInt8)) : Sub' := acc.map fun n => (n, .mk kiVar n [])
theorem idS_look : ∀ (acc : List (List UInt8)) (n : List UInt8), (idS acc).look n = if n ∈ acc then some (.mk kiVar n []) else none
  | [], n => by simp [idS, Sub'.look]
  | m :: r, n => by
    have := idS_look r n
    simp only [idS, List.map_cons, Sub'.look] at this ⊢
    by_cases h : n = m
    · subst h; simp
    · simp only [h, if_false, List.mem_cons, false_or]; exact this
mutual
theorem matT_self (con : List UInt8 → Bool) : ∀ (t : Tr) (acc : List (List UInt8)), typeB con t = true → matT t t (idS acc) = (true, idS (ordT t acc))
  | .mk d n us, acc, h => by
    simp only [typeB, Bool.and_eq_true, decide_eq_true_eq] at h
    obtain ⟨h1, h2, h3, h4, h5⟩ := h
    unfold matT
    by_cases hd : d = kiVar
    · subst hd
      have hus : us = [] := by
        have : partsI kiVar = 0 := by decide
        rw [this] at h4
        exact List.length_eq_zero_iff.1 (by omega)
      subst hus
      rw [if_pos rfl, idS_look]
      by_cases hn : n ∈ acc
      · simp only [hn, if_true, sameB_refl, ordT, ordTs, not_true, and_false, if_false]
      · simp only [hn, if_false, ordT, ordTs, not_false_iff, and_self, if_true]
        simp [idS]
    · rw [if_neg hd, if_pos ⟨rfl, rfl, rfl⟩]
      rw [matTs_self con us acc h5]
      simp only [ordT, hd, false_and, if_false]
theorem matTs_self (con : List UInt8 → Bool) : ∀ (l : List Tr) (acc : List (List UInt8)), typeBs con l = true → matTs l l (idS acc) = (true, idS (ordTs l acc))
  | [], acc, _ => by simp [matTs, ordTs]
  | t :: ts, acc, h => by
    simp only [typeBs, Bool.and_eq_true] at h
    simp only [matTs, matT_self con t acc h.1, if_true, matTs_self con ts _ h.2, ordTs]
end
end Go.D
