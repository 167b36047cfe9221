/- What the tokens of a text are: plain lists, no program. -/
import Derived.Lib.Strings
import Derived.Test.YtoobkfjkohadnaaGreatDoorVmE
import Derived.Test.YtoobkfjkohadnaaGreatDoorProg
import Derived.Test.YtoobkfjkohadnaaGreatDoorShelf
import Derived.WalkSmall
import Derived.Lib.SmallJoins
import Derived.Lib.SplitLaws
set_option linter.unusedVariables false
set_option linter.unusedSimpArgs false
set_option maxRecDepth 100000
namespace Go.D
open Go
def btw (a b c : Int) : Bool := decide (a ≤ b) && decide (b ≤ c)
def isPart (b : Int) : Bool := btw 97 b 122 || btw 65 b 90 || btw 48 b 57 || decide (b = 95) || decide (b = 39)
def pB (p : Int → Bool) (x : UInt8) : Bool := p x.toNat
theorem takeWhile_len {p : UInt8 → Bool} : ∀ {l : List UInt8} {i : Nat}, i ≤ l.length → (∀ x ∈ l.take i, p x = true) → (i < l.length → p (l.getD i 0) = false) → (l.takeWhile p).length = i
 | [], i, h, _, _ => by simp at h; simp [h]
 | a :: l, 0, _, _, h => by have := h (by simp); simp at this; simp [this]
 | a :: l, i + 1, h, h1, h2 => by
  have ha : p a = true := h1 a (by simp)
  rw [List.takeWhile_cons, if_pos ha, List.length_cons, takeWhile_len (i := i) (by simpa using h) (fun x hx => h1 x (by simp [hx])) (fun hi => by simpa using h2 (by simpa using hi))]
theorem take_succ_all {p : UInt8 → Bool} {l : List UInt8} {i : Nat} (hi : i < l.length) (h : ∀ x ∈ l.take i, p x = true) (h1 : p (l.getD i 0) = true) : ∀ x ∈ l.take (i + 1), p x = true := by
 intro x hx
 rw [List.take_add_one, List.mem_append] at hx
 rcases hx with hx | hx
 ·exact h x hx
 ·have : x = l.getD i 0 := by simp [List.getElem?_eq_getElem hi] at hx; simp [hi, hx]
  rw [this]; exact h1
def word (l : List UInt8) : Nat := (l.takeWhile (pB isPart)).length
def isDig (b : Int) : Bool := btw 48 b 57
def negB (l : List UInt8) : Bool := decide ((1 : Int) < l.length) && (decide (((l.getD 0 0).toNat : Int) = 45) && btw 49 (l.getD 1 0).toNat 57)
def negN (l : List UInt8) : Nat := if negB l then 1 else 0
def digits (l : List UInt8) : Nat :=
 if negN l = l.length then 0
 else if isDig (l.getD (negN l) 0).toNat then (if ((l.getD (negN l) 0).toNat : Int) = 48 then negN l + 1 else negN l + ((l.drop (negN l)).takeWhile (pB isDig)).length) else 0
theorem negN_le (l : List UInt8) : negN l ≤ l.length := by
 unfold negN
 split
 ·rename_i h; simp only [negB, Bool.and_eq_true, decide_eq_true_eq] at h; omega
 ·omega
def keysText : List UInt8 := [102, 110, 32, 108, 101, 116, 32, 105, 110, 32, 102, 117, 110, 32, 105, 102, 32, 116, 104, 101, 110, 32, 101, 108, 115, 101, 32, 99, 97, 115, 101, 32, 111, 102, 32, 114, 97, 105, 115, 101, 32, 104, 97, 110, 100, 108, 101, 32, 100, 97, 116, 97, 116, 121, 112, 101, 32, 101, 120, 99, 101, 112, 116, 105, 111, 110, 32, 118, 97, 108, 32, 115, 116, 114, 117, 99, 116, 117, 114, 101, 32, 115, 116, 114, 117, 99, 116, 32, 101, 110, 100, 32, 115, 105, 103, 110, 97, 116, 117, 114, 101, 32, 115, 105, 103, 32, 116, 121, 112, 101, 32, 102, 117, 110, 99, 116, 111, 114, 32, 100, 111, 32, 116, 114, 117, 101, 32, 102, 97, 108, 115, 101, 32, 105, 110, 116, 32, 98, 111, 111, 108, 32, 117, 110, 105, 116, 32, 116, 101, 120, 116, 32, 108, 105, 115, 116, 32, 97, 114, 114, 97, 121, 32, 115, 105, 122, 101, 32, 98, 121, 116, 101, 32, 99, 104, 97, 114, 32, 115, 104, 111, 119, 32, 115, 97, 109, 101, 32, 103, 101, 116, 32, 115, 101, 116, 32, 108, 101, 110, 103, 116, 104, 32, 112, 114, 105, 110, 116]
def keys : List (List UInt8) := [[102, 110], [108, 101, 116], [105, 110], [102, 117, 110], [105, 102], [116, 104, 101, 110], [101, 108, 115, 101], [99, 97, 115, 101], [111, 102], [114, 97, 105, 115, 101], [104, 97, 110, 100, 108, 101], [100, 97, 116, 97, 116, 121, 112, 101], [101, 120, 99, 101, 112, 116, 105, 111, 110], [118, 97, 108], [115, 116, 114, 117, 99, 116, 117, 114, 101], [115, 116, 114, 117, 99, 116], [101, 110, 100], [115, 105, 103, 110, 97, 116, 117, 114, 101], [115, 105, 103], [116, 121, 112, 101], [102, 117, 110, 99, 116, 111, 114], [100, 111], [116, 114, 117, 101], [102, 97, 108, 115, 101], [105, 110, 116], [98, 111, 111, 108], [117, 110, 105, 116], [116, 101, 120, 116], [108, 105, 115, 116], [97, 114, 114, 97, 121], [115, 105, 122, 101], [98, 121, 116, 101], [99, 104, 97, 114], [115, 104, 111, 119], [115, 97, 109, 101], [103, 101, 116], [115, 101, 116], [108, 101, 110, 103, 116, 104], [112, 114, 105, 110, 116]]
def signs : List (List UInt8) := [[40], [41], [91], [93], [44], [59], [58], [61], [124], [95], [43], [45], [42], [47], [37], [60], [94], [58, 58], [61, 62], [45, 62], [58, 62]]
def signStep (l s x : List UInt8) : List UInt8 := if s.length < x.length ∧ Lib.hasPrefix l x = true then x else s
def sign (l : List UInt8) : List UInt8 := signs.foldl (signStep l) []
def kKey : List UInt8 := [107, 101, 121]
def kName : List UInt8 := [110, 97, 109, 101]
def kCon : List UInt8 := [99, 111, 110]
def long (first : Bool) (l : List UInt8) : Nat × List UInt8 :=
 if l.length = 0 then (0, []) else
 if btw 97 (l.getD 0 0).toNat 122 = true then (if first = true ∧ l.take (word l) ∈ keys then (word l, kKey) else (word l, kName))
 else if btw 65 (l.getD 0 0).toNat 90 = true then
  (if word l = l.length ∨ ¬ (l.getD (word l) 0).toNat = 46 then (word l, kCon)
   else if (long false (l.drop (word l + 1))).2 = [] then (0, []) else (word l + 1 + (long false (l.drop (word l + 1))).1, (long false (l.drop (word l + 1))).2))
 else (0, [])
termination_by l.length
decreasing_by all_goals (simp only [List.length_drop]; omega)
theorem long_none (f : Bool) (l : List UInt8) (h : (long f l).2 = []) : long f l = (0, []) := by
 rw [long] at h ⊢
 repeat' split at h
 all_goals first | (simp [kKey, kName, kCon] at h; done) | skip
 all_goals simp_all
theorem word_le (l : List UInt8) : word l ≤ l.length := by
 unfold word
 exact (List.takeWhile_prefix _).length_le
end Go.D
namespace Go.D
open Go Go.Vm
inductive Tr where
 | mk (d n : List UInt8) (args : List Tr)
def Tr.d : Tr → List UInt8 | .mk d _ _ => d
def Tr.n : Tr → List UInt8 | .mk _ n _ => n
def Tr.args : Tr → List Tr | .mk _ _ us => us
abbrev kiInt : List UInt8 := [105, 110, 116]
abbrev kiBool : List UInt8 := [98, 111, 111, 108]
abbrev kiUnit : List UInt8 := [117, 110, 105, 116]
abbrev kiText : List UInt8 := [116, 101, 120, 116]
abbrev kiData : List UInt8 := [100, 97, 116, 97]
abbrev kiVar : List UInt8 := [118, 97, 114]
abbrev kiList : List UInt8 := [108, 105, 115, 116]
abbrev kiArray : List UInt8 := [97, 114, 114, 97, 121]
abbrev kiPair : List UInt8 := [112, 97, 105, 114]
abbrev kiFn : List UInt8 := [102, 110]
def partsI (d : List UInt8) : Int :=
 if d = kiInt ∨ d = kiBool ∨ d = kiUnit ∨ d = kiText ∨ d = kiData ∨ d = kiVar then 0
 else if d = kiList ∨ d = kiArray then 1
 else if d = kiPair ∨ d = kiFn then 2 else -1
def varB (n : List UInt8) : Bool := decide ((n.length : Int) = 2) && (decide (((n.getD 0 0).toNat : Int) = 39) && btw 97 ((n.getD 1 0).toNat : Int) 122)
section
variable (con : List UInt8 → Bool)
mutual
def typeB : Tr → Bool
 | .mk d n us => (!decide (d = kiData) || con n) && ((!decide (d = kiVar) || varB n) && ((decide (d = kiData) || (decide (d = kiVar) || decide (n = []))) && (decide (partsI d = us.length) && typeBs us)))
def typeBs : List Tr → Bool
 | [] => true
 | t :: ts => typeB t && typeBs ts
end
end
def wr (x : Int) : Int := IntKind.i64.wrap x
def aboveS : Int × Int → List (Int × Int) → Int × Int
 | o, [] => o
 | o, s :: r => aboveS (wr (o.1 + s.1), max o.2 (wr (s.2 + 1))) r
mutual
def ofT : Tr → Int × Int
 | .mk _ _ us => aboveS (1, 1) (ofTs us)
def ofTs : List Tr → List (Int × Int)
 | [] => []
 | t :: ts => ofT t :: ofTs ts
end
def fitsB (s : Int × Int) : Bool := decide (s.1 ≤ 2000) && decide (s.2 ≤ 200)
def validT (con : List UInt8 → Bool) (t : Tr) : Bool := typeB con t && fitsB (ofT t)
mutual
def ordT : Tr → List (List UInt8) → List (List UInt8)
 | .mk d n us, acc => ordTs us (if d = kiVar ∧ n ∉ acc then acc ++ [n] else acc)
def ordTs : List Tr → List (List UInt8) → List (List UInt8)
 | [], acc => acc
 | t :: ts, acc => ordTs ts (ordT t acc)
end
mutual
def sameB : Tr → Tr → Bool
 | .mk d n us, .mk d' n' us' => decide (d = d') && (decide (n = n') && (decide (us.length = us'.length) && sameBs us us'))
def sameBs : List Tr → List Tr → Bool
 | t :: ts, u :: us => sameB t u && sameBs ts us
 | _, _ => true
end
mutual
theorem sameB_refl : ∀ t : Tr, sameB t t = true
 | .mk d n us => by simp [sameB, sameBs_refl us]
theorem sameBs_refl : ∀ l : List Tr, sameBs l l = true
 | [] => rfl
 | t :: ts => by simp [sameBs, sameB_refl t, sameBs_refl ts]
end
mutual
theorem sameB_eq : ∀ (t u : Tr), sameB t u = true → t = u
 | .mk d n us, .mk d' n' us', h => by
  simp only [sameB, Bool.and_eq_true, decide_eq_true_eq] at h
  obtain ⟨rfl, rfl, h1, h2⟩ := h
  rw [sameBs_eq us us' h1 h2]
theorem sameBs_eq : ∀ (l l' : List Tr), l.length = l'.length → sameBs l l' = true → l = l'
 | [], [], _, _ => rfl
 | t :: ts, u :: us, h1, h2 => by
  simp only [sameBs, Bool.and_eq_true] at h2
  rw [sameB_eq t u h2.1, sameBs_eq ts us (by simpa using h1) h2.2]
end
abbrev Sub' := List (List UInt8 × Tr)
def Sub'.look (s : Sub') (n : List UInt8) : Option Tr := match s with
 | [] => none
 | e :: r => if n = e.1 then some e.2 else Sub'.look r n
mutual
def matT : Tr → Tr → Sub' → Bool × Sub'
 | .mk d n us, .mk d' n' us', s =>
  if d = kiVar then
   match s.look n with
   | none => (true, s ++ [(n, .mk d' n' us')])
   | some t => (sameB t (.mk d' n' us'), s)
  else if d = d' ∧ n = n' ∧ us.length = us'.length then matTs us us' s else (false, s)
def matTs : List Tr → List Tr → Sub' → Bool × Sub'
 | t :: ts, u :: us, s => if (matT t u s).1 = true then matTs ts us (matT t u s).2 else (false, (matT t u s).2)
 | _, _, s => (true, s)
end
end Go.D
namespace Go.D
open Go Go.Vm
structure AN where
 d : List UInt8
 n : List UInt8
 ks : List Nat
abbrev Gr := Nat → Option AN
abbrev Lk := Nat → Option Nat
def setL (L : Lk) (p q : Nat) : Lk := fun x => if x = p then some q else L x
inductive EndR (L : Lk) : Nat → Nat → Prop
 | here {p : Nat} : L p = none → EndR L p p
 | on {p q r : Nat} : L p = some q → EndR L q r → EndR L p r
theorem EndR.end {L : Lk} {p r : Nat} (h : EndR L p r) : L r = none := by
 induction h with
 | here h => exact h
 | on _ _ ih => exact ih
theorem EndR.fn {L : Lk} {p r r' : Nat} (h : EndR L p r) (h' : EndR L p r') : r = r' := by
 induction h with
 | here h =>
  cases h' with
  | here => rfl
  | on h2 _ => rw [h] at h2; cases h2
 | on h1 _ ih =>
  cases h' with
  | here h2 => rw [h1] at h2; cases h2
  | on h2 h3 => rw [h1] at h2; cases h2; exact ih h3
def Ended (L : Lk) : Prop := ∀ p, ∃ r, EndR L p r
theorem endR_set {L : Lk} {a b : Nat} (ha : L a = none) (hb : L b = none) (hne : a ≠ b) {p r : Nat} (h : EndR L p r) : EndR (setL L a b) p (if r = a then b else r) := by
 induction h with
 | @here p h =>
  by_cases e : p = a
  ·subst e
   rw [if_pos rfl]
   exact .on (by simp [setL]) (.here (by simp [setL, hb, Ne.symm hne]))
  ·rw [if_neg e]; exact .here (by simp [setL, e, h])
 | @on p q r h1 _ ih =>
  have e : p ≠ a := fun e => by rw [e, ha] at h1; cases h1
  exact .on (by simp [setL, e, h1]) ih
theorem ended_set {L : Lk} {a b : Nat} (h : Ended L) (ha : L a = none) (hb : L b = none) (hne : a ≠ b) : Ended (setL L a b) := fun p => by
 obtain ⟨r, hr⟩ := h p
 exact ⟨_, endR_set ha hb hne hr⟩
def EqL (L : Lk) (p q : Nat) : Prop := ∃ r, EndR L p r ∧ EndR L q r
theorem EqL.symm {L : Lk} {p q : Nat} (h : EqL L p q) : EqL L q p := h.imp fun _ h => ⟨h.2, h.1⟩
theorem EqL.trans {L : Lk} {p q r : Nat} (h : EqL L p q) (h2 : EqL L q r) : EqL L p r := by
 obtain ⟨x, a1, a2⟩ := h
 obtain ⟨y, b1, b2⟩ := h2
 have := a2.fn b1
 subst this
 exact ⟨x, a1, b2⟩
theorem eqL_set {L : Lk} {a b : Nat} (ha : L a = none) (hb : L b = none) (hne : a ≠ b) {p q : Nat} (h : EqL L p q) : EqL (setL L a b) p q := by
 obtain ⟨r, h1, h2⟩ := h
 exact ⟨_, endR_set ha hb hne h1, endR_set ha hb hne h2⟩
theorem eqL_link {L : Lk} {a b p q : Nat} (ha : L a = none) (hb : L b = none) (hne : a ≠ b) (hp : EndR L p a) (hq : EndR L q b) : EqL (setL L a b) p q := by
 refine ⟨b, ?_, ?_⟩
 ·have := endR_set ha hb hne hp; rwa [if_pos rfl] at this
 ·have := endR_set ha hb hne hq; rwa [if_neg (Ne.symm hne)] at this
def InvL (G : Gr) (L : Lk) : Prop := ∀ p q, L p = some q → ∃ x y, G p = some x ∧ G q = some y ∧ (x.d = kiVar ∨ (x.d = y.d ∧ x.n = y.n ∧ x.ks.length = y.ks.length ∧ ∀ i, i < x.ks.length → EqL L (x.ks.getD i 0) (y.ks.getD i 0)))
def Later (L L' : Lk) : Prop := (∀ p q, L p = some q → L' p = some q) ∧ (∀ p q, EqL L p q → EqL L' p q) ∧ (Ended L → Ended L')
theorem Later.refl (L : Lk) : Later L L := ⟨fun _ _ h => h, fun _ _ h => h, id⟩
theorem Later.trans {L L1 L2 : Lk} (h : Later L L1) (h2 : Later L1 L2) : Later L L2 := ⟨fun p q a => h2.1 p q (h.1 p q a), fun p q a => h2.2.1 p q (h.2.1 p q a), fun a => h2.2.2 (h.2.2 a)⟩
theorem later_set {L : Lk} {a b : Nat} (ha : L a = none) (hb : L b = none) (hne : a ≠ b) : Later L (setL L a b) :=
 ⟨fun p q h => by
  have e : p ≠ a := fun e => by rw [e, ha] at h; cases h
  simp [setL, e, h], fun p q h => eqL_set ha hb hne h, fun h => ended_set h ha hb hne⟩
def InvP (G : Gr) (L : Lk) (P : Nat → Prop) : Prop := ∀ p q, L p = some q → P p ∨ ∃ x y, G p = some x ∧ G q = some y ∧ (x.d = kiVar ∨ (x.d = y.d ∧ x.n = y.n ∧ x.ks.length = y.ks.length ∧ ∀ i, i < x.ks.length → EqL L (x.ks.getD i 0) (y.ks.getD i 0)))
def Model (G : Gr) (M : Nat → Tr) : Prop := ∀ p x, G p = some x → ¬ x.d = kiVar → M p = .mk x.d x.n (x.ks.map M)
def Resp (M : Nat → Tr) (L : Lk) : Prop := ∀ p q, L p = some q → M p = M q
theorem resp_end {M : Nat → Tr} {L : Lk} (h : Resp M L) {p r : Nat} (he : EndR L p r) : M p = M r := by
 induction he with
 | here _ => rfl
 | on h1 _ ih => rw [h _ _ h1, ih]
theorem resp_set {M : Nat → Tr} {L : Lk} (h : Resp M L) {a b : Nat} (he : M a = M b) : Resp M (setL L a b) := fun p q hp => by
 unfold setL at hp
 split at hp
 ·rename_i e; cases hp; rw [e]; exact he
 ·exact h p q hp
def cntU (P : List Nat) (L : Lk) : Nat := P.countP fun p => (L p).isNone
theorem cntU_le {P : List Nat} {L L' : Lk} (h : ∀ p q, L p = some q → L' p = some q) : cntU P L' ≤ cntU P L :=
 List.countP_mono_left fun p _ hp => by
  cases hl : L p with
  | none => rfl
  | some q => rw [h p q hl] at hp; cases hp
theorem cntU_set {P : List Nat} {L : Lk} {a b : Nat} (ha : L a = none) (hm : a ∈ P) : cntU P (setL L a b) < cntU P L := by
 obtain ⟨l1, l2, rfl⟩ := List.append_of_mem hm
 have h : ∀ p q, L p = some q → setL L a b p = some q := fun p q h => by
  have e : p ≠ a := fun e => by rw [e, ha] at h; cases h
  simp [setL, e, h]
 have h1 := cntU_le (P := l1) h
 have h2 := cntU_le (P := l2) h
 unfold cntU at *
 simp only [List.countP_append, List.countP_cons]
 have e1 : (setL L a b a).isNone = false := by simp [setL]
 have e2 : (L a).isNone = true := by rw [ha]; rfl
 simp only [e1, e2, Bool.false_eq_true, if_false, if_true]
 omega
def ClosedG (G : Gr) : Prop := ∀ p x, G p = some x → ∀ q ∈ x.ks, ∃ y, G q = some y
def LinkOK (G : Gr) (L : Lk) : Prop := ∀ p q, L p = some q → (∃ x, G p = some x) ∧ ∃ y, G q = some y
theorem end_in {G : Gr} {L : Lk} (h : LinkOK G L) {p r : Nat} (he : EndR L p r) (hp : ∃ x, G p = some x) : ∃ x, G r = some x := by
 induction he with
 | here _ => exact hp
 | on h1 _ ih => exact ih (h _ _ h1).2
theorem link_set {G : Gr} {L : Lk} (h : LinkOK G L) {a b : Nat} (ha : ∃ x, G a = some x) (hb : ∃ x, G b = some x) : LinkOK G (setL L a b) := fun p q hp => by
 unfold setL at hp
 split at hp
 ·rename_i e; cases hp; rw [e]; exact ⟨ha, hb⟩
 ·exact h p q hp
theorem invP_later {G : Gr} {L L' : Lk} {P : Nat → Prop} (h : InvP G L P) (hl : Later L L') (hn : ∀ p q, L' p = some q → L p = none → P p ∨ ∃ x y, G p = some x ∧ G q = some y ∧ (x.d = kiVar ∨ (x.d = y.d ∧ x.n = y.n ∧ x.ks.length = y.ks.length ∧ ∀ i, i < x.ks.length → EqL L' (x.ks.getD i 0) (y.ks.getD i 0)))) : InvP G L' P := fun p q hp => by
 cases h0 : L p with
 | none => exact hn p q hp h0
 | some q' =>
  have := hl.1 p q' h0
  rw [this] at hp
  obtain rfl : q' = q := Option.some.inj hp
  rcases h p q' h0 with h1 | ⟨x, y, h1, h2, h3⟩
  ·exact .inl h1
  ·refine .inr ⟨x, y, h1, h2, h3.imp id fun ⟨a1, a2, a3, a4⟩ => ⟨a1, a2, a3, fun i hi => hl.2.1 _ _ (a4 i hi)⟩⟩
theorem invP_var {G : Gr} {L : Lk} {a b : Nat} {x y : AN} {P : Nat → Prop} (h : InvP G L P) (ha : L a = none) (hb : L b = none) (hne : a ≠ b) (hx : G a = some x) (hy : G b = some y) (hv : x.d = kiVar) : InvP G (setL L a b) P :=
 invP_later h (later_set ha hb hne) fun p q hp hn => by
  unfold setL at hp
  split at hp
  ·rename_i e; cases hp; subst e; exact .inr ⟨x, y, hx, hy, .inl hv⟩
  ·rw [hn] at hp; cases hp
theorem invP_node {G : Gr} {L : Lk} {a b : Nat} {P : Nat → Prop} (h : InvP G L P) (ha : L a = none) (hb : L b = none) (hne : a ≠ b) : InvP G (setL L a b) fun p => P p ∨ p = a := fun p q hp => by
 have h1 : InvP G L fun p => P p ∨ p = a := fun p q hp => (h p q hp).imp .inl id
 exact invP_later h1 (later_set ha hb hne) (fun p q hp hn => by
  unfold setL at hp
  split at hp
  ·rename_i e; exact .inl (.inr e)
  ·rw [hn] at hp; cases hp) p q hp
theorem invP_done {G : Gr} {L : Lk} {a b : Nat} {x y : AN} {P : Nat → Prop} (h : InvP G L fun p => P p ∨ p = a) (hl : L a = some b) (hx : G a = some x) (hy : G b = some y) (h1 : x.d = y.d) (h2 : x.n = y.n) (h3 : x.ks.length = y.ks.length)
  (h4 : ∀ i, i < x.ks.length → EqL L (x.ks.getD i 0) (y.ks.getD i 0)) : InvP G L P := fun p q hp => by
 rcases h p q hp with (h5 | h5) | h5
 ·exact .inl h5
 ·subst h5
  rw [hl] at hp; cases hp
  exact .inr ⟨x, y, hx, hy, .inr ⟨h1, h2, h3, h4⟩⟩
 ·exact .inr h5
end Go.D
namespace Go.D
open Go Go.Vm
def tabL : List (Nat × TI) := [
 (1, { ok := true, desc := (TypeDesc.func #[] #[] false), size := 1, bytes := 8, isAgg := false, zero := (.v .nilFunc), flds := [], elem := 0 }),
 (2, { ok := true, desc := (TypeDesc.int IntKind.i64), size := 1, bytes := 8, isAgg := false, zero := (.v (.int IntKind.i64 0)), flds := [], elem := 0 }),
 (3, { ok := true, desc := (TypeDesc.int IntKind.i64), size := 1, bytes := 8, isAgg := false, zero := (.v (.int IntKind.i64 0)), flds := [], elem := 0 }),
 (4, { ok := true, desc := TypeDesc.bool, size := 1, bytes := 1, isAgg := false, zero := (.v (.bool false)), flds := [], elem := 0 }),
 (5, { ok := true, desc := (TypeDesc.int IntKind.u8), size := 1, bytes := 1, isAgg := false, zero := (.v (.int IntKind.u8 0)), flds := [], elem := 0 }),
 (6, { ok := true, desc := (TypeDesc.int IntKind.u8), size := 1, bytes := 1, isAgg := false, zero := (.v (.int IntKind.u8 0)), flds := [], elem := 0 }),
 (7, { ok := true, desc := (TypeDesc.struct #[{ name := "x", type := 2, offset := 0, embedded := false, tag := "", pkgPath := "runtime", byteOffset := 0 }, { name := "y", type := 3, offset := 1, embedded := false, tag := "", pkgPath := "runtime", byteOffset := 8 }, { name := "signed", type := 4, offset := 2, embedded := false, tag := "", pkgPath := "runtime", byteOffset := 16 }, { name := "code", type := 6, offset := 3, embedded := false, tag := "", pkgPath := "runtime", byteOffset := 17 }]), size := 4, bytes := 24, isAgg := true, zero := (.agg [(.v (.int IntKind.i64 0)), (.v (.int IntKind.i64 0)), (.v (.bool false)), (.v (.int IntKind.u8 0))]), flds := [(0, 1, false), (1, 1, false), (2, 1, false), (3, 1, false)], elem := 0 }),
 (9, { ok := true, desc := TypeDesc.string, size := 1, bytes := 16, isAgg := false, zero := (.str []), flds := [], elem := 0 }),
 (22, { ok := true, desc := (TypeDesc.slice 24), size := 1, bytes := 24, isAgg := false, zero := (.v (.slice none 0 0)), flds := [], elem := 24 }),
 (24, { ok := true, desc := (TypeDesc.struct #[{ name := "Do", type := 9, offset := 0, embedded := false, tag := "", pkgPath := "", byteOffset := 0 }, { name := "Name", type := 9, offset := 1, embedded := false, tag := "", pkgPath := "", byteOffset := 16 }, { name := "Args", type := 22, offset := 2, embedded := false, tag := "", pkgPath := "", byteOffset := 32 }]), size := 3, bytes := 56, isAgg := true, zero := (.agg [(.str []), (.str []), (.v (.slice none 0 0))]), flds := [(0, 1, false), (1, 1, false), (2, 1, false)], elem := 0 }),
 (25, { ok := true, desc := (TypeDesc.slice 33), size := 1, bytes := 24, isAgg := false, zero := (.v (.slice none 0 0)), flds := [], elem := 33 }),
 (26, { ok := true, desc := (TypeDesc.int IntKind.i64), size := 1, bytes := 8, isAgg := false, zero := (.v (.int IntKind.i64 0)), flds := [], elem := 0 }),
 (29, { ok := true, desc := (TypeDesc.slice 9), size := 1, bytes := 24, isAgg := false, zero := (.v (.slice none 0 0)), flds := [], elem := 9 }),
 (33, { ok := true, desc := (TypeDesc.struct #[{ name := "Name", type := 9, offset := 0, embedded := false, tag := "", pkgPath := "", byteOffset := 0 }, { name := "Type", type := 24, offset := 1, embedded := false, tag := "", pkgPath := "", byteOffset := 16 }]), size := 4, bytes := 72, isAgg := true, zero := (.agg [(.str []), (.str []), (.str []), (.v (.slice none 0 0))]), flds := [(0, 1, false), (1, 3, true)], elem := 0 }),
 (35, { ok := true, desc := (TypeDesc.func #[24] #[4] false), size := 1, bytes := 8, isAgg := false, zero := (.v .nilFunc), flds := [], elem := 0 }),
 (38, { ok := true, desc := (TypeDesc.func #[24, 24] #[4] false), size := 1, bytes := 8, isAgg := false, zero := (.v .nilFunc), flds := [], elem := 0 }),
 (44, { ok := true, desc := (TypeDesc.slice 60), size := 1, bytes := 24, isAgg := false, zero := (.v (.slice none 0 0)), flds := [], elem := 60 }),
 (57, { ok := true, desc := (TypeDesc.map 9 24), size := 1, bytes := 8, isAgg := false, zero := (.v (.map none)), flds := [], elem := 0 }),
 (60, { ok := true, desc := (TypeDesc.array 2 24), size := 6, bytes := 112, isAgg := true, zero := (.agg [(.str []), (.str []), (.v (.slice none 0 0)), (.str []), (.str []), (.v (.slice none 0 0))]), flds := [], elem := 0 }),
 (64, { ok := true, desc := (TypeDesc.slice 5), size := 1, bytes := 24, isAgg := false, zero := (.v (.slice none 0 0)), flds := [], elem := 5 }),
 (68, { ok := true, desc := (TypeDesc.pointer 72), size := 1, bytes := 8, isAgg := false, zero := (.v (.pointer none)), flds := [], elem := 0 }),
 (69, { ok := true, desc := (TypeDesc.map 9 74), size := 1, bytes := 8, isAgg := false, zero := (.v (.map none)), flds := [], elem := 0 }),
 (70, { ok := true, desc := (TypeDesc.map 74 89), size := 1, bytes := 8, isAgg := false, zero := (.v (.map none)), flds := [], elem := 0 }),
 (72, { ok := true, desc := (TypeDesc.struct #[{ name := "vars", type := 69, offset := 0, embedded := false, tag := "", pkgPath := "virgate/types", byteOffset := 0 }, { name := "sizes", type := 70, offset := 1, embedded := false, tag := "", pkgPath := "virgate/types", byteOffset := 8 }]), size := 2, bytes := 16, isAgg := true, zero := (.agg [(.v (.map none)), (.v (.map none))]), flds := [(0, 1, false), (1, 1, false)], elem := 0 }),
 (74, { ok := true, desc := (TypeDesc.pointer 107), size := 1, bytes := 8, isAgg := false, zero := (.v (.pointer none)), flds := [], elem := 0 }),
 (85, { ok := true, desc := (TypeDesc.func #[24] #[] false), size := 1, bytes := 8, isAgg := false, zero := (.v .nilFunc), flds := [], elem := 0 }),
 (89, { ok := true, desc := (TypeDesc.struct #[{ name := "Nodes", type := 3, offset := 0, embedded := false, tag := "", pkgPath := "", byteOffset := 0 }, { name := "Deep", type := 3, offset := 1, embedded := false, tag := "", pkgPath := "", byteOffset := 8 }]), size := 2, bytes := 16, isAgg := true, zero := (.agg [(.v (.int IntKind.i64 0)), (.v (.int IntKind.i64 0))]), flds := [(0, 1, false), (1, 1, false)], elem := 0 }),
 (97, { ok := true, desc := (TypeDesc.slice 3), size := 1, bytes := 24, isAgg := false, zero := (.v (.slice none 0 0)), flds := [], elem := 3 }),
 (99, { ok := true, desc := (TypeDesc.func #[3] #[4] false), size := 1, bytes := 8, isAgg := false, zero := (.v .nilFunc), flds := [], elem := 0 }),
 (101, { ok := true, desc := (TypeDesc.map 9 89), size := 1, bytes := 8, isAgg := false, zero := (.v (.map none)), flds := [], elem := 0 }),
 (105, { ok := true, desc := (TypeDesc.slice 74), size := 1, bytes := 24, isAgg := false, zero := (.v (.slice none 0 0)), flds := [], elem := 74 }),
 (107, { ok := true, desc := (TypeDesc.struct #[{ name := "do", type := 9, offset := 0, embedded := false, tag := "", pkgPath := "virgate/types", byteOffset := 0 }, { name := "name", type := 9, offset := 1, embedded := false, tag := "", pkgPath := "virgate/types", byteOffset := 16 }, { name := "args", type := 105, offset := 2, embedded := false, tag := "", pkgPath := "virgate/types", byteOffset := 32 }, { name := "link", type := 74, offset := 3, embedded := false, tag := "", pkgPath := "virgate/types", byteOffset := 56 }]), size := 4, bytes := 64, isAgg := true, zero := (.agg [(.str []), (.str []), (.v (.slice none 0 0)), (.v (.pointer none))]), flds := [(0, 1, false), (1, 1, false), (2, 1, false), (3, 1, false)], elem := 0 }),
 (109, { ok := true, desc := (TypeDesc.map 74 4), size := 1, bytes := 8, isAgg := false, zero := (.v (.map none)), flds := [], elem := 0 }),
 (130, { ok := true, desc := (TypeDesc.int IntKind.u64), size := 1, bytes := 8, isAgg := false, zero := (.v (.int IntKind.u64 0)), flds := [], elem := 0 }),
 (131, { ok := true, desc := (TypeDesc.slice 89), size := 1, bytes := 24, isAgg := false, zero := (.v (.slice none 0 0)), flds := [], elem := 89 }),
 (140, { ok := true, desc := (TypeDesc.struct #[{ name := "Kind", type := 9, offset := 0, embedded := false, tag := "", pkgPath := "", byteOffset := 0 }, { name := "Text", type := 9, offset := 1, embedded := false, tag := "", pkgPath := "", byteOffset := 16 }, { name := "At", type := 3, offset := 2, embedded := false, tag := "", pkgPath := "", byteOffset := 32 }]), size := 3, bytes := 40, isAgg := true, zero := (.agg [(.str []), (.str []), (.v (.int IntKind.i64 0))]), flds := [(0, 1, false), (1, 1, false), (2, 1, false)], elem := 0 }),
 (144, { ok := true, desc := (TypeDesc.func #[74] #[4] false), size := 1, bytes := 8, isAgg := false, zero := (.v .nilFunc), flds := [], elem := 0 }),
 (172, { ok := true, desc := (TypeDesc.interface #[("Error", 243)]), size := 1, bytes := 16, isAgg := false, zero := (.v .nilIface), flds := [], elem := 0 }),
 (175, { ok := true, desc := (TypeDesc.array 256 5), size := 256, bytes := 256, isAgg := true, zero := (.agg (List.replicate 256 (.v (.int IntKind.u8 0)))), flds := [], elem := 0 }),
 (177, { ok := true, desc := (TypeDesc.func #[21] #[4] false), size := 1, bytes := 8, isAgg := false, zero := (.v .nilFunc), flds := [], elem := 0 })]
def tab (t : Nat) : TI := tabOf tabL t
theorem tab_1 : tab 1 = { ok := true, desc := (TypeDesc.func #[] #[] false), size := 1, bytes := 8, isAgg := false, zero := (.v .nilFunc), flds := [], elem := 0 } := by kernel_rfl
theorem tab_2 : tab 2 = { ok := true, desc := (TypeDesc.int IntKind.i64), size := 1, bytes := 8, isAgg := false, zero := (.v (.int IntKind.i64 0)), flds := [], elem := 0 } := by kernel_rfl
theorem tab_3 : tab 3 = { ok := true, desc := (TypeDesc.int IntKind.i64), size := 1, bytes := 8, isAgg := false, zero := (.v (.int IntKind.i64 0)), flds := [], elem := 0 } := by kernel_rfl
theorem tab_4 : tab 4 = { ok := true, desc := TypeDesc.bool, size := 1, bytes := 1, isAgg := false, zero := (.v (.bool false)), flds := [], elem := 0 } := by kernel_rfl
theorem tab_5 : tab 5 = { ok := true, desc := (TypeDesc.int IntKind.u8), size := 1, bytes := 1, isAgg := false, zero := (.v (.int IntKind.u8 0)), flds := [], elem := 0 } := by kernel_rfl
theorem tab_6 : tab 6 = { ok := true, desc := (TypeDesc.int IntKind.u8), size := 1, bytes := 1, isAgg := false, zero := (.v (.int IntKind.u8 0)), flds := [], elem := 0 } := by kernel_rfl
theorem tab_7 : tab 7 = { ok := true, desc := (TypeDesc.struct #[{ name := "x", type := 2, offset := 0, embedded := false, tag := "", pkgPath := "runtime", byteOffset := 0 }, { name := "y", type := 3, offset := 1, embedded := false, tag := "", pkgPath := "runtime", byteOffset := 8 }, { name := "signed", type := 4, offset := 2, embedded := false, tag := "", pkgPath := "runtime", byteOffset := 16 }, { name := "code", type := 6, offset := 3, embedded := false, tag := "", pkgPath := "runtime", byteOffset := 17 }]), size := 4, bytes := 24, isAgg := true, zero := (.agg [(.v (.int IntKind.i64 0)), (.v (.int IntKind.i64 0)), (.v (.bool false)), (.v (.int IntKind.u8 0))]), flds := [(0, 1, false), (1, 1, false), (2, 1, false), (3, 1, false)], elem := 0 } := by kernel_rfl
theorem tab_9 : tab 9 = { ok := true, desc := TypeDesc.string, size := 1, bytes := 16, isAgg := false, zero := (.str []), flds := [], elem := 0 } := by kernel_rfl
theorem tab_22 : tab 22 = { ok := true, desc := (TypeDesc.slice 24), size := 1, bytes := 24, isAgg := false, zero := (.v (.slice none 0 0)), flds := [], elem := 24 } := by kernel_rfl
theorem tab_24 : tab 24 = { ok := true, desc := (TypeDesc.struct #[{ name := "Do", type := 9, offset := 0, embedded := false, tag := "", pkgPath := "", byteOffset := 0 }, { name := "Name", type := 9, offset := 1, embedded := false, tag := "", pkgPath := "", byteOffset := 16 }, { name := "Args", type := 22, offset := 2, embedded := false, tag := "", pkgPath := "", byteOffset := 32 }]), size := 3, bytes := 56, isAgg := true, zero := (.agg [(.str []), (.str []), (.v (.slice none 0 0))]), flds := [(0, 1, false), (1, 1, false), (2, 1, false)], elem := 0 } := by kernel_rfl
theorem tab_25 : tab 25 = { ok := true, desc := (TypeDesc.slice 33), size := 1, bytes := 24, isAgg := false, zero := (.v (.slice none 0 0)), flds := [], elem := 33 } := by kernel_rfl
theorem tab_26 : tab 26 = { ok := true, desc := (TypeDesc.int IntKind.i64), size := 1, bytes := 8, isAgg := false, zero := (.v (.int IntKind.i64 0)), flds := [], elem := 0 } := by kernel_rfl
theorem tab_29 : tab 29 = { ok := true, desc := (TypeDesc.slice 9), size := 1, bytes := 24, isAgg := false, zero := (.v (.slice none 0 0)), flds := [], elem := 9 } := by kernel_rfl
theorem tab_33 : tab 33 = { ok := true, desc := (TypeDesc.struct #[{ name := "Name", type := 9, offset := 0, embedded := false, tag := "", pkgPath := "", byteOffset := 0 }, { name := "Type", type := 24, offset := 1, embedded := false, tag := "", pkgPath := "", byteOffset := 16 }]), size := 4, bytes := 72, isAgg := true, zero := (.agg [(.str []), (.str []), (.str []), (.v (.slice none 0 0))]), flds := [(0, 1, false), (1, 3, true)], elem := 0 } := by kernel_rfl
theorem tab_35 : tab 35 = { ok := true, desc := (TypeDesc.func #[24] #[4] false), size := 1, bytes := 8, isAgg := false, zero := (.v .nilFunc), flds := [], elem := 0 } := by kernel_rfl
theorem tab_38 : tab 38 = { ok := true, desc := (TypeDesc.func #[24, 24] #[4] false), size := 1, bytes := 8, isAgg := false, zero := (.v .nilFunc), flds := [], elem := 0 } := by kernel_rfl
theorem tab_44 : tab 44 = { ok := true, desc := (TypeDesc.slice 60), size := 1, bytes := 24, isAgg := false, zero := (.v (.slice none 0 0)), flds := [], elem := 60 } := by kernel_rfl
theorem tab_57 : tab 57 = { ok := true, desc := (TypeDesc.map 9 24), size := 1, bytes := 8, isAgg := false, zero := (.v (.map none)), flds := [], elem := 0 } := by kernel_rfl
theorem tab_60 : tab 60 = { ok := true, desc := (TypeDesc.array 2 24), size := 6, bytes := 112, isAgg := true, zero := (.agg [(.str []), (.str []), (.v (.slice none 0 0)), (.str []), (.str []), (.v (.slice none 0 0))]), flds := [], elem := 0 } := by kernel_rfl
theorem tab_64 : tab 64 = { ok := true, desc := (TypeDesc.slice 5), size := 1, bytes := 24, isAgg := false, zero := (.v (.slice none 0 0)), flds := [], elem := 5 } := by kernel_rfl
theorem tab_68 : tab 68 = { ok := true, desc := (TypeDesc.pointer 72), size := 1, bytes := 8, isAgg := false, zero := (.v (.pointer none)), flds := [], elem := 0 } := by kernel_rfl
theorem tab_69 : tab 69 = { ok := true, desc := (TypeDesc.map 9 74), size := 1, bytes := 8, isAgg := false, zero := (.v (.map none)), flds := [], elem := 0 } := by kernel_rfl
theorem tab_70 : tab 70 = { ok := true, desc := (TypeDesc.map 74 89), size := 1, bytes := 8, isAgg := false, zero := (.v (.map none)), flds := [], elem := 0 } := by kernel_rfl
theorem tab_72 : tab 72 = { ok := true, desc := (TypeDesc.struct #[{ name := "vars", type := 69, offset := 0, embedded := false, tag := "", pkgPath := "virgate/types", byteOffset := 0 }, { name := "sizes", type := 70, offset := 1, embedded := false, tag := "", pkgPath := "virgate/types", byteOffset := 8 }]), size := 2, bytes := 16, isAgg := true, zero := (.agg [(.v (.map none)), (.v (.map none))]), flds := [(0, 1, false), (1, 1, false)], elem := 0 } := by kernel_rfl
theorem tab_74 : tab 74 = { ok := true, desc := (TypeDesc.pointer 107), size := 1, bytes := 8, isAgg := false, zero := (.v (.pointer none)), flds := [], elem := 0 } := by kernel_rfl
theorem tab_85 : tab 85 = { ok := true, desc := (TypeDesc.func #[24] #[] false), size := 1, bytes := 8, isAgg := false, zero := (.v .nilFunc), flds := [], elem := 0 } := by kernel_rfl
theorem tab_89 : tab 89 = { ok := true, desc := (TypeDesc.struct #[{ name := "Nodes", type := 3, offset := 0, embedded := false, tag := "", pkgPath := "", byteOffset := 0 }, { name := "Deep", type := 3, offset := 1, embedded := false, tag := "", pkgPath := "", byteOffset := 8 }]), size := 2, bytes := 16, isAgg := true, zero := (.agg [(.v (.int IntKind.i64 0)), (.v (.int IntKind.i64 0))]), flds := [(0, 1, false), (1, 1, false)], elem := 0 } := by kernel_rfl
theorem tab_97 : tab 97 = { ok := true, desc := (TypeDesc.slice 3), size := 1, bytes := 24, isAgg := false, zero := (.v (.slice none 0 0)), flds := [], elem := 3 } := by kernel_rfl
theorem tab_99 : tab 99 = { ok := true, desc := (TypeDesc.func #[3] #[4] false), size := 1, bytes := 8, isAgg := false, zero := (.v .nilFunc), flds := [], elem := 0 } := by kernel_rfl
theorem tab_101 : tab 101 = { ok := true, desc := (TypeDesc.map 9 89), size := 1, bytes := 8, isAgg := false, zero := (.v (.map none)), flds := [], elem := 0 } := by kernel_rfl
theorem tab_105 : tab 105 = { ok := true, desc := (TypeDesc.slice 74), size := 1, bytes := 24, isAgg := false, zero := (.v (.slice none 0 0)), flds := [], elem := 74 } := by kernel_rfl
theorem tab_107 : tab 107 = { ok := true, desc := (TypeDesc.struct #[{ name := "do", type := 9, offset := 0, embedded := false, tag := "", pkgPath := "virgate/types", byteOffset := 0 }, { name := "name", type := 9, offset := 1, embedded := false, tag := "", pkgPath := "virgate/types", byteOffset := 16 }, { name := "args", type := 105, offset := 2, embedded := false, tag := "", pkgPath := "virgate/types", byteOffset := 32 }, { name := "link", type := 74, offset := 3, embedded := false, tag := "", pkgPath := "virgate/types", byteOffset := 56 }]), size := 4, bytes := 64, isAgg := true, zero := (.agg [(.str []), (.str []), (.v (.slice none 0 0)), (.v (.pointer none))]), flds := [(0, 1, false), (1, 1, false), (2, 1, false), (3, 1, false)], elem := 0 } := by kernel_rfl
theorem tab_109 : tab 109 = { ok := true, desc := (TypeDesc.map 74 4), size := 1, bytes := 8, isAgg := false, zero := (.v (.map none)), flds := [], elem := 0 } := by kernel_rfl
theorem tab_130 : tab 130 = { ok := true, desc := (TypeDesc.int IntKind.u64), size := 1, bytes := 8, isAgg := false, zero := (.v (.int IntKind.u64 0)), flds := [], elem := 0 } := by kernel_rfl
theorem tab_131 : tab 131 = { ok := true, desc := (TypeDesc.slice 89), size := 1, bytes := 24, isAgg := false, zero := (.v (.slice none 0 0)), flds := [], elem := 89 } := by kernel_rfl
theorem tab_140 : tab 140 = { ok := true, desc := (TypeDesc.struct #[{ name := "Kind", type := 9, offset := 0, embedded := false, tag := "", pkgPath := "", byteOffset := 0 }, { name := "Text", type := 9, offset := 1, embedded := false, tag := "", pkgPath := "", byteOffset := 16 }, { name := "At", type := 3, offset := 2, embedded := false, tag := "", pkgPath := "", byteOffset := 32 }]), size := 3, bytes := 40, isAgg := true, zero := (.agg [(.str []), (.str []), (.v (.int IntKind.i64 0))]), flds := [(0, 1, false), (1, 1, false), (2, 1, false)], elem := 0 } := by kernel_rfl
theorem tab_144 : tab 144 = { ok := true, desc := (TypeDesc.func #[74] #[4] false), size := 1, bytes := 8, isAgg := false, zero := (.v .nilFunc), flds := [], elem := 0 } := by kernel_rfl
theorem tab_172 : tab 172 = { ok := true, desc := (TypeDesc.interface #[("Error", 243)]), size := 1, bytes := 16, isAgg := false, zero := (.v .nilIface), flds := [], elem := 0 } := by kernel_rfl
theorem tab_175 : tab 175 = { ok := true, desc := (TypeDesc.array 256 5), size := 256, bytes := 256, isAgg := true, zero := (.agg (List.replicate 256 (.v (.int IntKind.u8 0)))), flds := [], elem := 0 } := by kernel_rfl
theorem tab_177 : tab 177 = { ok := true, desc := (TypeDesc.func #[21] #[4] false), size := 1, bytes := 8, isAgg := false, zero := (.v .nilFunc), flds := [], elem := 0 } := by kernel_rfl
theorem tab_ok : TabOK Go.Proofs.Tryz.prog tab := TabOK.of_list (l := tabL) ⟨TyOK.of' (inf := Go.Proofs.Tryz.t1) Go.Proofs.Tryz.underlying1 (by kernel_rfl) (by kernel_rfl),
 TyOK.of' (inf := Go.Proofs.Tryz.t2) Go.Proofs.Tryz.underlying2 (by kernel_rfl) (by kernel_rfl),
 TyOK.of' (inf := Go.Proofs.Tryz.t3) Go.Proofs.Tryz.underlying3 (by kernel_rfl) (by kernel_rfl),
 TyOK.of' (inf := Go.Proofs.Tryz.t4) Go.Proofs.Tryz.underlying4 (by kernel_rfl) (by kernel_rfl),
 TyOK.of' (inf := Go.Proofs.Tryz.t5) Go.Proofs.Tryz.underlying5 (by kernel_rfl) (by kernel_rfl),
 TyOK.of' (inf := Go.Proofs.Tryz.t6) Go.Proofs.Tryz.underlying6 (by kernel_rfl) (by kernel_rfl),
 TyOK.of' (inf := Go.Proofs.Tryz.t7) Go.Proofs.Tryz.underlying7 (by kernel_rfl) (by kernel_rfl),
 TyOK.of' (inf := Go.Proofs.Tryz.t9) Go.Proofs.Tryz.underlying9 (by kernel_rfl) (by kernel_rfl),
 TyOK.of' (inf := Go.Proofs.Tryz.t22) Go.Proofs.Tryz.underlying22 (by kernel_rfl) (by kernel_rfl),
 TyOK.of' (inf := Go.Proofs.Tryz.t24) Go.Proofs.Tryz.underlying24 (by kernel_rfl) (by kernel_rfl),
 TyOK.of' (inf := Go.Proofs.Tryz.t25) Go.Proofs.Tryz.underlying25 (by kernel_rfl) (by kernel_rfl),
 TyOK.of' (inf := Go.Proofs.Tryz.t26) Go.Proofs.Tryz.underlying26 (by kernel_rfl) (by kernel_rfl),
 TyOK.of' (inf := Go.Proofs.Tryz.t29) Go.Proofs.Tryz.underlying29 (by kernel_rfl) (by kernel_rfl),
 TyOK.of' (inf := Go.Proofs.Tryz.t33) Go.Proofs.Tryz.underlying33 (by kernel_rfl) (by kernel_rfl),
 TyOK.of' (inf := Go.Proofs.Tryz.t35) Go.Proofs.Tryz.underlying35 (by kernel_rfl) (by kernel_rfl),
 TyOK.of' (inf := Go.Proofs.Tryz.t38) Go.Proofs.Tryz.underlying38 (by kernel_rfl) (by kernel_rfl),
 TyOK.of' (inf := Go.Proofs.Tryz.t44) Go.Proofs.Tryz.underlying44 (by kernel_rfl) (by kernel_rfl),
 TyOK.of' (inf := Go.Proofs.Tryz.t57) Go.Proofs.Tryz.underlying57 (by kernel_rfl) (by kernel_rfl),
 TyOK.of' (inf := Go.Proofs.Tryz.t60) Go.Proofs.Tryz.underlying60 (by kernel_rfl) (by kernel_rfl),
 TyOK.of' (inf := Go.Proofs.Tryz.t64) Go.Proofs.Tryz.underlying64 (by kernel_rfl) (by kernel_rfl),
 TyOK.of' (inf := Go.Proofs.Tryz.t68) Go.Proofs.Tryz.underlying68 (by kernel_rfl) (by kernel_rfl),
 TyOK.of' (inf := Go.Proofs.Tryz.t69) Go.Proofs.Tryz.underlying69 (by kernel_rfl) (by kernel_rfl),
 TyOK.of' (inf := Go.Proofs.Tryz.t70) Go.Proofs.Tryz.underlying70 (by kernel_rfl) (by kernel_rfl),
 TyOK.of' (inf := Go.Proofs.Tryz.t72) Go.Proofs.Tryz.underlying72 (by kernel_rfl) (by kernel_rfl),
 TyOK.of' (inf := Go.Proofs.Tryz.t74) Go.Proofs.Tryz.underlying74 (by kernel_rfl) (by kernel_rfl),
 TyOK.of' (inf := Go.Proofs.Tryz.t85) Go.Proofs.Tryz.underlying85 (by kernel_rfl) (by kernel_rfl),
 TyOK.of' (inf := Go.Proofs.Tryz.t89) Go.Proofs.Tryz.underlying89 (by kernel_rfl) (by kernel_rfl),
 TyOK.of' (inf := Go.Proofs.Tryz.t97) Go.Proofs.Tryz.underlying97 (by kernel_rfl) (by kernel_rfl),
 TyOK.of' (inf := Go.Proofs.Tryz.t99) Go.Proofs.Tryz.underlying99 (by kernel_rfl) (by kernel_rfl),
 TyOK.of' (inf := Go.Proofs.Tryz.t101) Go.Proofs.Tryz.underlying101 (by kernel_rfl) (by kernel_rfl),
 TyOK.of' (inf := Go.Proofs.Tryz.t105) Go.Proofs.Tryz.underlying105 (by kernel_rfl) (by kernel_rfl),
 TyOK.of' (inf := Go.Proofs.Tryz.t107) Go.Proofs.Tryz.underlying107 (by kernel_rfl) (by kernel_rfl),
 TyOK.of' (inf := Go.Proofs.Tryz.t109) Go.Proofs.Tryz.underlying109 (by kernel_rfl) (by kernel_rfl),
 TyOK.of' (inf := Go.Proofs.Tryz.t130) Go.Proofs.Tryz.underlying130 (by kernel_rfl) (by kernel_rfl),
 TyOK.of' (inf := Go.Proofs.Tryz.t131) Go.Proofs.Tryz.underlying131 (by kernel_rfl) (by kernel_rfl),
 TyOK.of' (inf := Go.Proofs.Tryz.t140) Go.Proofs.Tryz.underlying140 (by kernel_rfl) (by kernel_rfl),
 TyOK.of' (inf := Go.Proofs.Tryz.t144) Go.Proofs.Tryz.underlying144 (by kernel_rfl) (by kernel_rfl),
 TyOK.of' (inf := Go.Proofs.Tryz.t172) Go.Proofs.Tryz.underlying172 (by kernel_rfl) (by kernel_rfl),
 TyOK.of' (inf := Go.Proofs.Tryz.t175) Go.Proofs.Tryz.underlying175 (by kernel_rfl) (by kernel_rfl),
 TyOK.of' (inf := Go.Proofs.Tryz.t177) Go.Proofs.Tryz.underlying177 (by kernel_rfl) (by kernel_rfl), trivial⟩
end Go.D
set_option linter.defProp false
namespace Go.D
open Go Go.Vm Go.Proofs
def st1 := And.intro (And.intro (And.intro (And.intro (And.intro (@tab_1) (@tab_2)) (And.intro (@tab_3) (And.intro (@tab_4) (@tab_5)))) (And.intro (And.intro (@tab_6) (@tab_7)) (And.intro (@tab_9) (And.intro (@tab_22) (@tab_24))))) (And.intro (And.intro (And.intro (@tab_25) (@tab_26)) (And.intro (@tab_29) (And.intro (@tab_33) (@tab_35)))) (And.intro (And.intro (@tab_38) (@tab_44)) (And.intro (@tab_57) (And.intro (@tab_60) (@tab_64)))))) (And.intro (And.intro (And.intro (And.intro (@tab_68) (@tab_69)) (And.intro (@tab_70) (And.intro (@tab_72) (@tab_74)))) (And.intro (And.intro (@tab_85) (@tab_89)) (And.intro (@tab_97) (And.intro (@tab_99) (@tab_101))))) (And.intro (And.intro (And.intro (@tab_105) (@tab_107)) (And.intro (@tab_109) (And.intro (@tab_130) (@tab_131)))) (And.intro (And.intro (@tab_140) (@tab_144)) (And.intro (@tab_172) (And.intro (@tab_175) (@tab_177))))))
def st2 := And.intro (And.intro (And.intro (And.intro (And.intro (And.intro (@Tryz.results0) (@Tryz.results1)) (And.intro (@Tryz.results2) (And.intro (@Tryz.results3) (@Tryz.results4)))) (And.intro (And.intro (@Tryz.results5) (@Tryz.results6)) (And.intro (@Tryz.results7) (And.intro (@Tryz.results8) (@Tryz.results9))))) (And.intro (And.intro (And.intro (@Tryz.results10) (@Tryz.results11)) (And.intro (@Tryz.results12) (And.intro (@Tryz.results13) (@Tryz.results14)))) (And.intro (And.intro (@Tryz.results15) (@Tryz.results16)) (And.intro (@Tryz.results17) (And.intro (@Tryz.results18) (@Tryz.results19)))))) (And.intro (And.intro (And.intro (And.intro (@Tryz.results20) (@Tryz.results21)) (And.intro (@Tryz.results22) (And.intro (@Tryz.results23) (@Tryz.results24)))) (And.intro (And.intro (@Tryz.results25) (@Tryz.results26)) (And.intro (@Tryz.results27) (And.intro (@Tryz.results28) (@Tryz.results29))))) (And.intro (And.intro (And.intro (@Tryz.results30) (@Tryz.results31)) (And.intro (@Tryz.results32) (And.intro (@Tryz.results33) (@Tryz.results34)))) (And.intro (And.intro (@Tryz.results35) (@Tryz.results36)) (And.intro (@Tryz.results37) (And.intro (@Tryz.results38) (@Tryz.results39))))))) (And.intro (And.intro (And.intro (And.intro (And.intro (@Tryz.results40) (@Tryz.results41)) (And.intro (@Tryz.results42) (And.intro (@Tryz.results43) (@Tryz.results44)))) (And.intro (And.intro (@Tryz.results45) (@Tryz.results46)) (And.intro (@Tryz.results47) (And.intro (@Tryz.results48) (@Tryz.results49))))) (And.intro (And.intro (And.intro (@Tryz.results50) (@Tryz.results51)) (And.intro (@Tryz.results52) (And.intro (@Tryz.results53) (@Tryz.results54)))) (And.intro (And.intro (@Tryz.results55) (@Tryz.results56)) (And.intro (@Tryz.results57) (And.intro (@Tryz.results58) (@Tryz.results59)))))) (And.intro (And.intro (And.intro (And.intro (@Tryz.results60) (@Tryz.results61)) (And.intro (@Tryz.results62) (And.intro (@Tryz.results63) (@Tryz.results64)))) (And.intro (And.intro (@Tryz.results65) (@Tryz.results66)) (And.intro (@Tryz.results67) (And.intro (@Tryz.results68) (@Tryz.results69))))) (And.intro (And.intro (And.intro (@Tryz.results70) (@Tryz.results71)) (And.intro (@Tryz.results72) (And.intro (@Tryz.results73) (@Tryz.results74)))) (And.intro (And.intro (@Tryz.results75) (@Tryz.results76)) (And.intro (@Tryz.results77) (And.intro (@Tryz.results78) (@Tryz.results79)))))))
def st3 := And.intro (And.intro (And.intro (And.intro (And.intro (And.intro (@Tryz.results80) (@Tryz.results81)) (And.intro (@Tryz.results82) (And.intro (@Tryz.results83) (@Tryz.results84)))) (And.intro (And.intro (@Tryz.results85) (@Tryz.results86)) (And.intro (@Tryz.results87) (And.intro (@Tryz.results88) (@Tryz.results89))))) (And.intro (And.intro (And.intro (@Tryz.results90) (@Tryz.results91)) (And.intro (@Tryz.results92) (And.intro (@Tryz.results93) (@Tryz.results94)))) (And.intro (And.intro (@Tryz.results95) (@Tryz.results96)) (And.intro (@Tryz.results97) (And.intro (@Tryz.results98) (@Tryz.results99)))))) (And.intro (And.intro (And.intro (And.intro (@Tryz.results100) (@Tryz.results101)) (And.intro (@Tryz.results102) (And.intro (@Tryz.results103) (@Tryz.results104)))) (And.intro (And.intro (@Tryz.results105) (@Tryz.results106)) (And.intro (@Tryz.results107) (And.intro (@Tryz.results108) (@Tryz.results109))))) (And.intro (And.intro (And.intro (@Tryz.results110) (@Tryz.results111)) (And.intro (@Tryz.results112) (And.intro (@Tryz.results113) (@Tryz.results114)))) (And.intro (And.intro (@Tryz.results115) (@Tryz.results116)) (And.intro (@Tryz.results117) (And.intro (@Tryz.results118) (@Tryz.results119))))))) (And.intro (And.intro (And.intro (And.intro (And.intro (@Tryz.results120) (@Tryz.results121)) (And.intro (@Tryz.results122) (And.intro (@Tryz.results123) (@Tryz.results124)))) (And.intro (And.intro (@Tryz.results125) (@Tryz.results126)) (And.intro (@Tryz.results127) (And.intro (@Tryz.results128) (@Tryz.results129))))) (And.intro (And.intro (And.intro (@Tryz.results130) (@Tryz.results131)) (And.intro (@Tryz.results132) (And.intro (@Tryz.results133) (@Tryz.results134)))) (And.intro (And.intro (@Tryz.results135) (@Tryz.results136)) (And.intro (@Tryz.results137) (And.intro (@Tryz.results138) (@Tryz.results139)))))) (And.intro (And.intro (And.intro (And.intro (@Tryz.results140) (@Tryz.results141)) (And.intro (@Tryz.results142) (And.intro (@Tryz.results143) (@Tryz.results144)))) (And.intro (And.intro (@Tryz.results145) (@Tryz.results146)) (And.intro (@Tryz.results147) (And.intro (@Tryz.results148) (@Tryz.results149))))) (And.intro (And.intro (And.intro (@Tryz.results150) (@Tryz.results151)) (And.intro (@Tryz.results152) (And.intro (@Tryz.results153) (@Tryz.results154)))) (And.intro (And.intro (@Tryz.results155) (@Tryz.results156)) (And.intro (@Tryz.results157) (And.intro (@Tryz.results158) (@Tryz.results159)))))))
def st4 := And.intro (And.intro (And.intro (And.intro (And.intro (And.intro (@Tryz.results160) (@Tryz.results161)) (And.intro (@Tryz.results162) (And.intro (@Tryz.results163) (@Tryz.results164)))) (And.intro (And.intro (@Tryz.results165) (@Tryz.results166)) (And.intro (@Tryz.results167) (And.intro (@Tryz.results168) (@Tryz.results169))))) (And.intro (And.intro (And.intro (@Tryz.results170) (@Tryz.results171)) (And.intro (@Tryz.results172) (And.intro (@Tryz.results173) (@Tryz.results174)))) (And.intro (And.intro (@Tryz.results175) (@Tryz.results176)) (And.intro (@Tryz.results177) (And.intro (@Tryz.results178) (@Tryz.results179)))))) (And.intro (And.intro (And.intro (And.intro (@Tryz.results180) (@Tryz.results181)) (And.intro (@Tryz.results182) (And.intro (@Tryz.results183) (@Tryz.results184)))) (And.intro (And.intro (@Tryz.results185) (@Tryz.results186)) (And.intro (@Tryz.results187) (And.intro (@Tryz.results188) (@Tryz.results189))))) (And.intro (And.intro (And.intro (@Tryz.results190) (@Tryz.results191)) (And.intro (@Tryz.results192) (And.intro (@Tryz.results193) (@Tryz.results194)))) (And.intro (And.intro (@Tryz.results195) (@Tryz.results196)) (And.intro (@Tryz.results197) (And.intro (@Tryz.results198) (@Tryz.results199))))))) (And.intro (And.intro (And.intro (And.intro (And.intro (@Tryz.results200) (@Tryz.results201)) (And.intro (@Tryz.results202) (And.intro (@Tryz.results203) (@Tryz.results204)))) (And.intro (And.intro (@Tryz.results205) (@Tryz.results206)) (And.intro (@Tryz.results207) (And.intro (@Tryz.results208) (@Tryz.results209))))) (And.intro (And.intro (And.intro (@Tryz.results210) (@Tryz.results211)) (And.intro (@Tryz.results212) (And.intro (@Tryz.results213) (@Tryz.results214)))) (And.intro (And.intro (@Tryz.results215) (@Tryz.results216)) (And.intro (@Tryz.results217) (And.intro (@Tryz.results218) (@Tryz.results219)))))) (And.intro (And.intro (And.intro (And.intro (@Tryz.results220) (@Tryz.results221)) (And.intro (@Tryz.results222) (And.intro (@Tryz.results223) (@Tryz.results224)))) (And.intro (And.intro (@Tryz.results225) (@Tryz.results226)) (And.intro (@Tryz.results227) (And.intro (@Tryz.results228) (@Tryz.results229))))) (And.intro (And.intro (And.intro (@Tryz.results230) (@Tryz.results231)) (And.intro (@Tryz.results232) (And.intro (@Tryz.results233) (@Tryz.results234)))) (And.intro (And.intro (@Tryz.results235) (@Tryz.results236)) (And.intro (@Tryz.results237) (And.intro (@Tryz.results238) (@Tryz.results239)))))))
def st5 := And.intro (And.intro (@Tryz.results240) (And.intro (@Tryz.results241) (@Tryz.results242))) (And.intro (And.intro (@Tryz.results243) (@Tryz.results244)) (And.intro (@Tryz.results245) (@Tryz.results246)))
def stA := And.intro st1 (And.intro st2 (And.intro st3 (And.intro st4 (st5))))
end Go.D
namespace Go.D
open Go Go.Vm Go.Proofs Go.RowKit
def gam (B : Nat) (w : World) : Prop :=
 6 ≤ B ∧ (∃ m, w.cell? ⟨4, 0, none⟩ = some (.int .i64 m)) ∧ (∃ te pe, w.cell? ⟨2, 0, none⟩ = some (.iface te pe)) ∧ (∃ te pe, w.cell? ⟨3, 0, none⟩ = some (.iface te pe)) ∧
  Lib.TabIs Tryz.prog w "strings.asciiSpace" .u8 Lib.asciiSpaceTab ∧ Lib.TabIs Tryz.prog w "internal/strconv.uint64pow10" .u64 Lib.pow10Tab
theorem gam_stable (B : Nat) (w w' : World) (h : Below B w w') (hg : gam B w) : gam B w' := by
 obtain ⟨h0, ⟨m, h1⟩, ⟨te, pe, h2⟩, ⟨te', pe', h3⟩, h4, h5⟩ := hg
 refine ⟨h0, ⟨m, (h.cell (p := ⟨4, 0, none⟩) (by simp only; omega)).trans h1⟩, ⟨te, pe, (h.cell (p := ⟨2, 0, none⟩) (by simp only; omega)).trans h2⟩, ⟨te', pe', (h.cell (p := ⟨3, 0, none⟩) (by simp only; omega)).trans h3⟩, ?_, ?_⟩
 ·exact var?_below h (g := 0) (by kernel_rfl) (by omega) h4
 ·exact var?_below h (g := 5) (by kernel_rfl) (by omega) h5
noncomputable def E : Env := ⟨Tryz.prog, gam, gam_stable⟩
theorem T0 : TabOK E.P tab := tab_ok
abbrev u8 (n : Int) : AV := .v (.int .u8 n)
abbrev i64 (n : Int) : AV := .v (.int .i64 n)
theorem IndexByte_ok (l : List UInt8) (c : Int) (σ : List Ent) : ACalls E 178 [.str l, u8 c] σ fun r τ => r = i64 (Lib.indexByte l c.toNat.toUInt8) ∧ τ = σ := by
 refine acalls_lib ⟨_, Tryz.func178, by kernel_rfl, by kernel_rfl⟩ fun s vs hI hΓ hr => ?_
 obtain ⟨v, w, rfl, hv, hw⟩ := repL2 hr
 rw [rep_str hv, rep_v' hw]
 refine (Tryz.strings_IndexByte ⟨⟨l⟩⟩ c s.w).mono fun e w' ⟨h1, h2⟩ => ⟨_, h1, by rw [h2]; exact Below.refl _ _, by rw [h2]; exact rep_mk_v _ _⟩
theorem HasPrefix_ok (l p : List UInt8) (σ : List Ent) : ACalls E 153 [.str l, .str p] σ fun r τ => r = boolV (Lib.hasPrefix l p) ∧ τ = σ := by
 refine acalls_lib ⟨_, Tryz.func153, by kernel_rfl, by kernel_rfl⟩ fun s vs hI hΓ hr => ?_
 obtain ⟨v, w, rfl, hv, hw⟩ := repL2 hr
 rw [rep_str hv, rep_str hw]
 refine (Tryz.strings_HasPrefix ⟨⟨l⟩⟩ ⟨⟨p⟩⟩ s.w).mono fun e w' ⟨h1, h2⟩ => ⟨_, h1, by rw [h2]; exact Below.refl _ _, by rw [h2]; exact rep_mk_v _ _⟩
theorem Fields_ok (l : List UInt8) (σ : List Ent) (hl : l.length < 4294967281) (ha : ∀ (j : Nat) b, l[j]? = some b → b.toNat < 128) :
  ACalls E 136 [.str l] σ fun r τ => r = .sl ((Lib.fields l).map .str) ∧ τ = σ := by
 refine acalls_lib ⟨_, Tryz.func136, by kernel_rfl, by kernel_rfl⟩ fun s vs hI hΓ hr => ?_
 obtain ⟨v, rfl, hv⟩ := repL1 hr
 rw [rep_str hv]
 refine (Tryz.strings_Fields_laid ⟨⟨l⟩⟩ s.w (by simpa [ByteArray.size] using hl) ha hΓ.2.2.2.2.1).mono fun e w' ⟨h1, h2⟩ => ⟨_, h1, by rw [h2]; exact below_alloc _ _, by rw [h2]; exact rep_mk_strs hI (Lib.fields l) 9⟩
theorem slicesContains_ok (ss : List (List UInt8)) (x : List UInt8) (σ : List Ent) (hl : ss.length ≤ 9223372036854775807) :
  ACalls E 90 [.sl (ss.map .str), .str x] σ fun r τ => r = boolV (decide (x ∈ ss)) ∧ τ = σ := by
 refine acalls_lib ⟨_, Tryz.func90, by kernel_rfl, by kernel_rfl⟩ fun s vs hI hΓ hr => ?_
 obtain ⟨v, w, rfl, hv, hw⟩ := repL2 hr
 obtain ⟨a, cap, rfl, hc, hh⟩ := strs_at hv
 rw [rep_str hw]
 rcases hh with rfl | ⟨blk, off, rfl, hcell⟩
 ·refine (Tryz.slices_Contains_string_empty a cap ⟨⟨x⟩⟩ s.w).mono fun e w' ⟨h1, h2⟩ => ⟨_, h1, by rw [h2]; exact Below.refl _ _, by rw [h2]; exact rep_mk_v _ _⟩
 ·refine (Tryz.slices_Contains_string blk off ss.length cap (ss.map fun l => ⟨⟨l⟩⟩) ⟨⟨x⟩⟩ s.w (by simp) hl (fun j hj => ?_)).mono fun e w' ⟨h1, h2⟩ => ⟨_, h1, by rw [h2]; exact Below.refl _ _, by
   have : Lib.containsS ((ss.map fun l => (⟨⟨l⟩⟩ : ByteArray)).take ss.length) ⟨⟨x⟩⟩ = decide (x ∈ ss) := by
    rw [List.take_of_length_le (by simp)]
    rw [Bool.eq_iff_iff, Lib.containsS_iff]
    simp
   rw [this]; exact rep_mk_v _ _⟩
  simp at hj
  rw [hcell j ss[j] (by simp [hj])]
  simp [hj]
end Go.D
set_option linter.unnecessarySimpa false
namespace Go.D
open Go Go.Vm Go.Proofs Go.RowKit
def AwakeOK : Prop := ∀ σ : List Ent, ACalls E 15 [] σ fun r τ => r = boolV true ∧ τ = σ
end Go.D
namespace Go.D
open Go Go.Vm Go.Proofs Go.RowKit
theorem toU8 (b : UInt8) : ((b.toNat : Int)).toNat.toUInt8 = b := by simp
theorem indexByte_mem : ∀ (l : List UInt8) (c : UInt8), 0 ≤ Lib.indexByte l c ↔ c ∈ l
 | [], c => by simp [Lib.indexByte]
 | b :: l, c => by
  have ih := indexByte_mem l c
  have hge := Lib.indexByte_ge l c
  unfold Lib.indexByte
  by_cases h : b = c
  ·simp [h]
  ·have h' : c ≠ b := fun e => h e.symm
   simp only [beq_iff_eq, h, if_false, List.mem_cons, h', false_or, ← ih]
   split <;> omega
theorem between_ok (a b c : Int) (σ : List Ent) : ACalls E 135 [u8 a, u8 b, u8 c] σ fun r τ => r = boolV (btw a b c) ∧ τ = σ := by
 refine xacalls T0 .drop [] Tryz.func135 rfl (by kernel_rfl) (by kernel_rfl) (by simp [Tryz.ntmps135]) ?_
 unfold btw
 by_cases h : a ≤ b <;> (simp only [h, (vmA), Nat.reduceEqDiff, reduceIte, Nat.reduceAdd, Int.reduceToNat, Int.reduceLE, Int.reduceLT, Int.reduceEq, Int.reduceNe, Int.reduceAdd, Int.reduceSub, Int.reduceNeg, Nat.reduceLT, Nat.reduceLeDiff, Nat.reduceBEq, undef, (stA), Nat.reduceMul]; try simp (disch := omega) only [(vmp)])
theorem isDigit_ok (b : Int) (σ : List Ent) : ACalls E 156 [u8 b] σ fun r τ => r = boolV (btw 48 b 57) ∧ τ = σ := by
 refine xacalls T0 .drop [] Tryz.func156 rfl (by kernel_rfl) (by kernel_rfl) (by simp [Tryz.ntmps156]) ?_
 (simp only [(vmA), Nat.reduceEqDiff, reduceIte, Nat.reduceAdd, Int.reduceToNat, Int.reduceLE, Int.reduceLT, Int.reduceEq, Int.reduceNe, Int.reduceAdd, Int.reduceSub, Int.reduceNeg, Nat.reduceLT, Nat.reduceLeDiff, Nat.reduceBEq, undef, (stA), Nat.reduceMul]; try simp (disch := omega) only [(vmp)])
 refine xWait.go (between_ok _ _ _ _) ?_
 (simp only [(vmA), Nat.reduceEqDiff, reduceIte, Nat.reduceAdd, Int.reduceToNat, Int.reduceLE, Int.reduceLT, Int.reduceEq, Int.reduceNe, Int.reduceAdd, Int.reduceSub, Int.reduceNeg, Nat.reduceLT, Nat.reduceLeDiff, Nat.reduceBEq, undef, (stA), Nat.reduceMul]; try simp (disch := omega) only [(vmp)])
theorem isPart_ok (b : Int) (σ : List Ent) : ACalls E 155 [u8 b] σ fun r τ => r = boolV (isPart b) ∧ τ = σ := by
 refine xacalls T0 .drop [] Tryz.func155 rfl (by kernel_rfl) (by kernel_rfl) (by simp [Tryz.ntmps155]) ?_
 unfold isPart
 (simp only [(vmA), Nat.reduceEqDiff, reduceIte, Nat.reduceAdd, Int.reduceToNat, Int.reduceLE, Int.reduceLT, Int.reduceEq, Int.reduceNe, Int.reduceAdd, Int.reduceSub, Int.reduceNeg, Nat.reduceLT, Nat.reduceLeDiff, Nat.reduceBEq, undef, (stA), Nat.reduceMul]; try simp (disch := omega) only [(vmp)])
 refine xWait.go (between_ok _ _ _ _) ?_
 cases h1 : btw 97 b 122 <;> (simp only [(vmA), Nat.reduceEqDiff, reduceIte, Nat.reduceAdd, Int.reduceToNat, Int.reduceLE, Int.reduceLT, Int.reduceEq, Int.reduceNe, Int.reduceAdd, Int.reduceSub, Int.reduceNeg, Nat.reduceLT, Nat.reduceLeDiff, Nat.reduceBEq, undef, (stA), Nat.reduceMul]; try simp (disch := omega) only [(vmp)])
 refine xWait.go (between_ok _ _ _ _) ?_
 cases h2 : btw 65 b 90 <;> (simp only [(vmA), Nat.reduceEqDiff, reduceIte, Nat.reduceAdd, Int.reduceToNat, Int.reduceLE, Int.reduceLT, Int.reduceEq, Int.reduceNe, Int.reduceAdd, Int.reduceSub, Int.reduceNeg, Nat.reduceLT, Nat.reduceLeDiff, Nat.reduceBEq, undef, (stA), Nat.reduceMul]; try simp (disch := omega) only [(vmp)])
 refine xWait.go (isDigit_ok _ _) ?_
 cases h3 : btw 48 b 57 <;> (simp only [(vmA), Nat.reduceEqDiff, reduceIte, Nat.reduceAdd, Int.reduceToNat, Int.reduceLE, Int.reduceLT, Int.reduceEq, Int.reduceNe, Int.reduceAdd, Int.reduceSub, Int.reduceNeg, Nat.reduceLT, Nat.reduceLeDiff, Nat.reduceBEq, undef, (stA), Nat.reduceMul]; try simp (disch := omega) only [(vmp)])
 by_cases h4 : b = 95 <;> (simp only [h4, (vmA), Nat.reduceEqDiff, reduceIte, Nat.reduceAdd, Int.reduceToNat, Int.reduceLE, Int.reduceLT, Int.reduceEq, Int.reduceNe, Int.reduceAdd, Int.reduceSub, Int.reduceNeg, Nat.reduceLT, Nat.reduceLeDiff, Nat.reduceBEq, undef, (stA), Nat.reduceMul]; try simp (disch := omega) only [(vmp)])
theorem word_ok (l : List UInt8) (hl : l.length ≤ 9223372036854775807) (σ : List Ent) : ACalls E 145 [.str l] σ fun r τ => r = i64 (word l) ∧ τ = σ := by
 refine xacalls T0 .drop [] Tryz.func145 rfl (by kernel_rfl) (by kernel_rfl) (by simp [Tryz.ntmps145]) ?_
 (simp only [(vmA), Nat.reduceEqDiff, reduceIte, Nat.reduceAdd, Int.reduceToNat, Int.reduceLE, Int.reduceLT, Int.reduceEq, Int.reduceNe, Int.reduceAdd, Int.reduceSub, Int.reduceNeg, Nat.reduceLT, Nat.reduceLeDiff, Nat.reduceBEq, undef, (stA), Nat.reduceMul]; try simp (disch := omega) only [(vmp)])
 refine xloop (α := Nat) T0 (fun i => [(0, .str l), (3, i64 i)]) (fun _ => σ) (fun _ => []) (fun i => i ≤ l.length ∧ ∀ x ∈ l.take i, pB isPart x = true) (fun i => l.length - i) (by kernel_rfl) ⟨0, by simp, by (simp only [(vmA), Nat.reduceEqDiff, reduceIte, Nat.reduceAdd, Int.reduceToNat, Int.reduceLE, Int.reduceLT, Int.reduceEq, Int.reduceNe, Int.reduceAdd, Int.reduceSub, Int.reduceNeg, Nat.reduceLT, Nat.reduceLeDiff, Nat.reduceBEq, undef, (stA), Nat.reduceMul, Int.natCast_zero]; try simp (disch := omega) only [(vmp)]), rfl, rfl⟩ ?_
 rintro i ⟨hi, hall⟩
 by_cases h : (i : Int) < l.length
 ·(simp only [h, (vmA), Nat.reduceEqDiff, reduceIte, Nat.reduceAdd, Int.reduceToNat, Int.reduceLE, Int.reduceLT, Int.reduceEq, Int.reduceNe, Int.reduceAdd, Int.reduceSub, Int.reduceNeg, Nat.reduceLT, Nat.reduceLeDiff, Nat.reduceBEq, undef, (stA), Nat.reduceMul]; try simp (disch := omega) only [(vmp)])
  refine xWait.go (isPart_ok _ _) ?_
  cases hp : isPart (l.getD i 0).toNat
  ·(simp only [(vmA), Nat.reduceEqDiff, reduceIte, Nat.reduceAdd, Int.reduceToNat, Int.reduceLE, Int.reduceLT, Int.reduceEq, Int.reduceNe, Int.reduceAdd, Int.reduceSub, Int.reduceNeg, Nat.reduceLT, Nat.reduceLeDiff, Nat.reduceBEq, undef, (stA), Nat.reduceMul]; try simp (disch := omega) only [(vmp)])
   exact congrArg (fun n : Nat => i64 n) (takeWhile_len hi hall fun _ => hp).symm
  ·(simp only [(vmA), Nat.reduceEqDiff, reduceIte, Nat.reduceAdd, Int.reduceToNat, Int.reduceLE, Int.reduceLT, Int.reduceEq, Int.reduceNe, Int.reduceAdd, Int.reduceSub, Int.reduceNeg, Nat.reduceLT, Nat.reduceLeDiff, Nat.reduceBEq, undef, (stA), Nat.reduceMul]; try simp (disch := omega) only [(vmp)])
   exact ⟨i + 1, ⟨by omega, take_succ_all (by omega) hall hp⟩, by omega, rfl⟩
 ·(simp only [h, (vmA), Nat.reduceEqDiff, reduceIte, Nat.reduceAdd, Int.reduceToNat, Int.reduceLE, Int.reduceLT, Int.reduceEq, Int.reduceNe, Int.reduceAdd, Int.reduceSub, Int.reduceNeg, Nat.reduceLT, Nat.reduceLeDiff, Nat.reduceBEq, undef, (stA), Nat.reduceMul]; try simp (disch := omega) only [(vmp)])
  exact congrArg (fun n : Nat => i64 n) (takeWhile_len hi hall fun hh => absurd (by omega) h).symm
end Go.D
namespace Go.D
open Go Go.Vm Go.Proofs Go.RowKit
end Go.D
namespace Go.D
open Go Go.Vm Go.Proofs Go.RowKit
theorem fields_keys : Lib.fields keysText = keys := by kernel_rfl
def spl : List UInt8 → List (List UInt8)
 | [] => [[]]
 | b :: l => if b = 32 then [] :: spl l else match spl l with
  | p :: r => (b :: p) :: r
  | [] => [[b]]
theorem index_some : ∀ {s : List UInt8}, (32 : UInt8) ∈ s → 0 ≤ Lib.index s [32]
 | [], h => by simp at h
 | b :: l, h => by
  unfold Lib.index
  by_cases h1 : b = 32
  ·simp [List.isPrefixOf, h1]
  ·have h2 : (32 : UInt8) ∈ l := by rcases List.mem_cons.1 h with e | e; exact absurd e.symm h1; exact e
   have := index_some h2
   have h3 : ¬ Lib.index l [32] = -1 := by omega
   simp [List.isPrefixOf, Ne.symm h1, h3]
   omega
theorem splitK_spl : ∀ s : List UInt8, Lib.splitK [32] 0 (s.count 32) s = spl s
 | [] => rfl
 | b :: l => by
  have ih := splitK_spl l
  by_cases h1 : b = 32
  ·subst h1
   rw [List.count_cons_self, Lib.splitK, spl, if_pos rfl, ← ih]
   have : Lib.index (32 :: l) [32] = 0 := by unfold Lib.index; simp [List.isPrefixOf]
   simp [this]
  ·rw [List.count_cons_of_ne h1, spl, if_neg h1]
   cases hc : l.count 32 with
   | zero => rw [hc] at ih; rw [← ih]; rfl
   | succ k =>
    have hm : (32 : UInt8) ∈ l := List.count_pos_iff.1 (by omega)
    have h0 := index_some hm
    have h3 : ¬ Lib.index l [32] = -1 := by omega
    have hi : Lib.index (b :: l) [32] = Lib.index l [32] + 1 := by
     conv => lhs; unfold Lib.index
     simp [List.isPrefixOf, Ne.symm h1, h3]
    have h4 : ¬ Lib.index l [32] + 1 = -1 := by omega
    have h5 : (Lib.index l [32] + 1).toNat = (Lib.index l [32]).toNat + 1 := by omega
    rw [hc, Lib.splitK] at ih
    rw [Lib.splitK, hi]
    simp only [beq_iff_eq, h3, h4, if_false, h5, List.length_cons, List.length_nil, Nat.add_zero] at ih ⊢
    rw [← ih]
    simp
theorem spl_keys : spl keysText = keys := by kernel_rfl
theorem split_keys : (Lib.splitB ⟨#[32]⟩ 0 (Lib.countB ⟨⟨keysText⟩⟩ ⟨#[32]⟩) ⟨⟨keysText⟩⟩).map (fun b => b.data.toList) = keys := by
 rw [Lib.splitB_data, ← spl_keys, ← splitK_spl]
 have : Lib.countB ⟨⟨keysText⟩⟩ ⟨#[32]⟩ = keysText.count 32 := Lib.count_one 32 keysText
 rw [this]
theorem ascii_keys : ∀ (j : Nat) b, keysText[j]? = some b → b.toNat < 128 := fun j b h => by
 have : keysText.all (fun b => decide (b.toNat < 128)) = true := by kernel_rfl
 simpa using List.all_eq_true.1 this b (List.mem_of_getElem? h)
theorem isKey_ok (l : List UInt8) (hl : l.length ≤ 9223372036854775807) (σ : List Ent) : ACalls E 146 [.str l] σ fun r τ => r = boolV (decide (l ∈ keys)) ∧ τ = σ := by
 refine xacalls T0 .drop [] Tryz.func146 rfl (by kernel_rfl) (by kernel_rfl) (by simp [Tryz.ntmps146]) ?_
 (simp only [(vmA), Nat.reduceEqDiff, reduceIte, Nat.reduceAdd, Int.reduceToNat, Int.reduceLE, Int.reduceLT, Int.reduceEq, Int.reduceNe, Int.reduceAdd, Int.reduceSub, Int.reduceNeg, Nat.reduceLT, Nat.reduceLeDiff, Nat.reduceBEq, undef, (stA), Nat.reduceMul]; try simp (disch := omega) only [(vmp)])
 refine xWait.go (Fields_ok keysText σ (by decide) ascii_keys) ?_
 rw [fields_keys]
 (simp only [(vmA), Nat.reduceEqDiff, reduceIte, Nat.reduceAdd, Int.reduceToNat, Int.reduceLE, Int.reduceLT, Int.reduceEq, Int.reduceNe, Int.reduceAdd, Int.reduceSub, Int.reduceNeg, Nat.reduceLT, Nat.reduceLeDiff, Nat.reduceBEq, undef, (stA), Nat.reduceMul]; try simp (disch := omega) only [(vmp)])
 refine xWait.go (slicesContains_ok keys l σ (by decide)) ?_
 (simp only [(vmA), Nat.reduceEqDiff, reduceIte, Nat.reduceAdd, Int.reduceToNat, Int.reduceLE, Int.reduceLT, Int.reduceEq, Int.reduceNe, Int.reduceAdd, Int.reduceSub, Int.reduceNeg, Nat.reduceLT, Nat.reduceLeDiff, Nat.reduceBEq, undef, (stA), Nat.reduceMul]; try simp (disch := omega) only [(vmp)])
theorem splitKeys_ok (σ : List Ent) : ACalls E 185 [.str keysText, .str [32]] σ fun r τ => r = .sl (keys.map .str) ∧ τ = σ := by
 refine acalls_lib ⟨_, Tryz.func185, by kernel_rfl, by kernel_rfl⟩ fun s vs hI hΓ hr => ?_
 obtain ⟨v, w, rfl, hv, hw⟩ := repL2 hr
 rw [rep_str hv, rep_str hw]
 obtain ⟨m, hm⟩ := hΓ.2.1
 refine (Tryz.strings_Split ⟨⟨keysText⟩⟩ ⟨⟨[32]⟩⟩ m s.w (by decide) hm (by decide)).mono fun e w' ⟨h1, h2⟩ => ⟨_, h1, by rw [h2]; exact below_alloc _ _, ?_⟩
 have hk := split_keys
 have hm2 : ∀ bs : List ByteArray, bs.map Value.string = (bs.map fun b => b.data.toList).map fun l => Value.string ⟨⟨l⟩⟩ := fun bs => by simp
 have hlen : Lib.countB ⟨⟨keysText⟩⟩ ⟨⟨[32]⟩⟩ + 1 = keys.length := by
  have : Lib.countB ⟨⟨keysText⟩⟩ ⟨#[32]⟩ = keysText.count 32 := Lib.count_one 32 keysText
  rw [this]; decide
 rw [h2, hm2, hlen]
 have := rep_mk_strs hI keys 9
 rw [← hk] at this ⊢
 exact this
theorem getD_str {ss : List (List UInt8)} {i : Nat} (h : i < ss.length) : (ss.map AV.str).getD i .un = .str (ss.getD i []) := by
 simp [List.getD, h]
theorem IsKey_ok (l : List UInt8) (hl : l.length ≤ 9223372036854775807) (σ : List Ent) : ACalls E 176 [.str l] σ fun r τ => r = boolV (decide (l ∈ keys)) ∧ τ = σ := by
 refine xacalls T0 .drop [] Tryz.func176 rfl (by kernel_rfl) (by kernel_rfl) (by simp [Tryz.ntmps176]) ?_
 (simp only [(vmA), Nat.reduceEqDiff, reduceIte, Nat.reduceAdd, Int.reduceToNat, Int.reduceLE, Int.reduceLT, Int.reduceEq, Int.reduceNe, Int.reduceAdd, Int.reduceSub, Int.reduceNeg, Nat.reduceLT, Nat.reduceLeDiff, Nat.reduceBEq, undef, (stA), Nat.reduceMul]; try simp (disch := omega) only [(vmp)])
 refine xWait.go (splitKeys_ok σ) ?_
 have hk : keys.length < 1000 := by decide
 (simp only [(vmA), Nat.reduceEqDiff, reduceIte, Nat.reduceAdd, Int.reduceToNat, Int.reduceLE, Int.reduceLT, Int.reduceEq, Int.reduceNe, Int.reduceAdd, Int.reduceSub, Int.reduceNeg, Nat.reduceLT, Nat.reduceLeDiff, Nat.reduceBEq, undef, (stA), Nat.reduceMul]; try simp (disch := omega) only [(vmp)])
 refine xloop (α := Nat) T0 (fun i => [(0, .str l), (3, .sl (keys.map .str)), (4, i64 i)]) (fun _ => σ) (fun _ => []) (fun i => i ≤ keys.length ∧ l ∉ keys.take i) (fun i => keys.length - i) (by kernel_rfl) ⟨0, by simp, by (simp only [(vmA), Nat.reduceEqDiff, reduceIte, Nat.reduceAdd, Int.reduceToNat, Int.reduceLE, Int.reduceLT, Int.reduceEq, Int.reduceNe, Int.reduceAdd, Int.reduceSub, Int.reduceNeg, Nat.reduceLT, Nat.reduceLeDiff, Nat.reduceBEq, undef, (stA), Nat.reduceMul, Int.natCast_zero]; try simp (disch := omega) only [(vmp)]), rfl, rfl⟩ ?_
 rintro i ⟨hi, hall⟩
 by_cases h : (i : Int) < keys.length
 ·have hlt : i < keys.length := by omega
  (simp only [h, (vmA), Nat.reduceEqDiff, reduceIte, Nat.reduceAdd, Int.reduceToNat, Int.reduceLE, Int.reduceLT, Int.reduceEq, Int.reduceNe, Int.reduceAdd, Int.reduceSub, Int.reduceNeg, Nat.reduceLT, Nat.reduceLeDiff, Nat.reduceBEq, undef, (stA), Nat.reduceMul, List.length_map, isEl, getD_str hlt]; try simp (disch := omega) only [(vmp)])
  by_cases h2 : keys.getD i [] = l
  ·(simp only [h2, (vmA), Nat.reduceEqDiff, reduceIte, Nat.reduceAdd, Int.reduceToNat, Int.reduceLE, Int.reduceLT, Int.reduceEq, Int.reduceNe, Int.reduceAdd, Int.reduceSub, Int.reduceNeg, Nat.reduceLT, Nat.reduceLeDiff, Nat.reduceBEq, undef, (stA), Nat.reduceMul]; try simp (disch := omega) only [(vmp)])
   have : l ∈ keys := by rw [← h2]; simp [hlt]
   simp [this]
  ·(simp only [h2, (vmA), Nat.reduceEqDiff, reduceIte, Nat.reduceAdd, Int.reduceToNat, Int.reduceLE, Int.reduceLT, Int.reduceEq, Int.reduceNe, Int.reduceAdd, Int.reduceSub, Int.reduceNeg, Nat.reduceLT, Nat.reduceLeDiff, Nat.reduceBEq, undef, (stA), Nat.reduceMul]; try simp (disch := omega) only [(vmp)])
   refine ⟨i + 1, ⟨by omega, fun hm => ?_⟩, by omega, rfl⟩
   rw [List.take_add_one, List.mem_append] at hm
   rcases hm with hm | hm
   ·exact hall hm
   ·simp [hlt] at hm; exact h2 (by simp [hlt, hm])
 ·(simp only [h, (vmA), Nat.reduceEqDiff, reduceIte, Nat.reduceAdd, Int.reduceToNat, Int.reduceLE, Int.reduceLT, Int.reduceEq, Int.reduceNe, Int.reduceAdd, Int.reduceSub, Int.reduceNeg, Nat.reduceLT, Nat.reduceLeDiff, Nat.reduceBEq, undef, (stA), Nat.reduceMul, List.length_map]; try simp (disch := omega) only [(vmp)])
  rw [List.take_of_length_le (by omega)] at hall
  simp [hall]
end Go.D
namespace Go.D
open Go Go.Vm Go.Proofs Go.RowKit
theorem long_ok (l : List UInt8) (hl : l.length ≤ 9223372036854775807) (σ : List Ent) : ACalls E 132 [.str l] σ fun r τ => r = .tup [i64 (long true l).1, .str (long true l).2] ∧ τ = σ := by
 refine xacalls T0 .drop [] Tryz.func132 rfl (by kernel_rfl) (by kernel_rfl) (by simp [Tryz.ntmps132]) ?_
 (simp only [(vmA), Nat.reduceEqDiff, reduceIte, Nat.reduceAdd, Int.reduceToNat, Int.reduceLE, Int.reduceLT, Int.reduceEq, Int.reduceNe, Int.reduceAdd, Int.reduceSub, Int.reduceNeg, Nat.reduceLT, Nat.reduceLeDiff, Nat.reduceBEq, undef, (stA), Nat.reduceMul]; try simp (disch := omega) only [(vmp)])
 refine xloop (α := Nat) T0 (fun i => [(0, .str l), (4, i64 i)]) (fun _ => σ) (fun _ => []) (fun i => i ≤ l.length ∧ long true l = if (long (decide (i = 0)) (l.drop i)).2 = [] then (0, []) else (i + (long (decide (i = 0)) (l.drop i)).1, (long (decide (i = 0)) (l.drop i)).2)) (fun i => l.length - i) (by kernel_rfl)
  ⟨0, ⟨by omega, ?_⟩, by (simp only [(vmA), Nat.reduceEqDiff, reduceIte, Nat.reduceAdd, Int.reduceToNat, Int.reduceLE, Int.reduceLT, Int.reduceEq, Int.reduceNe, Int.reduceAdd, Int.reduceSub, Int.reduceNeg, Nat.reduceLT, Nat.reduceLeDiff, Nat.reduceBEq, undef, (stA), Nat.reduceMul, Int.natCast_zero]; try simp (disch := omega) only [(vmp)]), rfl, rfl⟩ ?_
 ·simp only [decide_true, List.drop_zero, Nat.zero_add]
  split
  ·rename_i h; exact long_none _ _ h
  ·rfl
 generalize long true l = R
 rintro i ⟨hi, hall⟩
 have hdl : (l.drop i).length = l.length - i := List.length_drop
 have hg : ∀ j, (l.drop i).getD j 0 = l.getD (i + j) 0 := fun j => by simp [List.getD]
 by_cases h : (i : Int) < l.length
 ·(simp only [h, (vmA), Nat.reduceEqDiff, reduceIte, Nat.reduceAdd, Int.reduceToNat, Int.reduceLE, Int.reduceLT, Int.reduceEq, Int.reduceNe, Int.reduceAdd, Int.reduceSub, Int.reduceNeg, Nat.reduceLT, Nat.reduceLeDiff, Nat.reduceBEq, undef, (stA), Nat.reduceMul]; try simp (disch := omega) only [(vmp)])
  refine ⟨by omega, ?_⟩
  refine xWait.go (word_ok _ (by omega) _) ?_
  have hw := word_le (l.drop i)
  have e := long.eq_def (decide (i = 0)) (l.drop i)
  rw [if_neg (by omega), hg, hg, Nat.add_zero, hdl] at e
  (simp only [(vmA), Nat.reduceEqDiff, reduceIte, Nat.reduceAdd, Int.reduceToNat, Int.reduceLE, Int.reduceLT, Int.reduceEq, Int.reduceNe, Int.reduceAdd, Int.reduceSub, Int.reduceNeg, Nat.reduceLT, Nat.reduceLeDiff, Nat.reduceBEq, undef, (stA), Nat.reduceMul]; try simp (disch := omega) only [(vmp)])
  refine ⟨by omega, ?_⟩
  refine xWait.go (between_ok _ _ _ _) ?_
  cases h1 : btw 97 (l.getD i 0).toNat 122
  ·rw [if_neg (by rw [h1]; simp)] at e
   (simp only [(vmA), Nat.reduceEqDiff, reduceIte, Nat.reduceAdd, Int.reduceToNat, Int.reduceLE, Int.reduceLT, Int.reduceEq, Int.reduceNe, Int.reduceAdd, Int.reduceSub, Int.reduceNeg, Nat.reduceLT, Nat.reduceLeDiff, Nat.reduceBEq, undef, (stA), Nat.reduceMul]; try simp (disch := omega) only [(vmp)])
   refine ⟨by omega, ?_⟩
   refine xWait.go (between_ok _ _ _ _) ?_
   cases h2 : btw 65 (l.getD i 0).toNat 90
   ·rw [if_neg (by rw [h2]; simp)] at e
    rw [e] at hall
    (simp only [(vmA), Nat.reduceEqDiff, reduceIte, Nat.reduceAdd, Int.reduceToNat, Int.reduceLE, Int.reduceLT, Int.reduceEq, Int.reduceNe, Int.reduceAdd, Int.reduceSub, Int.reduceNeg, Nat.reduceLT, Nat.reduceLeDiff, Nat.reduceBEq, undef, (stA), Nat.reduceMul]; try simp (disch := omega) only [(vmp)])
    rw [hall]; rfl
   ·rw [if_pos h2] at e
    (simp only [(vmA), Nat.reduceEqDiff, reduceIte, Nat.reduceAdd, Int.reduceToNat, Int.reduceLE, Int.reduceLT, Int.reduceEq, Int.reduceNe, Int.reduceAdd, Int.reduceSub, Int.reduceNeg, Nat.reduceLT, Nat.reduceLeDiff, Nat.reduceBEq, undef, (stA), Nat.reduceMul]; try simp (disch := omega) only [(vmp)])
    by_cases h3 : ((i + word (l.drop i) : Nat) : Int) = l.length
    ·rw [if_pos (.inl (by omega))] at e
     rw [e, if_neg (by simp [kCon])] at hall
     (simp only [h3, (vmA), Nat.reduceEqDiff, reduceIte, Nat.reduceAdd, Int.reduceToNat, Int.reduceLE, Int.reduceLT, Int.reduceEq, Int.reduceNe, Int.reduceAdd, Int.reduceSub, Int.reduceNeg, Nat.reduceLT, Nat.reduceLeDiff, Nat.reduceBEq, undef, (stA), Nat.reduceMul]; try simp (disch := omega) only [(vmp)])
     rw [hall, ← h3]; rfl
    ·(simp only [h3, (vmA), Nat.reduceEqDiff, reduceIte, Nat.reduceAdd, Int.reduceToNat, Int.reduceLE, Int.reduceLT, Int.reduceEq, Int.reduceNe, Int.reduceAdd, Int.reduceSub, Int.reduceNeg, Nat.reduceLT, Nat.reduceLeDiff, Nat.reduceBEq, undef, (stA), Nat.reduceMul]; try simp (disch := omega) only [(vmp)])
     (simp only [(vmA), Nat.reduceEqDiff, reduceIte, Nat.reduceAdd, Int.reduceToNat, Int.reduceLE, Int.reduceLT, Int.reduceEq, Int.reduceNe, Int.reduceAdd, Int.reduceSub, Int.reduceNeg, Nat.reduceLT, Nat.reduceLeDiff, Nat.reduceBEq, undef, (stA), Nat.reduceMul]; try simp (disch := omega) only [(vmp)])
     refine ⟨by omega, ?_⟩
     by_cases h5 : ((l.getD (i + word (l.drop i)) 0).toNat : Int) = 46
     ·rw [if_neg (by omega)] at e
      (simp only [h5, (vmA), Nat.reduceEqDiff, reduceIte, Nat.reduceAdd, Int.reduceToNat, Int.reduceLE, Int.reduceLT, Int.reduceEq, Int.reduceNe, Int.reduceAdd, Int.reduceSub, Int.reduceNeg, Nat.reduceLT, Nat.reduceLeDiff, Nat.reduceBEq, undef, (stA), Nat.reduceMul]; try simp (disch := omega) only [(vmp)])
      refine ⟨i + (word (l.drop i) + 1), ⟨by omega, ?_⟩, by omega, rfl⟩
      rw [e] at hall
      rw [hall, List.drop_drop]
      have : i + (word (l.drop i) + 1) ≠ 0 := by omega
      simp only [this, decide_false]
      by_cases h6 : (long false (l.drop (i + (word (l.drop i) + 1)))).2 = []
      ·simp [h6]
      ·simp [h6]; omega
     ·rw [if_pos (.inr (by omega))] at e
      rw [e, if_neg (by simp [kCon])] at hall
      (simp only [h5, (vmA), Nat.reduceEqDiff, reduceIte, Nat.reduceAdd, Int.reduceToNat, Int.reduceLE, Int.reduceLT, Int.reduceEq, Int.reduceNe, Int.reduceAdd, Int.reduceSub, Int.reduceNeg, Nat.reduceLT, Nat.reduceLeDiff, Nat.reduceBEq, undef, (stA), Nat.reduceMul]; try simp (disch := omega) only [(vmp)])
      rw [hall]; rfl
  ·rw [if_pos h1] at e
   (simp only [(vmA), Nat.reduceEqDiff, reduceIte, Nat.reduceAdd, Int.reduceToNat, Int.reduceLE, Int.reduceLT, Int.reduceEq, Int.reduceNe, Int.reduceAdd, Int.reduceSub, Int.reduceNeg, Nat.reduceLT, Nat.reduceLeDiff, Nat.reduceBEq, undef, (stA), Nat.reduceMul]; try simp (disch := omega) only [(vmp)])
   by_cases h3 : (i : Int) = 0
   ·(simp only [h3, (vmA), Nat.reduceEqDiff, reduceIte, Nat.reduceAdd, Int.reduceToNat, Int.reduceLE, Int.reduceLT, Int.reduceEq, Int.reduceNe, Int.reduceAdd, Int.reduceSub, Int.reduceNeg, Nat.reduceLT, Nat.reduceLeDiff, Nat.reduceBEq, undef, (stA), Nat.reduceMul]; try simp (disch := omega) only [(vmp)])
    have hi0 : i = 0 := by omega
    subst hi0
    refine ⟨by omega, ?_⟩
    refine xWait.go (isKey_ok _ (by simp; omega) _) ?_
    simp only [List.drop_zero] at e hall hw
    by_cases h4 : l.take (word l) ∈ keys
    ·rw [if_pos (by simpa using h4)] at e
     rw [e, if_neg (by simp [kKey])] at hall
     (simp only [h4, (vmA), Nat.reduceEqDiff, reduceIte, Nat.reduceAdd, Int.reduceToNat, Int.reduceLE, Int.reduceLT, Int.reduceEq, Int.reduceNe, Int.reduceAdd, Int.reduceSub, Int.reduceNeg, Nat.reduceLT, Nat.reduceLeDiff, Nat.reduceBEq, undef, (stA), Nat.reduceMul]; try simp (disch := omega) only [(vmp)])
     rw [hall, Nat.zero_add]; rfl
    ·rw [if_neg (by simpa using h4)] at e
     rw [e, if_neg (by simp [kName])] at hall
     (simp only [h4, (vmA), Nat.reduceEqDiff, reduceIte, Nat.reduceAdd, Int.reduceToNat, Int.reduceLE, Int.reduceLT, Int.reduceEq, Int.reduceNe, Int.reduceAdd, Int.reduceSub, Int.reduceNeg, Nat.reduceLT, Nat.reduceLeDiff, Nat.reduceBEq, undef, (stA), Nat.reduceMul]; try simp (disch := omega) only [(vmp)])
     rw [hall, Nat.zero_add]; rfl
   ·(simp only [h3, (vmA), Nat.reduceEqDiff, reduceIte, Nat.reduceAdd, Int.reduceToNat, Int.reduceLE, Int.reduceLT, Int.reduceEq, Int.reduceNe, Int.reduceAdd, Int.reduceSub, Int.reduceNeg, Nat.reduceLT, Nat.reduceLeDiff, Nat.reduceBEq, undef, (stA), Nat.reduceMul]; try simp (disch := omega) only [(vmp)])
    have : i ≠ 0 := by omega
    simp only [this, decide_false] at e hall
    rw [if_neg (by simp)] at e
    rw [e, if_neg (by simp [kName])] at hall
    rw [hall]; rfl
 ·have : i = l.length := by omega
  (simp only [h, (vmA), Nat.reduceEqDiff, reduceIte, Nat.reduceAdd, Int.reduceToNat, Int.reduceLE, Int.reduceLT, Int.reduceEq, Int.reduceNe, Int.reduceAdd, Int.reduceSub, Int.reduceNeg, Nat.reduceLT, Nat.reduceLeDiff, Nat.reduceBEq, undef, (stA), Nat.reduceMul]; try simp (disch := omega) only [(vmp)])
  rw [this, List.drop_length, long] at hall
  simp at hall
  rw [hall]; rfl
end Go.D
