/- What the tokens of a text are: plain lists, no program. -/
import Derived.Lib.Strings
import Derived.Test.YtoobkfjkohadnaaGreatDoorProg
import Derived.Test.YtoobkfjkohadnaaGreatDoorVmD
import Derived.Test.YtoobkfjkohadnaaGreatDoorVmE
import Derived.Test.YtoobkfjkohadnaaGreatDoorShelf
import Derived.WalkSmall
import Derived.Lib.SmallJoins
import Derived.Lib.SplitLaws
import Derived.Lib.ParseIntB
import GoSem.Op.String
set_option linter.unusedVariables false
set_option linter.unusedSimpArgs false
set_option maxRecDepth 100000
namespace Go.D
open Go

def btw (a b c : Int) : Bool := decide (a ≤ b) && decide (b ≤ c)
def isPart (b : Int) : Bool := btw 97 b 122 || btw 65 b 90 || btw 48 b 57 || decide (b = 95) || decide (b = 39)
def pB (p : Int → Bool) (x : UInt8) : Bool := p x.toNat
/-- How many come first that are so. -/
theorem takeWhile_len {p : UInt8 → Bool} : ∀ {l : List UInt8} {i : Nat}, i ≤ l.length → (∀ x ∈ l.take i, p x = true) → (i < l.length → p (l.getD i 0) = false) → (l.takeWhile p).length = i
  | [], i, h, _, _ => by simp at h; simp [h]
  | a :: l, 0, _, _, h => by have := h (by simp); simp at this; simp [this]
  | a :: l, i + 1, h, h1, h2 => by
    have ha : p a = true := h1 a (by simp)
    rw [List.takeWhile_cons, if_pos ha, List.length_cons, takeWhile_len (i := i) (by simpa using h) (fun x hx => h1 x (by simp [hx])) (fun hi => by simpa using h2 (by simpa using hi))]
theorem take_succ_all {p : UInt8 → Bool} {l : List UInt8} {i : Nat} (hi : i < l.length) (h : ∀ x ∈ l.take i, p x = true) (h1 : p (l.getD i 0) = true) : ∀ x ∈ l.take (i + 1), p x = true := by
  intro x hx
  rw [List.take_add_one, List.mem_append] at hx
  rcases hx with hx | hx
  · exact h x hx
  · have : x = l.getD i 0 := by simp [List.getElem?_eq_getElem hi] at hx; simp [hi, hx]
    rw [this]; exact h1

def word (l : List UInt8) : Nat := (l.takeWhile (pB isPart)).length
def isDig (b : Int) : Bool := btw 48 b 57
/-- Whether a sign stands before a digit that is not 0. -/
def negB (l : List UInt8) : Bool := decide ((1 : Int) < l.length) && (decide (((l.getD 0 0).toNat : Int) = 45) && btw 49 (l.getD 1 0).toNat 57)
def negN (l : List UInt8) : Nat := if negB l then 1 else 0
/-- How long the number is that stands first. -/
def digits (l : List UInt8) : Nat :=
  if negN l = l.length then 0
  else if isDig (l.getD (negN l) 0).toNat then (if ((l.getD (negN l) 0).toNat : Int) = 48 then negN l + 1 else negN l + ((l.drop (negN l)).takeWhile (pB isDig)).length) else 0

theorem negN_le (l : List UInt8) : negN l ≤ l.length := by
  unfold negN
  split
  · rename_i h; simp only [negB, Bool.and_eq_true, decide_eq_true_eq] at h; omega
  · omega

def keysText : List UInt8 := [102, 110, 32, 108, 101, 116, 32, 105, 110, 32, 102, 117, 110, 32, 105, 102, 32, 116, 104, 101, 110, 32, 101, 108, 115, 101, 32, 99, 97, 115, 101, 32, 111, 102, 32, 114, 97, 105, 115, 101, 32, 104, 97, 110, 100, 108, 101, 32, 100, 97, 116, 97, 116, 121, 112, 101, 32, 101, 120, 99, 101, 112, 116, 105, 111, 110, 32, 118, 97, 108, 32, 115, 116, 114, 117, 99, 116, 117, 114, 101, 32, 115, 116, 114, 117, 99, 116, 32, 101, 110, 100, 32, 115, 105, 103, 110, 97, 116, 117, 114, 101, 32, 115, 105, 103, 32, 116, 121, 112, 101, 32, 102, 117, 110, 99, 116, 111, 114, 32, 100, 111, 32, 116, 114, 117, 101, 32, 102, 97, 108, 115, 101, 32, 105, 110, 116, 32, 98, 111, 111, 108, 32, 117, 110, 105, 116, 32, 116, 101, 120, 116, 32, 108, 105, 115, 116, 32, 97, 114, 114, 97, 121, 32, 115, 105, 122, 101, 32, 98, 121, 116, 101, 32, 99, 104, 97, 114, 32, 115, 104, 111, 119, 32, 115, 97, 109, 101, 32, 103, 101, 116, 32, 115, 101, 116, 32, 108, 101, 110, 103, 116, 104, 32, 112, 114, 105, 110, 116]
def keys : List (List UInt8) := [[102, 110], [108, 101, 116], [105, 110], [102, 117, 110], [105, 102], [116, 104, 101, 110], [101, 108, 115, 101], [99, 97, 115, 101], [111, 102], [114, 97, 105, 115, 101], [104, 97, 110, 100, 108, 101], [100, 97, 116, 97, 116, 121, 112, 101], [101, 120, 99, 101, 112, 116, 105, 111, 110], [118, 97, 108], [115, 116, 114, 117, 99, 116, 117, 114, 101], [115, 116, 114, 117, 99, 116], [101, 110, 100], [115, 105, 103, 110, 97, 116, 117, 114, 101], [115, 105, 103], [116, 121, 112, 101], [102, 117, 110, 99, 116, 111, 114], [100, 111], [116, 114, 117, 101], [102, 97, 108, 115, 101], [105, 110, 116], [98, 111, 111, 108], [117, 110, 105, 116], [116, 101, 120, 116], [108, 105, 115, 116], [97, 114, 114, 97, 121], [115, 105, 122, 101], [98, 121, 116, 101], [99, 104, 97, 114], [115, 104, 111, 119], [115, 97, 109, 101], [103, 101, 116], [115, 101, 116], [108, 101, 110, 103, 116, 104], [112, 114, 105, 110, 116]]
def signsText : List UInt8 := [40, 32, 41, 32, 91, 32, 93, 32, 44, 32, 59, 32, 58, 32, 61, 32, 124, 32, 95, 32, 43, 32, 45, 32, 42, 32, 47, 32, 37, 32, 60, 32, 94, 32, 58, 58, 32, 61, 62, 32, 45, 62, 32, 58, 62]
def signs : List (List UInt8) := [[40], [41], [91], [93], [44], [59], [58], [61], [124], [95], [43], [45], [42], [47], [37], [60], [94], [58, 58], [61, 62], [45, 62], [58, 62]]
def signStep (l s x : List UInt8) : List UInt8 := if s.length < x.length ∧ Lib.hasPrefix l x = true then x else s
def sign (l : List UInt8) : List UInt8 := signs.foldl (signStep l) []

def kKey : List UInt8 := [107, 101, 121]
def kName : List UInt8 := [110, 97, 109, 101]
def kCon : List UInt8 := [99, 111, 110]
/-- The name that stands first: how long it is, and its kind. -/
def long (first : Bool) (l : List UInt8) : Nat × List UInt8 :=
  if l.length = 0 then (0, []) else
  if btw 97 (l.getD 0 0).toNat 122 = true then (if first = true ∧ l.take (word l) ∈ keys then (word l, kKey) else (word l, kName))
  else if btw 65 (l.getD 0 0).toNat 90 = true then
    (if word l = l.length ∨ ¬ (l.getD (word l) 0).toNat = 46 then (word l, kCon)
     else if (long false (l.drop (word l + 1))).2 = [] then (0, []) else (word l + 1 + (long false (l.drop (word l + 1))).1, (long false (l.drop (word l + 1))).2))
  else (0, [])
termination_by l.length
decreasing_by all_goals (simp only [List.length_drop]; omega)

theorem long_none (f : Bool) (l : List UInt8) (h : (long f l).2 = []) : long f l = (0, []) := by
  rw [long] at h ⊢
  repeat' split at h
  all_goals first | (simp [kKey, kName, kCon] at h; done) | skip
  all_goals simp_all

theorem word_le (l : List UInt8) : word l ≤ l.length := by
  unfold word
  exact (List.takeWhile_prefix _).length_le

end Go.D

/- What is known of this translation's types, printed by program (tab.py). -/
set_option linter.unusedVariables false
set_option maxRecDepth 100000
namespace Go.D
open Go Go.Vm
def tabL : List (Nat × TI) := [
  (1, { ok := true, desc := (TypeDesc.func #[] #[] false), size := 1, bytes := 8, isAgg := false, zero := (.v .nilFunc), flds := [], elem := 0 }),
  (2, { ok := true, desc := (TypeDesc.int IntKind.i64), size := 1, bytes := 8, isAgg := false, zero := (.v (.int IntKind.i64 0)), flds := [], elem := 0 }),
  (3, { ok := true, desc := (TypeDesc.int IntKind.i64), size := 1, bytes := 8, isAgg := false, zero := (.v (.int IntKind.i64 0)), flds := [], elem := 0 }),
  (4, { ok := true, desc := TypeDesc.bool, size := 1, bytes := 1, isAgg := false, zero := (.v (.bool false)), flds := [], elem := 0 }),
  (5, { ok := true, desc := (TypeDesc.int IntKind.u8), size := 1, bytes := 1, isAgg := false, zero := (.v (.int IntKind.u8 0)), flds := [], elem := 0 }),
  (6, { ok := true, desc := (TypeDesc.int IntKind.u8), size := 1, bytes := 1, isAgg := false, zero := (.v (.int IntKind.u8 0)), flds := [], elem := 0 }),
  (7, { ok := true, desc := (TypeDesc.struct #[{ name := "x", type := 2, offset := 0, embedded := false, tag := "", pkgPath := "runtime", byteOffset := 0 }, { name := "y", type := 3, offset := 1, embedded := false, tag := "", pkgPath := "runtime", byteOffset := 8 }, { name := "signed", type := 4, offset := 2, embedded := false, tag := "", pkgPath := "runtime", byteOffset := 16 }, { name := "code", type := 6, offset := 3, embedded := false, tag := "", pkgPath := "runtime", byteOffset := 17 }]), size := 4, bytes := 24, isAgg := true, zero := (.agg [(.v (.int IntKind.i64 0)), (.v (.int IntKind.i64 0)), (.v (.bool false)), (.v (.int IntKind.u8 0))]), flds := [(0, 1, false), (1, 1, false), (2, 1, false), (3, 1, false)], elem := 0 }),
  (9, { ok := true, desc := TypeDesc.string, size := 1, bytes := 16, isAgg := false, zero := (.str []), flds := [], elem := 0 }),
  (22, { ok := true, desc := (TypeDesc.slice 24), size := 1, bytes := 24, isAgg := false, zero := (.v (.slice none 0 0)), flds := [], elem := 24 }),
  (24, { ok := true, desc := (TypeDesc.struct #[{ name := "Do", type := 9, offset := 0, embedded := false, tag := "", pkgPath := "", byteOffset := 0 }, { name := "Name", type := 9, offset := 1, embedded := false, tag := "", pkgPath := "", byteOffset := 16 }, { name := "Args", type := 22, offset := 2, embedded := false, tag := "", pkgPath := "", byteOffset := 32 }]), size := 3, bytes := 56, isAgg := true, zero := (.agg [(.str []), (.str []), (.v (.slice none 0 0))]), flds := [(0, 1, false), (1, 1, false), (2, 1, false)], elem := 0 }),
  (25, { ok := true, desc := (TypeDesc.slice 33), size := 1, bytes := 24, isAgg := false, zero := (.v (.slice none 0 0)), flds := [], elem := 33 }),
  (26, { ok := true, desc := (TypeDesc.int IntKind.i64), size := 1, bytes := 8, isAgg := false, zero := (.v (.int IntKind.i64 0)), flds := [], elem := 0 }),
  (29, { ok := true, desc := (TypeDesc.slice 9), size := 1, bytes := 24, isAgg := false, zero := (.v (.slice none 0 0)), flds := [], elem := 9 }),
  (33, { ok := true, desc := (TypeDesc.struct #[{ name := "Name", type := 9, offset := 0, embedded := false, tag := "", pkgPath := "", byteOffset := 0 }, { name := "Type", type := 24, offset := 1, embedded := false, tag := "", pkgPath := "", byteOffset := 16 }]), size := 4, bytes := 72, isAgg := true, zero := (.agg [(.str []), (.str []), (.str []), (.v (.slice none 0 0))]), flds := [(0, 1, false), (1, 3, true)], elem := 0 }),
  (35, { ok := true, desc := (TypeDesc.func #[24] #[4] false), size := 1, bytes := 8, isAgg := false, zero := (.v .nilFunc), flds := [], elem := 0 }),
  (38, { ok := true, desc := (TypeDesc.func #[24, 24] #[4] false), size := 1, bytes := 8, isAgg := false, zero := (.v .nilFunc), flds := [], elem := 0 }),
  (44, { ok := true, desc := (TypeDesc.slice 60), size := 1, bytes := 24, isAgg := false, zero := (.v (.slice none 0 0)), flds := [], elem := 60 }),
  (57, { ok := true, desc := (TypeDesc.map 9 24), size := 1, bytes := 8, isAgg := false, zero := (.v (.map none)), flds := [], elem := 0 }),
  (60, { ok := true, desc := (TypeDesc.array 2 24), size := 6, bytes := 112, isAgg := true, zero := (.agg [(.str []), (.str []), (.v (.slice none 0 0)), (.str []), (.str []), (.v (.slice none 0 0))]), flds := [], elem := 0 }),
  (64, { ok := true, desc := (TypeDesc.slice 5), size := 1, bytes := 24, isAgg := false, zero := (.v (.slice none 0 0)), flds := [], elem := 5 }),
  (68, { ok := true, desc := (TypeDesc.pointer 72), size := 1, bytes := 8, isAgg := false, zero := (.v (.pointer none)), flds := [], elem := 0 }),
  (69, { ok := true, desc := (TypeDesc.map 9 74), size := 1, bytes := 8, isAgg := false, zero := (.v (.map none)), flds := [], elem := 0 }),
  (70, { ok := true, desc := (TypeDesc.map 74 89), size := 1, bytes := 8, isAgg := false, zero := (.v (.map none)), flds := [], elem := 0 }),
  (72, { ok := true, desc := (TypeDesc.struct #[{ name := "vars", type := 69, offset := 0, embedded := false, tag := "", pkgPath := "virgate/types", byteOffset := 0 }, { name := "sizes", type := 70, offset := 1, embedded := false, tag := "", pkgPath := "virgate/types", byteOffset := 8 }]), size := 2, bytes := 16, isAgg := true, zero := (.agg [(.v (.map none)), (.v (.map none))]), flds := [(0, 1, false), (1, 1, false)], elem := 0 }),
  (74, { ok := true, desc := (TypeDesc.pointer 107), size := 1, bytes := 8, isAgg := false, zero := (.v (.pointer none)), flds := [], elem := 0 }),
  (85, { ok := true, desc := (TypeDesc.func #[24] #[] false), size := 1, bytes := 8, isAgg := false, zero := (.v .nilFunc), flds := [], elem := 0 }),
  (89, { ok := true, desc := (TypeDesc.struct #[{ name := "Nodes", type := 3, offset := 0, embedded := false, tag := "", pkgPath := "", byteOffset := 0 }, { name := "Deep", type := 3, offset := 1, embedded := false, tag := "", pkgPath := "", byteOffset := 8 }]), size := 2, bytes := 16, isAgg := true, zero := (.agg [(.v (.int IntKind.i64 0)), (.v (.int IntKind.i64 0))]), flds := [(0, 1, false), (1, 1, false)], elem := 0 }),
  (97, { ok := true, desc := (TypeDesc.slice 3), size := 1, bytes := 24, isAgg := false, zero := (.v (.slice none 0 0)), flds := [], elem := 3 }),
  (99, { ok := true, desc := (TypeDesc.func #[3] #[4] false), size := 1, bytes := 8, isAgg := false, zero := (.v .nilFunc), flds := [], elem := 0 }),
  (101, { ok := true, desc := (TypeDesc.map 9 89), size := 1, bytes := 8, isAgg := false, zero := (.v (.map none)), flds := [], elem := 0 }),
  (105, { ok := true, desc := (TypeDesc.slice 74), size := 1, bytes := 24, isAgg := false, zero := (.v (.slice none 0 0)), flds := [], elem := 74 }),
  (107, { ok := true, desc := (TypeDesc.struct #[{ name := "do", type := 9, offset := 0, embedded := false, tag := "", pkgPath := "virgate/types", byteOffset := 0 }, { name := "name", type := 9, offset := 1, embedded := false, tag := "", pkgPath := "virgate/types", byteOffset := 16 }, { name := "args", type := 105, offset := 2, embedded := false, tag := "", pkgPath := "virgate/types", byteOffset := 32 }, { name := "link", type := 74, offset := 3, embedded := false, tag := "", pkgPath := "virgate/types", byteOffset := 56 }]), size := 4, bytes := 64, isAgg := true, zero := (.agg [(.str []), (.str []), (.v (.slice none 0 0)), (.v (.pointer none))]), flds := [(0, 1, false), (1, 1, false), (2, 1, false), (3, 1, false)], elem := 0 }),
  (109, { ok := true, desc := (TypeDesc.map 74 4), size := 1, bytes := 8, isAgg := false, zero := (.v (.map none)), flds := [], elem := 0 }),
  (130, { ok := true, desc := (TypeDesc.int IntKind.u64), size := 1, bytes := 8, isAgg := false, zero := (.v (.int IntKind.u64 0)), flds := [], elem := 0 }),
  (131, { ok := true, desc := (TypeDesc.slice 89), size := 1, bytes := 24, isAgg := false, zero := (.v (.slice none 0 0)), flds := [], elem := 89 }),
  (140, { ok := true, desc := (TypeDesc.struct #[{ name := "Kind", type := 9, offset := 0, embedded := false, tag := "", pkgPath := "", byteOffset := 0 }, { name := "Text", type := 9, offset := 1, embedded := false, tag := "", pkgPath := "", byteOffset := 16 }, { name := "At", type := 3, offset := 2, embedded := false, tag := "", pkgPath := "", byteOffset := 32 }]), size := 3, bytes := 40, isAgg := true, zero := (.agg [(.str []), (.str []), (.v (.int IntKind.i64 0))]), flds := [(0, 1, false), (1, 1, false), (2, 1, false)], elem := 0 }),
  (144, { ok := true, desc := (TypeDesc.func #[74] #[4] false), size := 1, bytes := 8, isAgg := false, zero := (.v .nilFunc), flds := [], elem := 0 }),
  (172, { ok := true, desc := (TypeDesc.interface #[("Error", 243)]), size := 1, bytes := 16, isAgg := false, zero := (.v .nilIface), flds := [], elem := 0 }),
  (175, { ok := true, desc := (TypeDesc.array 256 5), size := 256, bytes := 256, isAgg := true, zero := (.agg (List.replicate 256 (.v (.int IntKind.u8 0)))), flds := [], elem := 0 }),
  (177, { ok := true, desc := (TypeDesc.func #[21] #[4] false), size := 1, bytes := 8, isAgg := false, zero := (.v .nilFunc), flds := [], elem := 0 })]
def tab (t : Nat) : TI := tabOf tabL t
theorem tab_1 : tab 1 = { ok := true, desc := (TypeDesc.func #[] #[] false), size := 1, bytes := 8, isAgg := false, zero := (.v .nilFunc), flds := [], elem := 0 } := by kernel_rfl
theorem tab_2 : tab 2 = { ok := true, desc := (TypeDesc.int IntKind.i64), size := 1, bytes := 8, isAgg := false, zero := (.v (.int IntKind.i64 0)), flds := [], elem := 0 } := by kernel_rfl
theorem tab_3 : tab 3 = { ok := true, desc := (TypeDesc.int IntKind.i64), size := 1, bytes := 8, isAgg := false, zero := (.v (.int IntKind.i64 0)), flds := [], elem := 0 } := by kernel_rfl
theorem tab_4 : tab 4 = { ok := true, desc := TypeDesc.bool, size := 1, bytes := 1, isAgg := false, zero := (.v (.bool false)), flds := [], elem := 0 } := by kernel_rfl
theorem tab_5 : tab 5 = { ok := true, desc := (TypeDesc.int IntKind.u8), size := 1, bytes := 1, isAgg := false, zero := (.v (.int IntKind.u8 0)), flds := [], elem := 0 } := by kernel_rfl
theorem tab_6 : tab 6 = { ok := true, desc := (TypeDesc.int IntKind.u8), size := 1, bytes := 1, isAgg := false, zero := (.v (.int IntKind.u8 0)), flds := [], elem := 0 } := by kernel_rfl
theorem tab_7 : tab 7 = { ok := true, desc := (TypeDesc.struct #[{ name := "x", type := 2, offset := 0, embedded := false, tag := "", pkgPath := "runtime", byteOffset := 0 }, { name := "y", type := 3, offset := 1, embedded := false, tag := "", pkgPath := "runtime", byteOffset := 8 }, { name := "signed", type := 4, offset := 2, embedded := false, tag := "", pkgPath := "runtime", byteOffset := 16 }, { name := "code", type := 6, offset := 3, embedded := false, tag := "", pkgPath := "runtime", byteOffset := 17 }]), size := 4, bytes := 24, isAgg := true, zero := (.agg [(.v (.int IntKind.i64 0)), (.v (.int IntKind.i64 0)), (.v (.bool false)), (.v (.int IntKind.u8 0))]), flds := [(0, 1, false), (1, 1, false), (2, 1, false), (3, 1, false)], elem := 0 } := by kernel_rfl
theorem tab_9 : tab 9 = { ok := true, desc := TypeDesc.string, size := 1, bytes := 16, isAgg := false, zero := (.str []), flds := [], elem := 0 } := by kernel_rfl
theorem tab_22 : tab 22 = { ok := true, desc := (TypeDesc.slice 24), size := 1, bytes := 24, isAgg := false, zero := (.v (.slice none 0 0)), flds := [], elem := 24 } := by kernel_rfl
theorem tab_24 : tab 24 = { ok := true, desc := (TypeDesc.struct #[{ name := "Do", type := 9, offset := 0, embedded := false, tag := "", pkgPath := "", byteOffset := 0 }, { name := "Name", type := 9, offset := 1, embedded := false, tag := "", pkgPath := "", byteOffset := 16 }, { name := "Args", type := 22, offset := 2, embedded := false, tag := "", pkgPath := "", byteOffset := 32 }]), size := 3, bytes := 56, isAgg := true, zero := (.agg [(.str []), (.str []), (.v (.slice none 0 0))]), flds := [(0, 1, false), (1, 1, false), (2, 1, false)], elem := 0 } := by kernel_rfl
theorem tab_25 : tab 25 = { ok := true, desc := (TypeDesc.slice 33), size := 1, bytes := 24, isAgg := false, zero := (.v (.slice none 0 0)), flds := [], elem := 33 } := by kernel_rfl
theorem tab_26 : tab 26 = { ok := true, desc := (TypeDesc.int IntKind.i64), size := 1, bytes := 8, isAgg := false, zero := (.v (.int IntKind.i64 0)), flds := [], elem := 0 } := by kernel_rfl
theorem tab_29 : tab 29 = { ok := true, desc := (TypeDesc.slice 9), size := 1, bytes := 24, isAgg := false, zero := (.v (.slice none 0 0)), flds := [], elem := 9 } := by kernel_rfl
theorem tab_33 : tab 33 = { ok := true, desc := (TypeDesc.struct #[{ name := "Name", type := 9, offset := 0, embedded := false, tag := "", pkgPath := "", byteOffset := 0 }, { name := "Type", type := 24, offset := 1, embedded := false, tag := "", pkgPath := "", byteOffset := 16 }]), size := 4, bytes := 72, isAgg := true, zero := (.agg [(.str []), (.str []), (.str []), (.v (.slice none 0 0))]), flds := [(0, 1, false), (1, 3, true)], elem := 0 } := by kernel_rfl
theorem tab_35 : tab 35 = { ok := true, desc := (TypeDesc.func #[24] #[4] false), size := 1, bytes := 8, isAgg := false, zero := (.v .nilFunc), flds := [], elem := 0 } := by kernel_rfl
theorem tab_38 : tab 38 = { ok := true, desc := (TypeDesc.func #[24, 24] #[4] false), size := 1, bytes := 8, isAgg := false, zero := (.v .nilFunc), flds := [], elem := 0 } := by kernel_rfl
theorem tab_44 : tab 44 = { ok := true, desc := (TypeDesc.slice 60), size := 1, bytes := 24, isAgg := false, zero := (.v (.slice none 0 0)), flds := [], elem := 60 } := by kernel_rfl
theorem tab_57 : tab 57 = { ok := true, desc := (TypeDesc.map 9 24), size := 1, bytes := 8, isAgg := false, zero := (.v (.map none)), flds := [], elem := 0 } := by kernel_rfl
theorem tab_60 : tab 60 = { ok := true, desc := (TypeDesc.array 2 24), size := 6, bytes := 112, isAgg := true, zero := (.agg [(.str []), (.str []), (.v (.slice none 0 0)), (.str []), (.str []), (.v (.slice none 0 0))]), flds := [], elem := 0 } := by kernel_rfl
theorem tab_64 : tab 64 = { ok := true, desc := (TypeDesc.slice 5), size := 1, bytes := 24, isAgg := false, zero := (.v (.slice none 0 0)), flds := [], elem := 5 } := by kernel_rfl
theorem tab_68 : tab 68 = { ok := true, desc := (TypeDesc.pointer 72), size := 1, bytes := 8, isAgg := false, zero := (.v (.pointer none)), flds := [], elem := 0 } := by kernel_rfl
theorem tab_69 : tab 69 = { ok := true, desc := (TypeDesc.map 9 74), size := 1, bytes := 8, isAgg := false, zero := (.v (.map none)), flds := [], elem := 0 } := by kernel_rfl
theorem tab_70 : tab 70 = { ok := true, desc := (TypeDesc.map 74 89), size := 1, bytes := 8, isAgg := false, zero := (.v (.map none)), flds := [], elem := 0 } := by kernel_rfl
theorem tab_72 : tab 72 = { ok := true, desc := (TypeDesc.struct #[{ name := "vars", type := 69, offset := 0, embedded := false, tag := "", pkgPath := "virgate/types", byteOffset := 0 }, { name := "sizes", type := 70, offset := 1, embedded := false, tag := "", pkgPath := "virgate/types", byteOffset := 8 }]), size := 2, bytes := 16, isAgg := true, zero := (.agg [(.v (.map none)), (.v (.map none))]), flds := [(0, 1, false), (1, 1, false)], elem := 0 } := by kernel_rfl
theorem tab_74 : tab 74 = { ok := true, desc := (TypeDesc.pointer 107), size := 1, bytes := 8, isAgg := false, zero := (.v (.pointer none)), flds := [], elem := 0 } := by kernel_rfl
theorem tab_85 : tab 85 = { ok := true, desc := (TypeDesc.func #[24] #[] false), size := 1, bytes := 8, isAgg := false, zero := (.v .nilFunc), flds := [], elem := 0 } := by kernel_rfl
theorem tab_89 : tab 89 = { ok := true, desc := (TypeDesc.struct #[{ name := "Nodes", type := 3, offset := 0, embedded := false, tag := "", pkgPath := "", byteOffset := 0 }, { name := "Deep", type := 3, offset := 1, embedded := false, tag := "", pkgPath := "", byteOffset := 8 }]), size := 2, bytes := 16, isAgg := true, zero := (.agg [(.v (.int IntKind.i64 0)), (.v (.int IntKind.i64 0))]), flds := [(0, 1, false), (1, 1, false)], elem := 0 } := by kernel_rfl
theorem tab_97 : tab 97 = { ok := true, desc := (TypeDesc.slice 3), size := 1, bytes := 24, isAgg := false, zero := (.v (.slice none 0 0)), flds := [], elem := 3 } := by kernel_rfl
theorem tab_99 : tab 99 = { ok := true, desc := (TypeDesc.func #[3] #[4] false), size := 1, bytes := 8, isAgg := false, zero := (.v .nilFunc), flds := [], elem := 0 } := by kernel_rfl
theorem tab_101 : tab 101 = { ok := true, desc := (TypeDesc.map 9 89), size := 1, bytes := 8, isAgg := false, zero := (.v (.map none)), flds := [], elem := 0 } := by kernel_rfl
theorem tab_105 : tab 105 = { ok := true, desc := (TypeDesc.slice 74), size := 1, bytes := 24, isAgg := false, zero := (.v (.slice none 0 0)), flds := [], elem := 74 } := by kernel_rfl
theorem tab_107 : tab 107 = { ok := true, desc := (TypeDesc.struct #[{ name := "do", type := 9, offset := 0, embedded := false, tag := "", pkgPath := "virgate/types", byteOffset := 0 }, { name := "name", type := 9, offset := 1, embedded := false, tag := "", pkgPath := "virgate/types", byteOffset := 16 }, { name := "args", type := 105, offset := 2, embedded := false, tag := "", pkgPath := "virgate/types", byteOffset := 32 }, { name := "link", type := 74, offset := 3, embedded := false, tag := "", pkgPath := "virgate/types", byteOffset := 56 }]), size := 4, bytes := 64, isAgg := true, zero := (.agg [(.str []), (.str []), (.v (.slice none 0 0)), (.v (.pointer none))]), flds := [(0, 1, false), (1, 1, false), (2, 1, false), (3, 1, false)], elem := 0 } := by kernel_rfl
theorem tab_109 : tab 109 = { ok := true, desc := (TypeDesc.map 74 4), size := 1, bytes := 8, isAgg := false, zero := (.v (.map none)), flds := [], elem := 0 } := by kernel_rfl
theorem tab_130 : tab 130 = { ok := true, desc := (TypeDesc.int IntKind.u64), size := 1, bytes := 8, isAgg := false, zero := (.v (.int IntKind.u64 0)), flds := [], elem := 0 } := by kernel_rfl
theorem tab_131 : tab 131 = { ok := true, desc := (TypeDesc.slice 89), size := 1, bytes := 24, isAgg := false, zero := (.v (.slice none 0 0)), flds := [], elem := 89 } := by kernel_rfl
theorem tab_140 : tab 140 = { ok := true, desc := (TypeDesc.struct #[{ name := "Kind", type := 9, offset := 0, embedded := false, tag := "", pkgPath := "", byteOffset := 0 }, { name := "Text", type := 9, offset := 1, embedded := false, tag := "", pkgPath := "", byteOffset := 16 }, { name := "At", type := 3, offset := 2, embedded := false, tag := "", pkgPath := "", byteOffset := 32 }]), size := 3, bytes := 40, isAgg := true, zero := (.agg [(.str []), (.str []), (.v (.int IntKind.i64 0))]), flds := [(0, 1, false), (1, 1, false), (2, 1, false)], elem := 0 } := by kernel_rfl
theorem tab_144 : tab 144 = { ok := true, desc := (TypeDesc.func #[74] #[4] false), size := 1, bytes := 8, isAgg := false, zero := (.v .nilFunc), flds := [], elem := 0 } := by kernel_rfl
theorem tab_172 : tab 172 = { ok := true, desc := (TypeDesc.interface #[("Error", 243)]), size := 1, bytes := 16, isAgg := false, zero := (.v .nilIface), flds := [], elem := 0 } := by kernel_rfl
theorem tab_175 : tab 175 = { ok := true, desc := (TypeDesc.array 256 5), size := 256, bytes := 256, isAgg := true, zero := (.agg (List.replicate 256 (.v (.int IntKind.u8 0)))), flds := [], elem := 0 } := by kernel_rfl
theorem tab_177 : tab 177 = { ok := true, desc := (TypeDesc.func #[21] #[4] false), size := 1, bytes := 8, isAgg := false, zero := (.v .nilFunc), flds := [], elem := 0 } := by kernel_rfl
theorem tab_ok : TabOK Go.Proofs.Tryz.prog tab := TabOK.of_list (l := tabL) ⟨TyOK.of' (inf := Go.Proofs.Tryz.t1) Go.Proofs.Tryz.underlying1 (by kernel_rfl) (by kernel_rfl),
  TyOK.of' (inf := Go.Proofs.Tryz.t2) Go.Proofs.Tryz.underlying2 (by kernel_rfl) (by kernel_rfl),
  TyOK.of' (inf := Go.Proofs.Tryz.t3) Go.Proofs.Tryz.underlying3 (by kernel_rfl) (by kernel_rfl),
  TyOK.of' (inf := Go.Proofs.Tryz.t4) Go.Proofs.Tryz.underlying4 (by kernel_rfl) (by kernel_rfl),
  TyOK.of' (inf := Go.Proofs.Tryz.t5) Go.Proofs.Tryz.underlying5 (by kernel_rfl) (by kernel_rfl),
  TyOK.of' (inf := Go.Proofs.Tryz.t6) Go.Proofs.Tryz.underlying6 (by kernel_rfl) (by kernel_rfl),
  TyOK.of' (inf := Go.Proofs.Tryz.t7) Go.Proofs.Tryz.underlying7 (by kernel_rfl) (by kernel_rfl),
  TyOK.of' (inf := Go.Proofs.Tryz.t9) Go.Proofs.Tryz.underlying9 (by kernel_rfl) (by kernel_rfl),
  TyOK.of' (inf := Go.Proofs.Tryz.t22) Go.Proofs.Tryz.underlying22 (by kernel_rfl) (by kernel_rfl),
  TyOK.of' (inf := Go.Proofs.Tryz.t24) Go.Proofs.Tryz.underlying24 (by kernel_rfl) (by kernel_rfl),
  TyOK.of' (inf := Go.Proofs.Tryz.t25) Go.Proofs.Tryz.underlying25 (by kernel_rfl) (by kernel_rfl),
  TyOK.of' (inf := Go.Proofs.Tryz.t26) Go.Proofs.Tryz.underlying26 (by kernel_rfl) (by kernel_rfl),
  TyOK.of' (inf := Go.Proofs.Tryz.t29) Go.Proofs.Tryz.underlying29 (by kernel_rfl) (by kernel_rfl),
  TyOK.of' (inf := Go.Proofs.Tryz.t33) Go.Proofs.Tryz.underlying33 (by kernel_rfl) (by kernel_rfl),
  TyOK.of' (inf := Go.Proofs.Tryz.t35) Go.Proofs.Tryz.underlying35 (by kernel_rfl) (by kernel_rfl),
  TyOK.of' (inf := Go.Proofs.Tryz.t38) Go.Proofs.Tryz.underlying38 (by kernel_rfl) (by kernel_rfl),
  TyOK.of' (inf := Go.Proofs.Tryz.t44) Go.Proofs.Tryz.underlying44 (by kernel_rfl) (by kernel_rfl),
  TyOK.of' (inf := Go.Proofs.Tryz.t57) Go.Proofs.Tryz.underlying57 (by kernel_rfl) (by kernel_rfl),
  TyOK.of' (inf := Go.Proofs.Tryz.t60) Go.Proofs.Tryz.underlying60 (by kernel_rfl) (by kernel_rfl),
  TyOK.of' (inf := Go.Proofs.Tryz.t64) Go.Proofs.Tryz.underlying64 (by kernel_rfl) (by kernel_rfl),
  TyOK.of' (inf := Go.Proofs.Tryz.t68) Go.Proofs.Tryz.underlying68 (by kernel_rfl) (by kernel_rfl),
  TyOK.of' (inf := Go.Proofs.Tryz.t69) Go.Proofs.Tryz.underlying69 (by kernel_rfl) (by kernel_rfl),
  TyOK.of' (inf := Go.Proofs.Tryz.t70) Go.Proofs.Tryz.underlying70 (by kernel_rfl) (by kernel_rfl),
  TyOK.of' (inf := Go.Proofs.Tryz.t72) Go.Proofs.Tryz.underlying72 (by kernel_rfl) (by kernel_rfl),
  TyOK.of' (inf := Go.Proofs.Tryz.t74) Go.Proofs.Tryz.underlying74 (by kernel_rfl) (by kernel_rfl),
  TyOK.of' (inf := Go.Proofs.Tryz.t85) Go.Proofs.Tryz.underlying85 (by kernel_rfl) (by kernel_rfl),
  TyOK.of' (inf := Go.Proofs.Tryz.t89) Go.Proofs.Tryz.underlying89 (by kernel_rfl) (by kernel_rfl),
  TyOK.of' (inf := Go.Proofs.Tryz.t97) Go.Proofs.Tryz.underlying97 (by kernel_rfl) (by kernel_rfl),
  TyOK.of' (inf := Go.Proofs.Tryz.t99) Go.Proofs.Tryz.underlying99 (by kernel_rfl) (by kernel_rfl),
  TyOK.of' (inf := Go.Proofs.Tryz.t101) Go.Proofs.Tryz.underlying101 (by kernel_rfl) (by kernel_rfl),
  TyOK.of' (inf := Go.Proofs.Tryz.t105) Go.Proofs.Tryz.underlying105 (by kernel_rfl) (by kernel_rfl),
  TyOK.of' (inf := Go.Proofs.Tryz.t107) Go.Proofs.Tryz.underlying107 (by kernel_rfl) (by kernel_rfl),
  TyOK.of' (inf := Go.Proofs.Tryz.t109) Go.Proofs.Tryz.underlying109 (by kernel_rfl) (by kernel_rfl),
  TyOK.of' (inf := Go.Proofs.Tryz.t130) Go.Proofs.Tryz.underlying130 (by kernel_rfl) (by kernel_rfl),
  TyOK.of' (inf := Go.Proofs.Tryz.t131) Go.Proofs.Tryz.underlying131 (by kernel_rfl) (by kernel_rfl),
  TyOK.of' (inf := Go.Proofs.Tryz.t140) Go.Proofs.Tryz.underlying140 (by kernel_rfl) (by kernel_rfl),
  TyOK.of' (inf := Go.Proofs.Tryz.t144) Go.Proofs.Tryz.underlying144 (by kernel_rfl) (by kernel_rfl),
  TyOK.of' (inf := Go.Proofs.Tryz.t172) Go.Proofs.Tryz.underlying172 (by kernel_rfl) (by kernel_rfl),
  TyOK.of' (inf := Go.Proofs.Tryz.t175) Go.Proofs.Tryz.underlying175 (by kernel_rfl) (by kernel_rfl),
  TyOK.of' (inf := Go.Proofs.Tryz.t177) Go.Proofs.Tryz.underlying177 (by kernel_rfl) (by kernel_rfl), trivial⟩
end Go.D

/- What is told of the types and of what functions hand back, as few. -/
set_option linter.defProp false
namespace Go.D
open Go Go.Vm Go.Proofs
def st1 := And.intro (And.intro (And.intro (And.intro (And.intro (@tab_1) (@tab_2)) (And.intro (@tab_3) (And.intro (@tab_4) (@tab_5)))) (And.intro (And.intro (@tab_6) (@tab_7)) (And.intro (@tab_9) (And.intro (@tab_22) (@tab_24))))) (And.intro (And.intro (And.intro (@tab_25) (@tab_26)) (And.intro (@tab_29) (And.intro (@tab_33) (@tab_35)))) (And.intro (And.intro (@tab_38) (@tab_44)) (And.intro (@tab_57) (And.intro (@tab_60) (@tab_64)))))) (And.intro (And.intro (And.intro (And.intro (@tab_68) (@tab_69)) (And.intro (@tab_70) (And.intro (@tab_72) (@tab_74)))) (And.intro (And.intro (@tab_85) (@tab_89)) (And.intro (@tab_97) (And.intro (@tab_99) (@tab_101))))) (And.intro (And.intro (And.intro (@tab_105) (@tab_107)) (And.intro (@tab_109) (And.intro (@tab_130) (@tab_131)))) (And.intro (And.intro (@tab_140) (@tab_144)) (And.intro (@tab_172) (And.intro (@tab_175) (@tab_177))))))
def st2 := And.intro (And.intro (And.intro (And.intro (And.intro (And.intro (@Tryz.results0) (@Tryz.results1)) (And.intro (@Tryz.results2) (And.intro (@Tryz.results3) (@Tryz.results4)))) (And.intro (And.intro (@Tryz.results5) (@Tryz.results6)) (And.intro (@Tryz.results7) (And.intro (@Tryz.results8) (@Tryz.results9))))) (And.intro (And.intro (And.intro (@Tryz.results10) (@Tryz.results11)) (And.intro (@Tryz.results12) (And.intro (@Tryz.results13) (@Tryz.results14)))) (And.intro (And.intro (@Tryz.results15) (@Tryz.results16)) (And.intro (@Tryz.results17) (And.intro (@Tryz.results18) (@Tryz.results19)))))) (And.intro (And.intro (And.intro (And.intro (@Tryz.results20) (@Tryz.results21)) (And.intro (@Tryz.results22) (And.intro (@Tryz.results23) (@Tryz.results24)))) (And.intro (And.intro (@Tryz.results25) (@Tryz.results26)) (And.intro (@Tryz.results27) (And.intro (@Tryz.results28) (@Tryz.results29))))) (And.intro (And.intro (And.intro (@Tryz.results30) (@Tryz.results31)) (And.intro (@Tryz.results32) (And.intro (@Tryz.results33) (@Tryz.results34)))) (And.intro (And.intro (@Tryz.results35) (@Tryz.results36)) (And.intro (@Tryz.results37) (And.intro (@Tryz.results38) (@Tryz.results39))))))) (And.intro (And.intro (And.intro (And.intro (And.intro (@Tryz.results40) (@Tryz.results41)) (And.intro (@Tryz.results42) (And.intro (@Tryz.results43) (@Tryz.results44)))) (And.intro (And.intro (@Tryz.results45) (@Tryz.results46)) (And.intro (@Tryz.results47) (And.intro (@Tryz.results48) (@Tryz.results49))))) (And.intro (And.intro (And.intro (@Tryz.results50) (@Tryz.results51)) (And.intro (@Tryz.results52) (And.intro (@Tryz.results53) (@Tryz.results54)))) (And.intro (And.intro (@Tryz.results55) (@Tryz.results56)) (And.intro (@Tryz.results57) (And.intro (@Tryz.results58) (@Tryz.results59)))))) (And.intro (And.intro (And.intro (And.intro (@Tryz.results60) (@Tryz.results61)) (And.intro (@Tryz.results62) (And.intro (@Tryz.results63) (@Tryz.results64)))) (And.intro (And.intro (@Tryz.results65) (@Tryz.results66)) (And.intro (@Tryz.results67) (And.intro (@Tryz.results68) (@Tryz.results69))))) (And.intro (And.intro (And.intro (@Tryz.results70) (@Tryz.results71)) (And.intro (@Tryz.results72) (And.intro (@Tryz.results73) (@Tryz.results74)))) (And.intro (And.intro (@Tryz.results75) (@Tryz.results76)) (And.intro (@Tryz.results77) (And.intro (@Tryz.results78) (@Tryz.results79)))))))
def st3 := And.intro (And.intro (And.intro (And.intro (And.intro (And.intro (@Tryz.results80) (@Tryz.results81)) (And.intro (@Tryz.results82) (And.intro (@Tryz.results83) (@Tryz.results84)))) (And.intro (And.intro (@Tryz.results85) (@Tryz.results86)) (And.intro (@Tryz.results87) (And.intro (@Tryz.results88) (@Tryz.results89))))) (And.intro (And.intro (And.intro (@Tryz.results90) (@Tryz.results91)) (And.intro (@Tryz.results92) (And.intro (@Tryz.results93) (@Tryz.results94)))) (And.intro (And.intro (@Tryz.results95) (@Tryz.results96)) (And.intro (@Tryz.results97) (And.intro (@Tryz.results98) (@Tryz.results99)))))) (And.intro (And.intro (And.intro (And.intro (@Tryz.results100) (@Tryz.results101)) (And.intro (@Tryz.results102) (And.intro (@Tryz.results103) (@Tryz.results104)))) (And.intro (And.intro (@Tryz.results105) (@Tryz.results106)) (And.intro (@Tryz.results107) (And.intro (@Tryz.results108) (@Tryz.results109))))) (And.intro (And.intro (And.intro (@Tryz.results110) (@Tryz.results111)) (And.intro (@Tryz.results112) (And.intro (@Tryz.results113) (@Tryz.results114)))) (And.intro (And.intro (@Tryz.results115) (@Tryz.results116)) (And.intro (@Tryz.results117) (And.intro (@Tryz.results118) (@Tryz.results119))))))) (And.intro (And.intro (And.intro (And.intro (And.intro (@Tryz.results120) (@Tryz.results121)) (And.intro (@Tryz.results122) (And.intro (@Tryz.results123) (@Tryz.results124)))) (And.intro (And.intro (@Tryz.results125) (@Tryz.results126)) (And.intro (@Tryz.results127) (And.intro (@Tryz.results128) (@Tryz.results129))))) (And.intro (And.intro (And.intro (@Tryz.results130) (@Tryz.results131)) (And.intro (@Tryz.results132) (And.intro (@Tryz.results133) (@Tryz.results134)))) (And.intro (And.intro (@Tryz.results135) (@Tryz.results136)) (And.intro (@Tryz.results137) (And.intro (@Tryz.results138) (@Tryz.results139)))))) (And.intro (And.intro (And.intro (And.intro (@Tryz.results140) (@Tryz.results141)) (And.intro (@Tryz.results142) (And.intro (@Tryz.results143) (@Tryz.results144)))) (And.intro (And.intro (@Tryz.results145) (@Tryz.results146)) (And.intro (@Tryz.results147) (And.intro (@Tryz.results148) (@Tryz.results149))))) (And.intro (And.intro (And.intro (@Tryz.results150) (@Tryz.results151)) (And.intro (@Tryz.results152) (And.intro (@Tryz.results153) (@Tryz.results154)))) (And.intro (And.intro (@Tryz.results155) (@Tryz.results156)) (And.intro (@Tryz.results157) (And.intro (@Tryz.results158) (@Tryz.results159)))))))
def st4 := And.intro (And.intro (And.intro (And.intro (And.intro (And.intro (@Tryz.results160) (@Tryz.results161)) (And.intro (@Tryz.results162) (And.intro (@Tryz.results163) (@Tryz.results164)))) (And.intro (And.intro (@Tryz.results165) (@Tryz.results166)) (And.intro (@Tryz.results167) (And.intro (@Tryz.results168) (@Tryz.results169))))) (And.intro (And.intro (And.intro (@Tryz.results170) (@Tryz.results171)) (And.intro (@Tryz.results172) (And.intro (@Tryz.results173) (@Tryz.results174)))) (And.intro (And.intro (@Tryz.results175) (@Tryz.results176)) (And.intro (@Tryz.results177) (And.intro (@Tryz.results178) (@Tryz.results179)))))) (And.intro (And.intro (And.intro (And.intro (@Tryz.results180) (@Tryz.results181)) (And.intro (@Tryz.results182) (And.intro (@Tryz.results183) (@Tryz.results184)))) (And.intro (And.intro (@Tryz.results185) (@Tryz.results186)) (And.intro (@Tryz.results187) (And.intro (@Tryz.results188) (@Tryz.results189))))) (And.intro (And.intro (And.intro (@Tryz.results190) (@Tryz.results191)) (And.intro (@Tryz.results192) (And.intro (@Tryz.results193) (@Tryz.results194)))) (And.intro (And.intro (@Tryz.results195) (@Tryz.results196)) (And.intro (@Tryz.results197) (And.intro (@Tryz.results198) (@Tryz.results199))))))) (And.intro (And.intro (And.intro (And.intro (And.intro (@Tryz.results200) (@Tryz.results201)) (And.intro (@Tryz.results202) (And.intro (@Tryz.results203) (@Tryz.results204)))) (And.intro (And.intro (@Tryz.results205) (@Tryz.results206)) (And.intro (@Tryz.results207) (And.intro (@Tryz.results208) (@Tryz.results209))))) (And.intro (And.intro (And.intro (@Tryz.results210) (@Tryz.results211)) (And.intro (@Tryz.results212) (And.intro (@Tryz.results213) (@Tryz.results214)))) (And.intro (And.intro (@Tryz.results215) (@Tryz.results216)) (And.intro (@Tryz.results217) (And.intro (@Tryz.results218) (@Tryz.results219)))))) (And.intro (And.intro (And.intro (And.intro (@Tryz.results220) (@Tryz.results221)) (And.intro (@Tryz.results222) (And.intro (@Tryz.results223) (@Tryz.results224)))) (And.intro (And.intro (@Tryz.results225) (@Tryz.results226)) (And.intro (@Tryz.results227) (And.intro (@Tryz.results228) (@Tryz.results229))))) (And.intro (And.intro (And.intro (@Tryz.results230) (@Tryz.results231)) (And.intro (@Tryz.results232) (And.intro (@Tryz.results233) (@Tryz.results234)))) (And.intro (And.intro (@Tryz.results235) (@Tryz.results236)) (And.intro (@Tryz.results237) (And.intro (@Tryz.results238) (@Tryz.results239)))))))
def st5 := And.intro (And.intro (@Tryz.results240) (And.intro (@Tryz.results241) (@Tryz.results242))) (And.intro (And.intro (@Tryz.results243) (@Tryz.results244)) (And.intro (@Tryz.results245) (@Tryz.results246)))
def stA := And.intro st1 (And.intro st2 (And.intro st3 (And.intro st4 (st5))))
end Go.D

/- This seat's program: the environment, the library's contracts. -/
set_option linter.unusedVariables false
set_option linter.unusedSimpArgs false
set_option maxRecDepth 100000
namespace Go.D
open Go Go.Vm Go.Proofs Go.RowKit

/-- What the package-level variables hold. -/
def gam (B : Nat) (w : World) : Prop :=
  6 ≤ B ∧ (∃ m, w.cell? ⟨4, 0, none⟩ = some (.int .i64 m)) ∧ (∃ te pe, w.cell? ⟨2, 0, none⟩ = some (.iface te pe)) ∧ (∃ te pe, w.cell? ⟨3, 0, none⟩ = some (.iface te pe)) ∧
    Lib.TabIs Tryz.prog w "strings.asciiSpace" .u8 Lib.asciiSpaceTab ∧ Lib.TabIs Tryz.prog w "internal/strconv.uint64pow10" .u64 Lib.pow10Tab

theorem gam_stable (B : Nat) (w w' : World) (h : Below B w w') (hg : gam B w) : gam B w' := by
  obtain ⟨h0, ⟨m, h1⟩, ⟨te, pe, h2⟩, ⟨te', pe', h3⟩, h4, h5⟩ := hg
  refine ⟨h0, ⟨m, (h.cell (p := ⟨4, 0, none⟩) (by simp only; omega)).trans h1⟩, ⟨te, pe, (h.cell (p := ⟨2, 0, none⟩) (by simp only; omega)).trans h2⟩, ⟨te', pe', (h.cell (p := ⟨3, 0, none⟩) (by simp only; omega)).trans h3⟩, ?_, ?_⟩
  · exact var?_below h (g := 0) (by kernel_rfl) (by omega) h4
  · exact var?_below h (g := 5) (by kernel_rfl) (by omega) h5

noncomputable def E : Env := ⟨Tryz.prog, gam, gam_stable⟩
theorem T0 : TabOK E.P tab := tab_ok

abbrev u8 (n : Int) : AV := .v (.int .u8 n)
abbrev i64 (n : Int) : AV := .v (.int .i64 n)

theorem IndexByte_ok (l : List UInt8) (c : Int) (σ : List Ent) : ACalls E 178 [.str l, u8 c] σ fun r τ => r = i64 (Lib.indexByte l c.toNat.toUInt8) ∧ τ = σ := by
  refine acalls_lib ⟨_, Tryz.func178, by kernel_rfl, by kernel_rfl⟩ fun s vs hI hΓ hr => ?_
  obtain ⟨v, w, rfl, hv, hw⟩ := repL2 hr
  rw [rep_str hv, rep_v' hw]
  refine (Tryz.strings_IndexByte ⟨⟨l⟩⟩ c s.w).mono fun e w' ⟨h1, h2⟩ => ⟨_, h1, by rw [h2]; exact Below.refl _ _, by rw [h2]; exact rep_mk_v _ _⟩

theorem HasPrefix_ok (l p : List UInt8) (σ : List Ent) : ACalls E 153 [.str l, .str p] σ fun r τ => r = boolV (Lib.hasPrefix l p) ∧ τ = σ := by
  refine acalls_lib ⟨_, Tryz.func153, by kernel_rfl, by kernel_rfl⟩ fun s vs hI hΓ hr => ?_
  obtain ⟨v, w, rfl, hv, hw⟩ := repL2 hr
  rw [rep_str hv, rep_str hw]
  refine (Tryz.strings_HasPrefix ⟨⟨l⟩⟩ ⟨⟨p⟩⟩ s.w).mono fun e w' ⟨h1, h2⟩ => ⟨_, h1, by rw [h2]; exact Below.refl _ _, by rw [h2]; exact rep_mk_v _ _⟩

theorem Count_ok (l : List UInt8) (c : UInt8) (σ : List Ent) : ACalls E 192 [.str l, .str [c]] σ fun r τ => r = i64 (Lib.countByte l c) ∧ τ = σ := by
  refine acalls_lib ⟨_, Tryz.func192, by kernel_rfl, by kernel_rfl⟩ fun s vs hI hΓ hr => ?_
  obtain ⟨v, w, rfl, hv, hw⟩ := repL2 hr
  rw [rep_str hv, rep_str hw]
  refine (Tryz.strings_Count_one ⟨⟨l⟩⟩ c s.w).mono fun e w' ⟨h1, h2⟩ => ⟨_, h1, by rw [h2]; exact Below.refl _ _, by rw [h2]; exact rep_mk_v _ _⟩

theorem Fields_ok (l : List UInt8) (σ : List Ent) (hl : l.length < 4294967281) (ha : ∀ (j : Nat) b, l[j]? = some b → b.toNat < 128) :
    ACalls E 136 [.str l] σ fun r τ => r = .sl ((Lib.fields l).map .str) ∧ τ = σ := by
  refine acalls_lib ⟨_, Tryz.func136, by kernel_rfl, by kernel_rfl⟩ fun s vs hI hΓ hr => ?_
  obtain ⟨v, rfl, hv⟩ := repL1 hr
  rw [rep_str hv]
  refine (Tryz.strings_Fields_laid ⟨⟨l⟩⟩ s.w (by simpa [ByteArray.size] using hl) ha hΓ.2.2.2.2.1).mono fun e w' ⟨h1, h2⟩ => ⟨_, h1, by rw [h2]; exact below_alloc _ _, by rw [h2]; exact rep_mk_strs hI (Lib.fields l) 9⟩

theorem slicesContains_ok (ss : List (List UInt8)) (x : List UInt8) (σ : List Ent) (hl : ss.length ≤ 9223372036854775807) :
    ACalls E 90 [.sl (ss.map .str), .str x] σ fun r τ => r = boolV (decide (x ∈ ss)) ∧ τ = σ := by
  refine acalls_lib ⟨_, Tryz.func90, by kernel_rfl, by kernel_rfl⟩ fun s vs hI hΓ hr => ?_
  obtain ⟨v, w, rfl, hv, hw⟩ := repL2 hr
  obtain ⟨a, cap, rfl, hc, hh⟩ := strs_at hv
  rw [rep_str hw]
  rcases hh with rfl | ⟨blk, off, rfl, hcell⟩
  · refine (Tryz.slices_Contains_string_empty a cap ⟨⟨x⟩⟩ s.w).mono fun e w' ⟨h1, h2⟩ => ⟨_, h1, by rw [h2]; exact Below.refl _ _, by rw [h2]; exact rep_mk_v _ _⟩
  · refine (Tryz.slices_Contains_string blk off ss.length cap (ss.map fun l => ⟨⟨l⟩⟩) ⟨⟨x⟩⟩ s.w (by simp) hl (fun j hj => ?_)).mono fun e w' ⟨h1, h2⟩ => ⟨_, h1, by rw [h2]; exact Below.refl _ _, by
      have : Lib.containsS ((ss.map fun l => (⟨⟨l⟩⟩ : ByteArray)).take ss.length) ⟨⟨x⟩⟩ = decide (x ∈ ss) := by
        rw [List.take_of_length_le (by simp)]
        rw [Bool.eq_iff_iff, Lib.containsS_iff]
        simp
      rw [this]; exact rep_mk_v _ _⟩
    simp at hj
    rw [hcell j ss[j] (by simp [hj])]
    simp [hj]

theorem ParseInt_ok (l : List UInt8) (v : Int) (hl : l.length ≤ 281474976710656) (h : Lib.parseIntB 64 l = .ok v) (σ : List Ent) :
    ACalls E 148 [.str l, i64 10, i64 64] σ fun r τ => r = .tup [i64 v, .v .nilIface] ∧ τ = σ := by
  refine acalls_lib ⟨_, Tryz.func148, by kernel_rfl, by kernel_rfl⟩ fun s vs hI hΓ hr => ?_
  obtain ⟨x, y, z, rfl, hx, hy, hz⟩ := repL3 hr
  rw [rep_str hx, rep_v' hy, rep_v' hz]
  refine (Tryz.strconv_ParseInt_10_at64_ok ⟨⟨l⟩⟩ (by simp [ByteArray.size]; omega) v h s.w).mono fun e w' ⟨h1, h2⟩ => ⟨_, h1, ?_, rep_mk_tup2 (rep_mk_v _ _) (rep_mk_v _ _)⟩
  rcases h2 with rfl | ⟨t, rfl⟩
  · exact Below.refl _ _
  · exact Joins.below_bytesWorld _ _ _ _ (Nat.le_refl _)

/-- .. of a numeral that no int64 holds: an error. -/
theorem ParseInt_range (l : List UInt8) (hl : l.length ≤ 281474976710656) (h : Lib.parseIntB 64 l = .range) (σ : List Ent) :
    ACalls E 148 [.str l, i64 10, i64 64] σ fun r τ => (∃ x, r = .tup [i64 (Lib.intSat 64 l), .ifc 196 x]) ∧ τ = σ := by
  refine acalls_lib' (R := fun r => ∃ x, r = .tup [i64 (Lib.intSat 64 l), .ifc 196 x]) ⟨_, Tryz.func148, by kernel_rfl, by kernel_rfl⟩ fun s vs hI hΓ hr => ?_
  obtain ⟨x, y, z, rfl, hx, hy, hz⟩ := repL3 hr
  rw [rep_str hx, rep_v' hy, rep_v' hz]
  obtain ⟨te, pe, he⟩ := hΓ.2.2.2.1
  refine (Tryz.strconv_ParseInt_10_at64_range ⟨⟨l⟩⟩ (by simpa [ByteArray.size] using hl) h _ s.w he (.inr ⟨_, _, rfl⟩)).mono fun e w' ⟨N, h1, h2, h3, h4⟩ => ⟨_, .tup [i64 (Lib.intSat 64 l), .ifc 196 (.v (.pointer (some ⟨N, 0, none⟩)))], h1, h4, ?_, _, rfl⟩
  refine rep_mk_tup2 (rep_mk_v _ _) ?_
  unfold Rep
  exact ⟨_, rfl, rep_mk_v _ _⟩
end Go.D

/- Small functions of the token readers. -/
set_option linter.unusedVariables false
set_option linter.unusedSimpArgs false
set_option maxRecDepth 100000
namespace Go.D
open Go Go.Vm Go.Proofs Go.RowKit

theorem toU8 (b : UInt8) : ((b.toNat : Int)).toNat.toUInt8 = b := by simp

theorem indexByte_mem : ∀ (l : List UInt8) (c : UInt8), 0 ≤ Lib.indexByte l c ↔ c ∈ l
  | [], c => by simp [Lib.indexByte]
  | b :: l, c => by
    have ih := indexByte_mem l c
    have hge := Lib.indexByte_ge l c
    unfold Lib.indexByte
    by_cases h : b = c
    · simp [h]
    · have h' : c ≠ b := fun e => h e.symm
      simp only [beq_iff_eq, h, if_false, List.mem_cons, h', false_or, ← ih]
      split <;> omega

theorem between_ok (a b c : Int) (σ : List Ent) : ACalls E 135 [u8 a, u8 b, u8 c] σ fun r τ => r = boolV (btw a b c) ∧ τ = σ := by
  refine xacalls T0 .drop [] Tryz.func135 rfl (by kernel_rfl) (by kernel_rfl) (by simp [Tryz.ntmps135]) ?_
  unfold btw
  by_cases h : a ≤ b <;> (simp only [h, (vmA), Nat.reduceEqDiff, reduceIte, Nat.reduceAdd, Int.reduceToNat, Int.reduceLE, Int.reduceLT, Int.reduceEq, Int.reduceNe, Int.reduceAdd, Int.reduceSub, Int.reduceNeg, Nat.reduceLT, Nat.reduceLeDiff, Nat.reduceBEq, undef, (stA), Nat.reduceMul]; try simp (disch := omega) only [(vmp)])

theorem isDigit_ok (b : Int) (σ : List Ent) : ACalls E 156 [u8 b] σ fun r τ => r = boolV (btw 48 b 57) ∧ τ = σ := by
  refine xacalls T0 .drop [] Tryz.func156 rfl (by kernel_rfl) (by kernel_rfl) (by simp [Tryz.ntmps156]) ?_
  (simp only [(vmA), Nat.reduceEqDiff, reduceIte, Nat.reduceAdd, Int.reduceToNat, Int.reduceLE, Int.reduceLT, Int.reduceEq, Int.reduceNe, Int.reduceAdd, Int.reduceSub, Int.reduceNeg, Nat.reduceLT, Nat.reduceLeDiff, Nat.reduceBEq, undef, (stA), Nat.reduceMul]; try simp (disch := omega) only [(vmp)])
  refine xWait.go (between_ok _ _ _ _) ?_
  (simp only [(vmA), Nat.reduceEqDiff, reduceIte, Nat.reduceAdd, Int.reduceToNat, Int.reduceLE, Int.reduceLT, Int.reduceEq, Int.reduceNe, Int.reduceAdd, Int.reduceSub, Int.reduceNeg, Nat.reduceLT, Nat.reduceLeDiff, Nat.reduceBEq, undef, (stA), Nat.reduceMul]; try simp (disch := omega) only [(vmp)])

theorem isPart_ok (b : Int) (σ : List Ent) : ACalls E 155 [u8 b] σ fun r τ => r = boolV (isPart b) ∧ τ = σ := by
  refine xacalls T0 .drop [] Tryz.func155 rfl (by kernel_rfl) (by kernel_rfl) (by simp [Tryz.ntmps155]) ?_
  unfold isPart
  (simp only [(vmA), Nat.reduceEqDiff, reduceIte, Nat.reduceAdd, Int.reduceToNat, Int.reduceLE, Int.reduceLT, Int.reduceEq, Int.reduceNe, Int.reduceAdd, Int.reduceSub, Int.reduceNeg, Nat.reduceLT, Nat.reduceLeDiff, Nat.reduceBEq, undef, (stA), Nat.reduceMul]; try simp (disch := omega) only [(vmp)])
  refine xWait.go (between_ok _ _ _ _) ?_
  cases h1 : btw 97 b 122 <;> (simp only [(vmA), Nat.reduceEqDiff, reduceIte, Nat.reduceAdd, Int.reduceToNat, Int.reduceLE, Int.reduceLT, Int.reduceEq, Int.reduceNe, Int.reduceAdd, Int.reduceSub, Int.reduceNeg, Nat.reduceLT, Nat.reduceLeDiff, Nat.reduceBEq, undef, (stA), Nat.reduceMul]; try simp (disch := omega) only [(vmp)])
  refine xWait.go (between_ok _ _ _ _) ?_
  cases h2 : btw 65 b 90 <;> (simp only [(vmA), Nat.reduceEqDiff, reduceIte, Nat.reduceAdd, Int.reduceToNat, Int.reduceLE, Int.reduceLT, Int.reduceEq, Int.reduceNe, Int.reduceAdd, Int.reduceSub, Int.reduceNeg, Nat.reduceLT, Nat.reduceLeDiff, Nat.reduceBEq, undef, (stA), Nat.reduceMul]; try simp (disch := omega) only [(vmp)])
  refine xWait.go (isDigit_ok _ _) ?_
  cases h3 : btw 48 b 57 <;> (simp only [(vmA), Nat.reduceEqDiff, reduceIte, Nat.reduceAdd, Int.reduceToNat, Int.reduceLE, Int.reduceLT, Int.reduceEq, Int.reduceNe, Int.reduceAdd, Int.reduceSub, Int.reduceNeg, Nat.reduceLT, Nat.reduceLeDiff, Nat.reduceBEq, undef, (stA), Nat.reduceMul]; try simp (disch := omega) only [(vmp)])
  by_cases h4 : b = 95 <;> (simp only [h4, (vmA), Nat.reduceEqDiff, reduceIte, Nat.reduceAdd, Int.reduceToNat, Int.reduceLE, Int.reduceLT, Int.reduceEq, Int.reduceNe, Int.reduceAdd, Int.reduceSub, Int.reduceNeg, Nat.reduceLT, Nat.reduceLeDiff, Nat.reduceBEq, undef, (stA), Nat.reduceMul]; try simp (disch := omega) only [(vmp)])

theorem word_ok (l : List UInt8) (hl : l.length ≤ 9223372036854775807) (σ : List Ent) : ACalls E 145 [.str l] σ fun r τ => r = i64 (word l) ∧ τ = σ := by
  refine xacalls T0 .drop [] Tryz.func145 rfl (by kernel_rfl) (by kernel_rfl) (by simp [Tryz.ntmps145]) ?_
  (simp only [(vmA), Nat.reduceEqDiff, reduceIte, Nat.reduceAdd, Int.reduceToNat, Int.reduceLE, Int.reduceLT, Int.reduceEq, Int.reduceNe, Int.reduceAdd, Int.reduceSub, Int.reduceNeg, Nat.reduceLT, Nat.reduceLeDiff, Nat.reduceBEq, undef, (stA), Nat.reduceMul]; try simp (disch := omega) only [(vmp)])
  refine xloop (α := Nat) T0 (fun i => [(0, .str l), (3, i64 i)]) (fun _ => σ) (fun _ => []) (fun i => i ≤ l.length ∧ ∀ x ∈ l.take i, pB isPart x = true) (fun i => l.length - i) (by kernel_rfl) ⟨0, by simp, by (simp only [(vmA), Nat.reduceEqDiff, reduceIte, Nat.reduceAdd, Int.reduceToNat, Int.reduceLE, Int.reduceLT, Int.reduceEq, Int.reduceNe, Int.reduceAdd, Int.reduceSub, Int.reduceNeg, Nat.reduceLT, Nat.reduceLeDiff, Nat.reduceBEq, undef, (stA), Nat.reduceMul, Int.natCast_zero]; try simp (disch := omega) only [(vmp)]), rfl, rfl⟩ ?_
  rintro i ⟨hi, hall⟩
  by_cases h : (i : Int) < l.length
  · (simp only [h, (vmA), Nat.reduceEqDiff, reduceIte, Nat.reduceAdd, Int.reduceToNat, Int.reduceLE, Int.reduceLT, Int.reduceEq, Int.reduceNe, Int.reduceAdd, Int.reduceSub, Int.reduceNeg, Nat.reduceLT, Nat.reduceLeDiff, Nat.reduceBEq, undef, (stA), Nat.reduceMul]; try simp (disch := omega) only [(vmp)])
    refine xWait.go (isPart_ok _ _) ?_
    cases hp : isPart (l.getD i 0).toNat
    · (simp only [(vmA), Nat.reduceEqDiff, reduceIte, Nat.reduceAdd, Int.reduceToNat, Int.reduceLE, Int.reduceLT, Int.reduceEq, Int.reduceNe, Int.reduceAdd, Int.reduceSub, Int.reduceNeg, Nat.reduceLT, Nat.reduceLeDiff, Nat.reduceBEq, undef, (stA), Nat.reduceMul]; try simp (disch := omega) only [(vmp)])
      exact congrArg (fun n : Nat => i64 n) (takeWhile_len hi hall fun _ => hp).symm
    · (simp only [(vmA), Nat.reduceEqDiff, reduceIte, Nat.reduceAdd, Int.reduceToNat, Int.reduceLE, Int.reduceLT, Int.reduceEq, Int.reduceNe, Int.reduceAdd, Int.reduceSub, Int.reduceNeg, Nat.reduceLT, Nat.reduceLeDiff, Nat.reduceBEq, undef, (stA), Nat.reduceMul]; try simp (disch := omega) only [(vmp)])
      exact ⟨i + 1, ⟨by omega, take_succ_all (by omega) hall hp⟩, by omega, rfl⟩
  · (simp only [h, (vmA), Nat.reduceEqDiff, reduceIte, Nat.reduceAdd, Int.reduceToNat, Int.reduceLE, Int.reduceLT, Int.reduceEq, Int.reduceNe, Int.reduceAdd, Int.reduceSub, Int.reduceNeg, Nat.reduceLT, Nat.reduceLeDiff, Nat.reduceBEq, undef, (stA), Nat.reduceMul]; try simp (disch := omega) only [(vmp)])
    exact congrArg (fun n : Nat => i64 n) (takeWhile_len hi hall fun hh => absurd (by omega) h).symm
end Go.D

/- Digits; names. -/
set_option linter.unusedVariables false
set_option linter.unusedSimpArgs false
set_option maxRecDepth 100000
namespace Go.D
open Go Go.Vm Go.Proofs Go.RowKit

theorem digits_ok (l : List UInt8) (hl : l.length ≤ 9223372036854775807) (σ : List Ent) : ACalls E 147 [.str l] σ fun r τ => r = i64 (digits l) ∧ τ = σ := by
  refine xacalls T0 .drop [] Tryz.func147 rfl (by kernel_rfl) (by kernel_rfl) (by simp [Tryz.ntmps147]) ?_
  (simp only [(vmA), Nat.reduceEqDiff, reduceIte, Nat.reduceAdd, Int.reduceToNat, Int.reduceLE, Int.reduceLT, Int.reduceEq, Int.reduceNe, Int.reduceAdd, Int.reduceSub, Int.reduceNeg, Nat.reduceLT, Nat.reduceLeDiff, Nat.reduceBEq, undef, (stA), Nat.reduceMul]; try simp (disch := omega) only [(vmp)])
  refine xGuard.cut (.seq (.cut (fun ts g l' => Sub ts [(0, .str l), (3, i64 (negN l))] ∧ g = σ ∧ l' = []) ?_)) ?_
  · rintro ts g l' ⟨hsub, rfl, rfl⟩
    simp only [sub_cons, sub_nil, and_true] at hsub
    obtain ⟨h0, h3⟩ := hsub
    have hn := negN_le l
    by_cases h4 : (negN l : Int) = l.length
    · have : negN l = l.length := by omega
      (simp only [h0, h3, h4, (vmA), Nat.reduceEqDiff, reduceIte, Nat.reduceAdd, Int.reduceToNat, Int.reduceLE, Int.reduceLT, Int.reduceEq, Int.reduceNe, Int.reduceAdd, Int.reduceSub, Int.reduceNeg, Nat.reduceLT, Nat.reduceLeDiff, Nat.reduceBEq, undef, (stA), Nat.reduceMul]; try simp (disch := omega) only [(vmp)])
      rw [digits, if_pos this]; rfl
    · have h5 : ¬ negN l = l.length := by omega
      (simp only [h0, h3, h4, (vmA), Nat.reduceEqDiff, reduceIte, Nat.reduceAdd, Int.reduceToNat, Int.reduceLE, Int.reduceLT, Int.reduceEq, Int.reduceNe, Int.reduceAdd, Int.reduceSub, Int.reduceNeg, Nat.reduceLT, Nat.reduceLeDiff, Nat.reduceBEq, undef, (stA), Nat.reduceMul]; try simp (disch := omega) only [(vmp)])
      refine ⟨by omega, ?_⟩
      refine xWait.go (isDigit_ok _ _) ?_
      rw [digits, if_neg h5]
      cases h6 : btw 48 (l.getD (negN l) 0).toNat 57
      · (simp only [h0, h3, (vmA), Nat.reduceEqDiff, reduceIte, Nat.reduceAdd, Int.reduceToNat, Int.reduceLE, Int.reduceLT, Int.reduceEq, Int.reduceNe, Int.reduceAdd, Int.reduceSub, Int.reduceNeg, Nat.reduceLT, Nat.reduceLeDiff, Nat.reduceBEq, undef, (stA), Nat.reduceMul, isDig, h6]; try simp (disch := omega) only [(vmp)])
      · (simp only [h0, h3, (vmA), Nat.reduceEqDiff, reduceIte, Nat.reduceAdd, Int.reduceToNat, Int.reduceLE, Int.reduceLT, Int.reduceEq, Int.reduceNe, Int.reduceAdd, Int.reduceSub, Int.reduceNeg, Nat.reduceLT, Nat.reduceLeDiff, Nat.reduceBEq, undef, (stA), Nat.reduceMul, isDig, h6]; try simp (disch := omega) only [(vmp)])
        refine ⟨by omega, ?_⟩
        by_cases h7 : ((l.getD (negN l) 0).toNat : Int) = 48
        · (simp only [h0, h3, h7, (vmA), Nat.reduceEqDiff, reduceIte, Nat.reduceAdd, Int.reduceToNat, Int.reduceLE, Int.reduceLT, Int.reduceEq, Int.reduceNe, Int.reduceAdd, Int.reduceSub, Int.reduceNeg, Nat.reduceLT, Nat.reduceLeDiff, Nat.reduceBEq, undef, (stA), Nat.reduceMul]; try simp (disch := omega) only [(vmp)])
        · (simp only [h0, h3, h7, (vmA), Nat.reduceEqDiff, reduceIte, Nat.reduceAdd, Int.reduceToNat, Int.reduceLE, Int.reduceLT, Int.reduceEq, Int.reduceNe, Int.reduceAdd, Int.reduceSub, Int.reduceNeg, Nat.reduceLT, Nat.reduceLeDiff, Nat.reduceBEq, undef, (stA), Nat.reduceMul]; try simp (disch := omega) only [(vmp)])
          refine xloop (α := Nat) T0 (fun i => [(0, .str l), (3, i64 (negN l + i : Nat))]) (fun _ => g) (fun _ => []) (fun i => i ≤ (l.drop (negN l)).length ∧ ∀ x ∈ (l.drop (negN l)).take i, pB isDig x = true) (fun i => l.length - i) (by kernel_rfl)
            ⟨0, by simp, by (simp only [h0, h3, (vmA), Nat.reduceEqDiff, reduceIte, Nat.reduceAdd, Int.reduceToNat, Int.reduceLE, Int.reduceLT, Int.reduceEq, Int.reduceNe, Int.reduceAdd, Int.reduceSub, Int.reduceNeg, Nat.reduceLT, Nat.reduceLeDiff, Nat.reduceBEq, undef, (stA), Nat.reduceMul]; try simp (disch := omega) only [(vmp)]), rfl, rfl⟩ ?_
          rintro i ⟨hi, hall⟩
          have hd : (l.drop (negN l)).getD i 0 = l.getD (negN l + i) 0 := by simp [List.getD]
          have hlen : (l.drop (negN l)).length = l.length - negN l := List.length_drop
          by_cases h8 : ((negN l + i : Nat) : Int) < l.length
          · (simp only [h8, (vmA), Nat.reduceEqDiff, reduceIte, Nat.reduceAdd, Int.reduceToNat, Int.reduceLE, Int.reduceLT, Int.reduceEq, Int.reduceNe, Int.reduceAdd, Int.reduceSub, Int.reduceNeg, Nat.reduceLT, Nat.reduceLeDiff, Nat.reduceBEq, undef, (stA), Nat.reduceMul]; try simp (disch := omega) only [(vmp)])
            refine xWait.go (isDigit_ok _ _) ?_
            cases hp : btw 48 (l.getD (negN l + i) 0).toNat 57
            · (simp only [(vmA), Nat.reduceEqDiff, reduceIte, Nat.reduceAdd, Int.reduceToNat, Int.reduceLE, Int.reduceLT, Int.reduceEq, Int.reduceNe, Int.reduceAdd, Int.reduceSub, Int.reduceNeg, Nat.reduceLT, Nat.reduceLeDiff, Nat.reduceBEq, undef, (stA), Nat.reduceMul]; try simp (disch := omega) only [(vmp)])
              rw [takeWhile_len hi hall fun _ => by rw [hd]; exact hp]
            · (simp only [(vmA), Nat.reduceEqDiff, reduceIte, Nat.reduceAdd, Int.reduceToNat, Int.reduceLE, Int.reduceLT, Int.reduceEq, Int.reduceNe, Int.reduceAdd, Int.reduceSub, Int.reduceNeg, Nat.reduceLT, Nat.reduceLeDiff, Nat.reduceBEq, undef, (stA), Nat.reduceMul]; try simp (disch := omega) only [(vmp)])
              exact ⟨i + 1, ⟨by omega, take_succ_all (by omega) hall (by rw [hd]; exact hp)⟩, by omega, rfl⟩
          · (simp only [h8, (vmA), Nat.reduceEqDiff, reduceIte, Nat.reduceAdd, Int.reduceToNat, Int.reduceLE, Int.reduceLT, Int.reduceEq, Int.reduceNe, Int.reduceAdd, Int.reduceSub, Int.reduceNeg, Nat.reduceLT, Nat.reduceLeDiff, Nat.reduceBEq, undef, (stA), Nat.reduceMul]; try simp (disch := omega) only [(vmp)])
            rw [takeWhile_len hi hall fun hh => absurd (by omega) h8]
  · by_cases h1 : (1 : Int) < l.length
    · (simp only [h1, (vmA), Nat.reduceEqDiff, reduceIte, Nat.reduceAdd, Int.reduceToNat, Int.reduceLE, Int.reduceLT, Int.reduceEq, Int.reduceNe, Int.reduceAdd, Int.reduceSub, Int.reduceNeg, Nat.reduceLT, Nat.reduceLeDiff, Nat.reduceBEq, undef, (stA), Nat.reduceMul]; try simp (disch := omega) only [(vmp)])
      refine ⟨by omega, ?_⟩
      by_cases h2 : ((l.getD 0 0).toNat : Int) = 45
      · (simp only [h2, (vmA), Nat.reduceEqDiff, reduceIte, Nat.reduceAdd, Int.reduceToNat, Int.reduceLE, Int.reduceLT, Int.reduceEq, Int.reduceNe, Int.reduceAdd, Int.reduceSub, Int.reduceNeg, Nat.reduceLT, Nat.reduceLeDiff, Nat.reduceBEq, undef, (stA), Nat.reduceMul]; try simp (disch := omega) only [(vmp)])
        refine ⟨by omega, ?_⟩
        refine xWait.go (between_ok _ _ _ _) ?_
        cases h3 : btw 49 (l.getD 1 0).toNat 57 <;> (simp only [(vmA), Nat.reduceEqDiff, reduceIte, Nat.reduceAdd, Int.reduceToNat, Int.reduceLE, Int.reduceLT, Int.reduceEq, Int.reduceNe, Int.reduceAdd, Int.reduceSub, Int.reduceNeg, Nat.reduceLT, Nat.reduceLeDiff, Nat.reduceBEq, undef, (stA), Nat.reduceMul]; try simp (disch := omega) only [(vmp)])
        · have : negN l = 0 := by
            have : negB l = false := by simp only [negB, h3, Bool.and_false]
            simp [negN, this]
          rw [this]; rfl
        · have : negN l = 1 := by
            have : negB l = true := by simp only [negB, h1, h2, h3, decide_true, Bool.and_self]
            simp [negN, this]
          rw [this]; rfl
      · (simp only [h2, (vmA), Nat.reduceEqDiff, reduceIte, Nat.reduceAdd, Int.reduceToNat, Int.reduceLE, Int.reduceLT, Int.reduceEq, Int.reduceNe, Int.reduceAdd, Int.reduceSub, Int.reduceNeg, Nat.reduceLT, Nat.reduceLeDiff, Nat.reduceBEq, undef, (stA), Nat.reduceMul]; try simp (disch := omega) only [(vmp)])
        have : negN l = 0 := by
          have : negB l = false := by simp only [negB, h2, decide_false, Bool.false_and, Bool.and_false]
          simp [negN, this]
        rw [this]; rfl
    · (simp only [h1, (vmA), Nat.reduceEqDiff, reduceIte, Nat.reduceAdd, Int.reduceToNat, Int.reduceLE, Int.reduceLT, Int.reduceEq, Int.reduceNe, Int.reduceAdd, Int.reduceSub, Int.reduceNeg, Nat.reduceLT, Nat.reduceLeDiff, Nat.reduceBEq, undef, (stA), Nat.reduceMul]; try simp (disch := omega) only [(vmp)])
      have : negN l = 0 := by
        have : negB l = false := by simp only [negB, h1, decide_false, Bool.false_and, Bool.and_false]
        simp [negN, this]
      rw [this]; rfl
end Go.D

/- Key words; signs. -/
set_option linter.unusedVariables false
set_option linter.unusedSimpArgs false
set_option maxRecDepth 100000
namespace Go.D
open Go Go.Vm Go.Proofs Go.RowKit

theorem fields_keys : Lib.fields keysText = keys := by kernel_rfl
theorem fields_signs : Lib.fields signsText = signs := by kernel_rfl
/-- A text cut at each space. -/
def spl : List UInt8 → List (List UInt8)
  | [] => [[]]
  | b :: l => if b = 32 then [] :: spl l else match spl l with
    | p :: r => (b :: p) :: r
    | [] => [[b]]
theorem index_none : ∀ {s : List UInt8}, (32 : UInt8) ∉ s → Lib.index s [32] = -1
  | [], _ => rfl
  | b :: l, h => by
    have h1 : b ≠ 32 := fun e => h (by simp [e])
    have h2 : (32 : UInt8) ∉ l := fun e => h (by simp [e])
    unfold Lib.index
    rw [index_none h2]
    simp [List.isPrefixOf, Ne.symm h1]
theorem index_some : ∀ {s : List UInt8}, (32 : UInt8) ∈ s → 0 ≤ Lib.index s [32]
  | [], h => by simp at h
  | b :: l, h => by
    unfold Lib.index
    by_cases h1 : b = 32
    · simp [List.isPrefixOf, h1]
    · have h2 : (32 : UInt8) ∈ l := by rcases List.mem_cons.1 h with e | e; exact absurd e.symm h1; exact e
      have := index_some h2
      have h3 : ¬ Lib.index l [32] = -1 := by omega
      simp [List.isPrefixOf, Ne.symm h1, h3]
      omega
theorem splitK_spl : ∀ s : List UInt8, Lib.splitK [32] 0 (s.count 32) s = spl s
  | [] => rfl
  | b :: l => by
    have ih := splitK_spl l
    by_cases h1 : b = 32
    · subst h1
      rw [List.count_cons_self, Lib.splitK, spl, if_pos rfl, ← ih]
      have : Lib.index (32 :: l) [32] = 0 := by unfold Lib.index; simp [List.isPrefixOf]
      simp [this]
    · rw [List.count_cons_of_ne h1, spl, if_neg h1]
      cases hc : l.count 32 with
      | zero => rw [hc] at ih; rw [← ih]; rfl
      | succ k =>
        have hm : (32 : UInt8) ∈ l := List.count_pos_iff.1 (by omega)
        have h0 := index_some hm
        have h3 : ¬ Lib.index l [32] = -1 := by omega
        have hi : Lib.index (b :: l) [32] = Lib.index l [32] + 1 := by
          conv => lhs; unfold Lib.index
          simp [List.isPrefixOf, Ne.symm h1, h3]
        have h4 : ¬ Lib.index l [32] + 1 = -1 := by omega
        have h5 : (Lib.index l [32] + 1).toNat = (Lib.index l [32]).toNat + 1 := by omega
        rw [hc, Lib.splitK] at ih
        rw [Lib.splitK, hi]
        simp only [beq_iff_eq, h3, h4, if_false, h5, List.length_cons, List.length_nil, Nat.add_zero] at ih ⊢
        rw [← ih]
        simp
theorem spl_keys : spl keysText = keys := by kernel_rfl
theorem split_keys : (Lib.splitB ⟨#[32]⟩ 0 (Lib.countB ⟨⟨keysText⟩⟩ ⟨#[32]⟩) ⟨⟨keysText⟩⟩).map (fun b => b.data.toList) = keys := by
  rw [Lib.splitB_data, ← spl_keys, ← splitK_spl]
  have : Lib.countB ⟨⟨keysText⟩⟩ ⟨#[32]⟩ = keysText.count 32 := Lib.count_one 32 keysText
  rw [this]
theorem ascii_keys : ∀ (j : Nat) b, keysText[j]? = some b → b.toNat < 128 := fun j b h => by
  have : keysText.all (fun b => decide (b.toNat < 128)) = true := by kernel_rfl
  simpa using List.all_eq_true.1 this b (List.mem_of_getElem? h)
theorem ascii_signs : ∀ (j : Nat) b, signsText[j]? = some b → b.toNat < 128 := fun j b h => by
  have : signsText.all (fun b => decide (b.toNat < 128)) = true := by kernel_rfl
  simpa using List.all_eq_true.1 this b (List.mem_of_getElem? h)

theorem isKey_ok (l : List UInt8) (hl : l.length ≤ 9223372036854775807) (σ : List Ent) : ACalls E 146 [.str l] σ fun r τ => r = boolV (decide (l ∈ keys)) ∧ τ = σ := by
  refine xacalls T0 .drop [] Tryz.func146 rfl (by kernel_rfl) (by kernel_rfl) (by simp [Tryz.ntmps146]) ?_
  (simp only [(vmA), Nat.reduceEqDiff, reduceIte, Nat.reduceAdd, Int.reduceToNat, Int.reduceLE, Int.reduceLT, Int.reduceEq, Int.reduceNe, Int.reduceAdd, Int.reduceSub, Int.reduceNeg, Nat.reduceLT, Nat.reduceLeDiff, Nat.reduceBEq, undef, (stA), Nat.reduceMul]; try simp (disch := omega) only [(vmp)])
  refine xWait.go (Fields_ok keysText σ (by decide) ascii_keys) ?_
  rw [fields_keys]
  (simp only [(vmA), Nat.reduceEqDiff, reduceIte, Nat.reduceAdd, Int.reduceToNat, Int.reduceLE, Int.reduceLT, Int.reduceEq, Int.reduceNe, Int.reduceAdd, Int.reduceSub, Int.reduceNeg, Nat.reduceLT, Nat.reduceLeDiff, Nat.reduceBEq, undef, (stA), Nat.reduceMul]; try simp (disch := omega) only [(vmp)])
  refine xWait.go (slicesContains_ok keys l σ (by decide)) ?_
  (simp only [(vmA), Nat.reduceEqDiff, reduceIte, Nat.reduceAdd, Int.reduceToNat, Int.reduceLE, Int.reduceLT, Int.reduceEq, Int.reduceNe, Int.reduceAdd, Int.reduceSub, Int.reduceNeg, Nat.reduceLT, Nat.reduceLeDiff, Nat.reduceBEq, undef, (stA), Nat.reduceMul]; try simp (disch := omega) only [(vmp)])

theorem splitKeys_ok (σ : List Ent) : ACalls E 185 [.str keysText, .str [32]] σ fun r τ => r = .sl (keys.map .str) ∧ τ = σ := by
  refine acalls_lib ⟨_, Tryz.func185, by kernel_rfl, by kernel_rfl⟩ fun s vs hI hΓ hr => ?_
  obtain ⟨v, w, rfl, hv, hw⟩ := repL2 hr
  rw [rep_str hv, rep_str hw]
  obtain ⟨m, hm⟩ := hΓ.2.1
  refine (Tryz.strings_Split ⟨⟨keysText⟩⟩ ⟨⟨[32]⟩⟩ m s.w (by decide) hm (by decide)).mono fun e w' ⟨h1, h2⟩ => ⟨_, h1, by rw [h2]; exact below_alloc _ _, ?_⟩
  have hk := split_keys
  have hm2 : ∀ bs : List ByteArray, bs.map Value.string = (bs.map fun b => b.data.toList).map fun l => Value.string ⟨⟨l⟩⟩ := fun bs => by simp
  have hlen : Lib.countB ⟨⟨keysText⟩⟩ ⟨⟨[32]⟩⟩ + 1 = keys.length := by
    have : Lib.countB ⟨⟨keysText⟩⟩ ⟨#[32]⟩ = keysText.count 32 := Lib.count_one 32 keysText
    rw [this]; decide
  rw [h2, hm2, hlen]
  have := rep_mk_strs hI keys 9
  rw [← hk] at this ⊢
  exact this

theorem getD_str {ss : List (List UInt8)} {i : Nat} (h : i < ss.length) : (ss.map AV.str).getD i .un = .str (ss.getD i []) := by
  simp [List.getD, h]

theorem IsKey_ok (l : List UInt8) (hl : l.length ≤ 9223372036854775807) (σ : List Ent) : ACalls E 176 [.str l] σ fun r τ => r = boolV (decide (l ∈ keys)) ∧ τ = σ := by
  refine xacalls T0 .drop [] Tryz.func176 rfl (by kernel_rfl) (by kernel_rfl) (by simp [Tryz.ntmps176]) ?_
  (simp only [(vmA), Nat.reduceEqDiff, reduceIte, Nat.reduceAdd, Int.reduceToNat, Int.reduceLE, Int.reduceLT, Int.reduceEq, Int.reduceNe, Int.reduceAdd, Int.reduceSub, Int.reduceNeg, Nat.reduceLT, Nat.reduceLeDiff, Nat.reduceBEq, undef, (stA), Nat.reduceMul]; try simp (disch := omega) only [(vmp)])
  refine xWait.go (splitKeys_ok σ) ?_
  have hk : keys.length < 1000 := by decide
  (simp only [(vmA), Nat.reduceEqDiff, reduceIte, Nat.reduceAdd, Int.reduceToNat, Int.reduceLE, Int.reduceLT, Int.reduceEq, Int.reduceNe, Int.reduceAdd, Int.reduceSub, Int.reduceNeg, Nat.reduceLT, Nat.reduceLeDiff, Nat.reduceBEq, undef, (stA), Nat.reduceMul]; try simp (disch := omega) only [(vmp)])
  refine xloop (α := Nat) T0 (fun i => [(0, .str l), (3, .sl (keys.map .str)), (4, i64 i)]) (fun _ => σ) (fun _ => []) (fun i => i ≤ keys.length ∧ l ∉ keys.take i) (fun i => keys.length - i) (by kernel_rfl) ⟨0, by simp, by (simp only [(vmA), Nat.reduceEqDiff, reduceIte, Nat.reduceAdd, Int.reduceToNat, Int.reduceLE, Int.reduceLT, Int.reduceEq, Int.reduceNe, Int.reduceAdd, Int.reduceSub, Int.reduceNeg, Nat.reduceLT, Nat.reduceLeDiff, Nat.reduceBEq, undef, (stA), Nat.reduceMul, Int.natCast_zero]; try simp (disch := omega) only [(vmp)]), rfl, rfl⟩ ?_
  rintro i ⟨hi, hall⟩
  by_cases h : (i : Int) < keys.length
  · have hlt : i < keys.length := by omega
    (simp only [h, (vmA), Nat.reduceEqDiff, reduceIte, Nat.reduceAdd, Int.reduceToNat, Int.reduceLE, Int.reduceLT, Int.reduceEq, Int.reduceNe, Int.reduceAdd, Int.reduceSub, Int.reduceNeg, Nat.reduceLT, Nat.reduceLeDiff, Nat.reduceBEq, undef, (stA), Nat.reduceMul, List.length_map, isEl, getD_str hlt]; try simp (disch := omega) only [(vmp)])
    by_cases h2 : keys.getD i [] = l
    · (simp only [h2, (vmA), Nat.reduceEqDiff, reduceIte, Nat.reduceAdd, Int.reduceToNat, Int.reduceLE, Int.reduceLT, Int.reduceEq, Int.reduceNe, Int.reduceAdd, Int.reduceSub, Int.reduceNeg, Nat.reduceLT, Nat.reduceLeDiff, Nat.reduceBEq, undef, (stA), Nat.reduceMul]; try simp (disch := omega) only [(vmp)])
      have : l ∈ keys := by rw [← h2]; simp [hlt]
      simp [this]
    · (simp only [h2, (vmA), Nat.reduceEqDiff, reduceIte, Nat.reduceAdd, Int.reduceToNat, Int.reduceLE, Int.reduceLT, Int.reduceEq, Int.reduceNe, Int.reduceAdd, Int.reduceSub, Int.reduceNeg, Nat.reduceLT, Nat.reduceLeDiff, Nat.reduceBEq, undef, (stA), Nat.reduceMul]; try simp (disch := omega) only [(vmp)])
      refine ⟨i + 1, ⟨by omega, fun hm => ?_⟩, by omega, rfl⟩
      rw [List.take_add_one, List.mem_append] at hm
      rcases hm with hm | hm
      · exact hall hm
      · simp [hlt] at hm; exact h2 (by simp [hlt, hm])
  · (simp only [h, (vmA), Nat.reduceEqDiff, reduceIte, Nat.reduceAdd, Int.reduceToNat, Int.reduceLE, Int.reduceLT, Int.reduceEq, Int.reduceNe, Int.reduceAdd, Int.reduceSub, Int.reduceNeg, Nat.reduceLT, Nat.reduceLeDiff, Nat.reduceBEq, undef, (stA), Nat.reduceMul, List.length_map]; try simp (disch := omega) only [(vmp)])
    rw [List.take_of_length_le (by omega)] at hall
    simp [hall]
end Go.D

/- Long names; texts; comments; numbers. -/
set_option linter.unusedVariables false
set_option linter.unusedSimpArgs false
set_option maxRecDepth 100000
namespace Go.D
open Go Go.Vm Go.Proofs Go.RowKit

theorem long_ok (l : List UInt8) (hl : l.length ≤ 9223372036854775807) (σ : List Ent) : ACalls E 132 [.str l] σ fun r τ => r = .tup [i64 (long true l).1, .str (long true l).2] ∧ τ = σ := by
  refine xacalls T0 .drop [] Tryz.func132 rfl (by kernel_rfl) (by kernel_rfl) (by simp [Tryz.ntmps132]) ?_
  (simp only [(vmA), Nat.reduceEqDiff, reduceIte, Nat.reduceAdd, Int.reduceToNat, Int.reduceLE, Int.reduceLT, Int.reduceEq, Int.reduceNe, Int.reduceAdd, Int.reduceSub, Int.reduceNeg, Nat.reduceLT, Nat.reduceLeDiff, Nat.reduceBEq, undef, (stA), Nat.reduceMul]; try simp (disch := omega) only [(vmp)])
  refine xloop (α := Nat) T0 (fun i => [(0, .str l), (4, i64 i)]) (fun _ => σ) (fun _ => []) (fun i => i ≤ l.length ∧ long true l = if (long (decide (i = 0)) (l.drop i)).2 = [] then (0, []) else (i + (long (decide (i = 0)) (l.drop i)).1, (long (decide (i = 0)) (l.drop i)).2)) (fun i => l.length - i) (by kernel_rfl)
    ⟨0, ⟨by omega, ?_⟩, by (simp only [(vmA), Nat.reduceEqDiff, reduceIte, Nat.reduceAdd, Int.reduceToNat, Int.reduceLE, Int.reduceLT, Int.reduceEq, Int.reduceNe, Int.reduceAdd, Int.reduceSub, Int.reduceNeg, Nat.reduceLT, Nat.reduceLeDiff, Nat.reduceBEq, undef, (stA), Nat.reduceMul, Int.natCast_zero]; try simp (disch := omega) only [(vmp)]), rfl, rfl⟩ ?_
  · simp only [decide_true, List.drop_zero, Nat.zero_add]
    split
    · rename_i h; exact long_none _ _ h
    · rfl
  generalize long true l = R
  rintro i ⟨hi, hall⟩
  have hdl : (l.drop i).length = l.length - i := List.length_drop
  have hg : ∀ j, (l.drop i).getD j 0 = l.getD (i + j) 0 := fun j => by simp [List.getD]
  by_cases h : (i : Int) < l.length
  · (simp only [h, (vmA), Nat.reduceEqDiff, reduceIte, Nat.reduceAdd, Int.reduceToNat, Int.reduceLE, Int.reduceLT, Int.reduceEq, Int.reduceNe, Int.reduceAdd, Int.reduceSub, Int.reduceNeg, Nat.reduceLT, Nat.reduceLeDiff, Nat.reduceBEq, undef, (stA), Nat.reduceMul]; try simp (disch := omega) only [(vmp)])
    refine ⟨by omega, ?_⟩
    refine xWait.go (word_ok _ (by omega) _) ?_
    have hw := word_le (l.drop i)
    have e := long.eq_def (decide (i = 0)) (l.drop i)
    rw [if_neg (by omega), hg, hg, Nat.add_zero, hdl] at e
    (simp only [(vmA), Nat.reduceEqDiff, reduceIte, Nat.reduceAdd, Int.reduceToNat, Int.reduceLE, Int.reduceLT, Int.reduceEq, Int.reduceNe, Int.reduceAdd, Int.reduceSub, Int.reduceNeg, Nat.reduceLT, Nat.reduceLeDiff, Nat.reduceBEq, undef, (stA), Nat.reduceMul]; try simp (disch := omega) only [(vmp)])
    refine ⟨by omega, ?_⟩
    refine xWait.go (between_ok _ _ _ _) ?_
    cases h1 : btw 97 (l.getD i 0).toNat 122
    · rw [if_neg (by rw [h1]; simp)] at e
      (simp only [(vmA), Nat.reduceEqDiff, reduceIte, Nat.reduceAdd, Int.reduceToNat, Int.reduceLE, Int.reduceLT, Int.reduceEq, Int.reduceNe, Int.reduceAdd, Int.reduceSub, Int.reduceNeg, Nat.reduceLT, Nat.reduceLeDiff, Nat.reduceBEq, undef, (stA), Nat.reduceMul]; try simp (disch := omega) only [(vmp)])
      refine ⟨by omega, ?_⟩
      refine xWait.go (between_ok _ _ _ _) ?_
      cases h2 : btw 65 (l.getD i 0).toNat 90
      · rw [if_neg (by rw [h2]; simp)] at e
        rw [e] at hall
        (simp only [(vmA), Nat.reduceEqDiff, reduceIte, Nat.reduceAdd, Int.reduceToNat, Int.reduceLE, Int.reduceLT, Int.reduceEq, Int.reduceNe, Int.reduceAdd, Int.reduceSub, Int.reduceNeg, Nat.reduceLT, Nat.reduceLeDiff, Nat.reduceBEq, undef, (stA), Nat.reduceMul]; try simp (disch := omega) only [(vmp)])
        rw [hall]; rfl
      · rw [if_pos h2] at e
        (simp only [(vmA), Nat.reduceEqDiff, reduceIte, Nat.reduceAdd, Int.reduceToNat, Int.reduceLE, Int.reduceLT, Int.reduceEq, Int.reduceNe, Int.reduceAdd, Int.reduceSub, Int.reduceNeg, Nat.reduceLT, Nat.reduceLeDiff, Nat.reduceBEq, undef, (stA), Nat.reduceMul]; try simp (disch := omega) only [(vmp)])
        by_cases h3 : ((i + word (l.drop i) : Nat) : Int) = l.length
        · rw [if_pos (.inl (by omega))] at e
          rw [e, if_neg (by simp [kCon])] at hall
          (simp only [h3, (vmA), Nat.reduceEqDiff, reduceIte, Nat.reduceAdd, Int.reduceToNat, Int.reduceLE, Int.reduceLT, Int.reduceEq, Int.reduceNe, Int.reduceAdd, Int.reduceSub, Int.reduceNeg, Nat.reduceLT, Nat.reduceLeDiff, Nat.reduceBEq, undef, (stA), Nat.reduceMul]; try simp (disch := omega) only [(vmp)])
          rw [hall, ← h3]; rfl
        · (simp only [h3, (vmA), Nat.reduceEqDiff, reduceIte, Nat.reduceAdd, Int.reduceToNat, Int.reduceLE, Int.reduceLT, Int.reduceEq, Int.reduceNe, Int.reduceAdd, Int.reduceSub, Int.reduceNeg, Nat.reduceLT, Nat.reduceLeDiff, Nat.reduceBEq, undef, (stA), Nat.reduceMul]; try simp (disch := omega) only [(vmp)])
          (simp only [(vmA), Nat.reduceEqDiff, reduceIte, Nat.reduceAdd, Int.reduceToNat, Int.reduceLE, Int.reduceLT, Int.reduceEq, Int.reduceNe, Int.reduceAdd, Int.reduceSub, Int.reduceNeg, Nat.reduceLT, Nat.reduceLeDiff, Nat.reduceBEq, undef, (stA), Nat.reduceMul]; try simp (disch := omega) only [(vmp)])
          refine ⟨by omega, ?_⟩
          by_cases h5 : ((l.getD (i + word (l.drop i)) 0).toNat : Int) = 46
          · rw [if_neg (by omega)] at e
            (simp only [h5, (vmA), Nat.reduceEqDiff, reduceIte, Nat.reduceAdd, Int.reduceToNat, Int.reduceLE, Int.reduceLT, Int.reduceEq, Int.reduceNe, Int.reduceAdd, Int.reduceSub, Int.reduceNeg, Nat.reduceLT, Nat.reduceLeDiff, Nat.reduceBEq, undef, (stA), Nat.reduceMul]; try simp (disch := omega) only [(vmp)])
            refine ⟨i + (word (l.drop i) + 1), ⟨by omega, ?_⟩, by omega, rfl⟩
            rw [e] at hall
            rw [hall, List.drop_drop]
            have : i + (word (l.drop i) + 1) ≠ 0 := by omega
            simp only [this, decide_false]
            by_cases h6 : (long false (l.drop (i + (word (l.drop i) + 1)))).2 = []
            · simp [h6]
            · simp [h6]; omega
          · rw [if_pos (.inr (by omega))] at e
            rw [e, if_neg (by simp [kCon])] at hall
            (simp only [h5, (vmA), Nat.reduceEqDiff, reduceIte, Nat.reduceAdd, Int.reduceToNat, Int.reduceLE, Int.reduceLT, Int.reduceEq, Int.reduceNe, Int.reduceAdd, Int.reduceSub, Int.reduceNeg, Nat.reduceLT, Nat.reduceLeDiff, Nat.reduceBEq, undef, (stA), Nat.reduceMul]; try simp (disch := omega) only [(vmp)])
            rw [hall]; rfl
    · rw [if_pos h1] at e
      (simp only [(vmA), Nat.reduceEqDiff, reduceIte, Nat.reduceAdd, Int.reduceToNat, Int.reduceLE, Int.reduceLT, Int.reduceEq, Int.reduceNe, Int.reduceAdd, Int.reduceSub, Int.reduceNeg, Nat.reduceLT, Nat.reduceLeDiff, Nat.reduceBEq, undef, (stA), Nat.reduceMul]; try simp (disch := omega) only [(vmp)])
      by_cases h3 : (i : Int) = 0
      · (simp only [h3, (vmA), Nat.reduceEqDiff, reduceIte, Nat.reduceAdd, Int.reduceToNat, Int.reduceLE, Int.reduceLT, Int.reduceEq, Int.reduceNe, Int.reduceAdd, Int.reduceSub, Int.reduceNeg, Nat.reduceLT, Nat.reduceLeDiff, Nat.reduceBEq, undef, (stA), Nat.reduceMul]; try simp (disch := omega) only [(vmp)])
        have hi0 : i = 0 := by omega
        subst hi0
        refine ⟨by omega, ?_⟩
        refine xWait.go (isKey_ok _ (by simp; omega) _) ?_
        simp only [List.drop_zero] at e hall hw
        by_cases h4 : l.take (word l) ∈ keys
        · rw [if_pos (by simpa using h4)] at e
          rw [e, if_neg (by simp [kKey])] at hall
          (simp only [h4, (vmA), Nat.reduceEqDiff, reduceIte, Nat.reduceAdd, Int.reduceToNat, Int.reduceLE, Int.reduceLT, Int.reduceEq, Int.reduceNe, Int.reduceAdd, Int.reduceSub, Int.reduceNeg, Nat.reduceLT, Nat.reduceLeDiff, Nat.reduceBEq, undef, (stA), Nat.reduceMul]; try simp (disch := omega) only [(vmp)])
          rw [hall, Nat.zero_add]; rfl
        · rw [if_neg (by simpa using h4)] at e
          rw [e, if_neg (by simp [kName])] at hall
          (simp only [h4, (vmA), Nat.reduceEqDiff, reduceIte, Nat.reduceAdd, Int.reduceToNat, Int.reduceLE, Int.reduceLT, Int.reduceEq, Int.reduceNe, Int.reduceAdd, Int.reduceSub, Int.reduceNeg, Nat.reduceLT, Nat.reduceLeDiff, Nat.reduceBEq, undef, (stA), Nat.reduceMul]; try simp (disch := omega) only [(vmp)])
          rw [hall, Nat.zero_add]; rfl
      · (simp only [h3, (vmA), Nat.reduceEqDiff, reduceIte, Nat.reduceAdd, Int.reduceToNat, Int.reduceLE, Int.reduceLT, Int.reduceEq, Int.reduceNe, Int.reduceAdd, Int.reduceSub, Int.reduceNeg, Nat.reduceLT, Nat.reduceLeDiff, Nat.reduceBEq, undef, (stA), Nat.reduceMul]; try simp (disch := omega) only [(vmp)])
        have : i ≠ 0 := by omega
        simp only [this, decide_false] at e hall
        rw [if_neg (by simp)] at e
        rw [e, if_neg (by simp [kName])] at hall
        rw [hall]; rfl
  · have : i = l.length := by omega
    (simp only [h, (vmA), Nat.reduceEqDiff, reduceIte, Nat.reduceAdd, Int.reduceToNat, Int.reduceLE, Int.reduceLT, Int.reduceEq, Int.reduceNe, Int.reduceAdd, Int.reduceSub, Int.reduceNeg, Nat.reduceLT, Nat.reduceLeDiff, Nat.reduceBEq, undef, (stA), Nat.reduceMul]; try simp (disch := omega) only [(vmp)])
    rw [this, List.drop_length, long] at hall
    simp at hall
    rw [hall]; rfl
end Go.D

/- Numbers: what fits 64 bits, by its digits and by its value. Plain lists. -/
set_option linter.unusedVariables false
set_option linter.unusedSimpArgs false
set_option maxRecDepth 100000
namespace Go.D
open Go

/-- Whether a byte is a digit. -/
def digP (c : UInt8) : Prop := 48 ≤ c.toNat ∧ c.toNat ≤ 57
/-- The value of digits behind others. -/
def val (acc : Nat) (l : List UInt8) : Nat := l.foldl (fun a c => a * 10 + (c.toNat - 48)) acc
theorem val_nil (acc : Nat) : val acc [] = acc := rfl
theorem val_cons (acc : Nat) (c : UInt8) (r : List UInt8) : val acc (c :: r) = val (acc * 10 + (c.toNat - 48)) r := by unfold val; rw [List.foldl_cons]
theorem val_acc (l : List UInt8) : ∀ acc : Nat, val acc l = acc * 10 ^ l.length + val 0 l := by
  induction l with
  | nil => intro acc; rw [val_nil, val_nil, List.length_nil, Nat.pow_zero, Nat.mul_one, Nat.add_zero]
  | cons c r ih =>
    intro acc
    rw [val_cons, val_cons, ih, ih (0 * 10 + _), List.length_cons, Nat.pow_succ, Nat.add_mul, Nat.zero_mul, Nat.zero_add, Nat.mul_assoc, Nat.mul_comm 10]
    omega
theorem val_lt : ∀ (l : List UInt8), (∀ c ∈ l, digP c) → val 0 l < 10 ^ l.length
  | [], _ => by simp [val_nil]
  | c :: r, h => by
    have h1 := val_lt r fun c hc => h c (by simp [hc])
    have h2 := h c (by simp)
    unfold digP at h2
    rw [val_cons, val_acc, List.length_cons, Nat.pow_succ, Nat.zero_mul, Nat.zero_add]
    have : (c.toNat - 48) * 10 ^ r.length ≤ 9 * 10 ^ r.length := Nat.mul_le_mul_right _ (by omega)
    omega
theorem val_le (l : List UInt8) (acc : Nat) : acc ≤ val acc l := by
  rw [val_acc]
  have : acc * 1 ≤ acc * 10 ^ l.length := Nat.mul_le_mul_left _ (Nat.pos_of_ne_zero (by simp))
  omega

theorem parse_val : ∀ (l : List UInt8) (acc : Nat), acc ≤ 18446744073709551615 → (∀ c ∈ l, digP c) →
    Lib.parseUintM 18446744073709551615 acc l = if val acc l ≤ 18446744073709551615 then .ok (val acc l) else .range
  | [], acc, ha, _ => by simp [val_nil, Lib.parseUintM, ha]
  | c :: r, acc, ha, h => by
    have h2 := h c (by simp)
    have h3 := val_le r (acc * 10 + (c.toNat - 48))
    rw [Lib.parseUintM, if_pos (by simpa [digP] using h2), val_cons]
    by_cases h4 : 1844674407370955162 ≤ acc
    · rw [if_pos h4, if_neg (by omega)]
    · rw [if_neg h4]
      by_cases h5 : 18446744073709551615 < acc * 10 + (c.toNat - 48)
      · rw [if_pos h5, if_neg (by omega)]
      · rw [if_neg h5, parse_val r _ (by omega) fun c hc => h c (by simp [hc])]

/-- Of as many digits, the order of texts is that of values. -/
theorem less_val : ∀ (a b : List UInt8), a.length = b.length → (∀ c ∈ a, digP c) → (∀ c ∈ b, digP c) → (Op.bytesLess a b = true ↔ val 0 a < val 0 b)
  | [], [], _, _, _ => by simp [Op.bytesLess, val_nil]
  | a :: x, b :: y, hl, ha, hb => by
    have h1 := val_lt x fun c hc => ha c (by simp [hc])
    have h2 := val_lt y fun c hc => hb c (by simp [hc])
    have h3 := ha a (by simp)
    have h4 := hb b (by simp)
    have hl' : x.length = y.length := by simpa using hl
    have ih := less_val x y hl' (fun c hc => ha c (by simp [hc])) (fun c hc => hb c (by simp [hc]))
    unfold digP at h3 h4
    rw [val_cons, val_cons, val_acc x, val_acc y, hl']
    rw [hl'] at h1
    have e1 : a.toNat = b.toNat → a = b := fun h => UInt8.toNat_inj.1 h
    simp only [Op.bytesLess, Bool.or_eq_true, decide_eq_true_eq, Bool.and_eq_true, beq_iff_eq, ih, UInt8.lt_iff_toNat_lt]
    generalize hp : 10 ^ y.length = p at *
    rcases Nat.lt_trichotomy a.toNat b.toNat with h5 | h5 | h5
    · refine ⟨fun _ => ?_, fun _ => .inl h5⟩
      have : (0 * 10 + (a.toNat - 48) + 1) * p ≤ (0 * 10 + (b.toNat - 48)) * p := Nat.mul_le_mul_right _ (by omega)
      rw [Nat.add_mul] at this
      omega
    · have := e1 h5
      subst this
      refine ⟨fun h => ?_, fun h => .inr ⟨rfl, by omega⟩⟩
      rcases h with h | h
      · omega
      · omega
    · refine ⟨fun h => ?_, fun h => ?_⟩
      · rcases h with h | h
        · omega
        · rw [h.1] at h5; omega
      · have : (0 * 10 + (b.toNat - 48) + 1) * p ≤ (0 * 10 + (a.toNat - 48)) * p := Nat.mul_le_mul_right _ (by omega)
        rw [Nat.add_mul] at this
        omega
  | [], _ :: _, h, _, _ => by simp at h
  | _ :: _, [], h, _, _ => by simp at h

def most (neg : Bool) : List UInt8 := [57, 50, 50, 51, 51, 55, 50, 48, 51, 54, 56, 53, 52, 55, 55, 53, 56, 48, if neg then 56 else 55]
/-- Whether digits are no more than the greatest ones. -/
def fitsD (neg : Bool) (d : List UInt8) : Bool := decide (d.length < 19) || (decide (d.length = 19) && !Op.bytesLess (most neg) d)

theorem fitsD_iff (neg : Bool) (d : List UInt8) (hd : ∀ c ∈ d, digP c) (h0 : d.getD 0 0 = 48 → d.length < 2) :
    fitsD neg d = true ↔ val 0 d ≤ if neg then 9223372036854775808 else 9223372036854775807 := by
  have hm : val 0 (most neg) = if neg then 9223372036854775808 else 9223372036854775807 := by cases neg <;> decide
  have hml : (most neg).length = 19 := by cases neg <;> rfl
  have hmd : ∀ c ∈ most neg, digP c := by cases neg <;> (unfold digP; decide)
  have h1 := val_lt d hd
  rcases Nat.lt_trichotomy d.length 19 with h | h | h
  · have h2 : 10 ^ d.length ≤ 10 ^ 18 := Nat.pow_le_pow_right (by omega) (by omega)
    simp only [fitsD, h, decide_true, Bool.true_or, true_iff]
    have h3 : 9223372036854775807 ≤ (if neg = true then 9223372036854775808 else 9223372036854775807 : Nat) := by split <;> omega
    have h4 : (10 : Nat) ^ 18 = 1000000000000000000 := by decide
    generalize (if neg = true then 9223372036854775808 else 9223372036854775807 : Nat) = m at *
    omega
  · have := less_val (most neg) d (by omega) hmd hd
    rw [hm] at this
    have h3 : ¬ d.length < 19 := by omega
    simp only [fitsD, h3, decide_false, Bool.false_or, h, decide_true, Bool.true_and]
    cases hb : Op.bytesLess (most neg) d <;> rw [hb] at this <;> simp at this ⊢ <;> omega
  · cases d with
    | nil => simp at h
    | cons c r =>
      have h2 : c ≠ 48 := fun e => by have := h0 (by simp [e]); omega
      have h3 := hd c (by simp)
      have h4 : c.toNat ≠ 48 := fun e => h2 (UInt8.toNat_inj.1 e)
      unfold digP at h3
      have h5 : 10 ^ 19 ≤ 10 ^ r.length := Nat.pow_le_pow_right (by omega) (by simp at h; omega)
      have h6 : 1 * 10 ^ r.length ≤ (c.toNat - 48) * 10 ^ r.length := Nat.mul_le_mul_right _ (by omega)
      have h7 : ¬ (c :: r).length < 19 := by omega
      have h8 : ¬ (c :: r).length = 19 := by omega
      simp only [fitsD, h7, h8, decide_false, Bool.false_and, Bool.or_false, Bool.false_eq_true, false_iff]
      rw [val_cons, val_acc, Nat.zero_mul, Nat.zero_add]
      split <;> omega

/-- Of a text that is digits, whether there is a sign. -/
theorem digits_shape (l : List UInt8) (h : digits l = l.length) (hn : l ≠ []) :
    ∃ d : List UInt8, d ≠ [] ∧ (∀ c ∈ d, digP c) ∧ (d.getD 0 0 = 48 → d.length < 2) ∧ (l = 45 :: d ∨ (l = d ∧ l.getD 0 0 ≠ 45)) := by
  have hlen : l.length ≠ 0 := by simpa using hn
  unfold digits at h
  split at h
  · omega
  rename_i h1
  have hle := negN_le l
  split at h
  case isFalse => omega
  rename_i h2
  have h2' : digP (l.getD (negN l) 0) := by
    simp only [isDig, btw, Bool.and_eq_true, decide_eq_true_eq] at h2
    unfold digP; omega
  have hg : (l.drop (negN l)).getD 0 0 = l.getD (negN l) 0 := by simp [List.getD]
  refine ⟨l.drop (negN l), by simp; omega, ?_, ?_, ?_⟩
  · split at h
    · have hl : (l.drop (negN l)).length = 1 := by simp; omega
      intro c hc
      obtain ⟨i, hi, rfl⟩ := List.getElem_of_mem hc
      have : i = 0 := by omega
      subst this
      have : (l.drop (negN l))[0] = l.getD (negN l) 0 := by simp [List.getD, (by omega : negN l < l.length)]
      rw [this]; exact h2'
    · have hl : ((l.drop (negN l)).takeWhile (pB isDig)).length = (l.drop (negN l)).length := by simp; omega
      have := (List.takeWhile_prefix (p := pB isDig) (l := l.drop (negN l))).eq_of_length hl
      intro c hc
      rw [← this] at hc
      have := List.all_eq_true.1 (List.all_takeWhile (p := pB isDig)) c hc
      simp only [pB, isDig, btw, Bool.and_eq_true, decide_eq_true_eq] at this
      unfold digP; omega
  · intro e
    rw [hg] at e
    rw [if_pos (by rw [e]; rfl)] at h
    simp; omega
  · unfold negN
    cases hb : negB l
    · right
      simp only [Bool.false_eq_true, if_false, List.drop_zero, true_and]
      have : negN l = 0 := by simp [negN, hb]
      rw [this] at h2'
      unfold digP at h2'
      intro e
      rw [e] at h2'
      revert h2'; decide
    · left
      simp only [if_true]
      simp only [negB, Bool.and_eq_true, decide_eq_true_eq] at hb
      cases l with
      | nil => simp at hn
      | cons a r =>
        have : a.toNat = 45 := by have := hb.2.1; simp at this; omega
        have : a = 45 := UInt8.toNat_inj.1 this
        simp [this]

def body (l : List UInt8) : List UInt8 := if l.getD 0 0 = 45 then l.drop 1 else l
/-- Whether the digits of a number are one of 64 bits. -/
def fits (l : List UInt8) : Bool := fitsD (decide (l.getD 0 0 = 45)) (body l)

theorem parse_step (l : List UInt8) (neg : Bool) (d : List UInt8) (hn : l ≠ []) (h1 : decide ((l.getD 0 0).toNat = 45) = neg) (h2 : (if (l.getD 0 0).toNat = 43 ∨ (l.getD 0 0).toNat = 45 then l.drop 1 else l) = d) (u : Nat) :
    (Lib.parseUintB 64 d = .range → Lib.parseIntB 64 l = .range) ∧
    (Lib.parseUintB 64 d = .ok u → (u ≤ if neg then 9223372036854775808 else 9223372036854775807) → ∃ v, Lib.parseIntB 64 l = .ok v) ∧
    (Lib.parseUintB 64 d = .ok u → ¬ (u ≤ if neg then 9223372036854775808 else 9223372036854775807) → Lib.parseIntB 64 l = .range) := by
  obtain ⟨c, r, rfl⟩ : ∃ c r, l = c :: r := by cases l with | nil => simp at hn | cons c r => exact ⟨c, r, rfl⟩
  simp only [List.getD_cons_zero, List.drop_succ_cons, List.drop_zero] at h1 h2
  subst h1
  rw [Lib.parseIntB]
  simp only [h2]
  refine ⟨fun h => by rw [h], fun h hu => ?_, fun h hu => ?_⟩
  all_goals rw [h]
  all_goals by_cases h3 : c.toNat = 45
  all_goals simp only [h3, decide_true, decide_false, if_true, if_false, not_true_eq_false, not_false_eq_true, true_and, false_and, Bool.false_eq_true] at hu ⊢
  · rw [if_neg (by omega)]; exact ⟨_, rfl⟩
  · rw [if_neg (by omega)]; exact ⟨_, rfl⟩
  · rw [if_pos (by omega)]
  · rw [if_pos (by omega)]

theorem parse_fits (l : List UInt8) (h : digits l = l.length) (hn : l ≠ []) :
    (fits l = true ∧ ∃ v, Lib.parseIntB 64 l = .ok v) ∨ (fits l = false ∧ Lib.parseIntB 64 l = .range) := by
  obtain ⟨d, hd0, hd, hz, hl⟩ := digits_shape l h hn
  have hp : Lib.parseUintB 64 d = if val 0 d ≤ 18446744073709551615 then .ok (val 0 d) else .range := by
    unfold Lib.parseUintB
    rw [if_neg hd0]
    exact parse_val d 0 (by decide) hd
  obtain ⟨neg, h1, h2, hf⟩ : ∃ neg, decide ((l.getD 0 0).toNat = 45) = neg ∧ (if (l.getD 0 0).toNat = 43 ∨ (l.getD 0 0).toNat = 45 then l.drop 1 else l) = d ∧ fits l = fitsD neg d := by
    rcases hl with rfl | ⟨rfl, h1⟩
    · exact ⟨true, by simp, by simp, by simp [fits, body]⟩
    · obtain ⟨c, r, rfl⟩ : ∃ c r, l = c :: r := by cases l with | nil => simp at hn | cons c r => exact ⟨c, r, rfl⟩
      have h1 : c ≠ 45 := by simpa using h1
      have h2 := hd c (by simp)
      unfold digP at h2
      have h3 : ¬ (c.toNat = 43 ∨ c.toNat = 45) := by omega
      have h4 : ¬ c.toNat = 45 := by omega
      exact ⟨false, by simp [h4], by simp [h3], by simp [fits, body, h1]⟩
  obtain ⟨k1, k2, k3⟩ := parse_step l neg d hn h1 h2 (val 0 d)
  have hiff := fitsD_iff neg d hd hz
  have hb : (if neg = true then 9223372036854775808 else 9223372036854775807 : Nat) ≤ 9223372036854775808 := by split <;> omega
  rw [hf]
  cases hv : fitsD neg d
  · refine .inr ⟨rfl, ?_⟩
    have hv' : ¬ val 0 d ≤ (if neg then 9223372036854775808 else 9223372036854775807) := fun hh => by have := hiff.2 hh; rw [hv] at this; cases this
    by_cases hu : val 0 d ≤ 18446744073709551615
    · rw [if_pos hu] at hp; exact k3 hp hv'
    · rw [if_neg hu] at hp; exact k1 hp
  · refine .inl ⟨rfl, ?_⟩
    have hv' := hiff.1 hv
    rw [if_pos (by omega)] at hp
    exact k2 hp hv'

theorem negN_take (l : List UInt8) (k : Nat) (hk : negN l < k) : negN (l.take k) = negN l := by
  have hg : ∀ i, i < k → (l.take k).getD i 0 = l.getD i 0 := fun i hi => by simp [List.getD, hi]
  have hb : negB (l.take k) = negB l := by
    by_cases h2 : 1 < k
    · unfold negB
      rw [hg 0 (by omega), hg 1 h2]
      congr 2
      rw [List.length_take]
      simp; omega
    · have : negB l = false := by
        cases hh : negB l
        · rfl
        · simp [negN, hh] at hk; omega
      rw [this]
      have : ¬ (1 : Int) < (l.take k).length := by rw [List.length_take]; omega
      simp only [negB, this, decide_false, Bool.false_and]
  unfold negN; rw [hb]

theorem takeWhile_all {p : UInt8 → Bool} : ∀ {l : List UInt8}, (∀ c ∈ l, p c = true) → l.takeWhile p = l
  | [], _ => rfl
  | a :: l, h => by rw [List.takeWhile_cons, if_pos (h a (by simp)), takeWhile_all fun c hc => h c (by simp [hc])]
theorem digits_take (l : List UInt8) : digits (l.take (digits l)) = digits l ∧ digits l ≤ l.length := by
  have hle := negN_le l
  by_cases h1 : negN l = l.length
  · have : digits l = 0 := by unfold digits; rw [if_pos h1]
    rw [this]; simp [digits, negN, negB]
  · cases h2 : isDig (l.getD (negN l) 0).toNat
    · have : digits l = 0 := by unfold digits; rw [if_neg h1, if_neg (by rw [h2]; simp)]
      rw [this]; simp [digits, negN, negB]
    · have key : ∀ k, negN l < k → k ≤ l.length → (l.take k).length = k ∧ negN (l.take k) = negN l ∧ (l.take k).getD (negN l) 0 = l.getD (negN l) 0 :=
        fun k hk hkl => ⟨by simp; omega, negN_take l k hk, by simp [List.getD, hk]⟩
      by_cases h3 : ((l.getD (negN l) 0).toNat : Int) = 48
      · have e : digits l = negN l + 1 := by unfold digits; rw [if_neg h1, if_pos h2, if_pos h3]
        obtain ⟨k1, k2, k3⟩ := key (negN l + 1) (by omega) (by omega)
        refine ⟨?_, by omega⟩
        rw [e]; unfold digits
        rw [k2, k1, k3, if_neg (by omega), if_pos h2, if_pos h3]
      · have e : digits l = negN l + ((l.drop (negN l)).takeWhile (pB isDig)).length := by unfold digits; rw [if_neg h1, if_pos h2, if_neg h3]
        have hpos : 0 < ((l.drop (negN l)).takeWhile (pB isDig)).length := by
          rw [List.drop_eq_getElem_cons (by omega : negN l < l.length), List.takeWhile_cons, if_pos (by
            have : l[negN l]'(by omega) = l.getD (negN l) 0 := by simp [List.getD, (by omega : negN l < l.length)]
            rw [this]; exact h2)]
          simp
        have hle2 : ((l.drop (negN l)).takeWhile (pB isDig)).length ≤ (l.drop (negN l)).length := (List.takeWhile_prefix _).length_le
        have hdl : (l.drop (negN l)).length = l.length - negN l := List.length_drop
        obtain ⟨k1, k2, k3⟩ := key (digits l) (by omega) (by omega)
        refine ⟨?_, by omega⟩
        generalize digits l = k at *
        unfold digits
        rw [k2, k1, k3, if_neg (by omega), if_pos h2, if_neg h3, e]
        congr 1
        rw [List.drop_take]
        have : ∀ (x : List UInt8), (x.take (x.takeWhile (pB isDig)).length).takeWhile (pB isDig) = x.takeWhile (pB isDig) := fun x => by
          rw [← (List.prefix_iff_eq_take.1 (List.takeWhile_prefix (p := pB isDig) (l := x)))]
          exact takeWhile_all fun c hc => List.all_eq_true.1 List.all_takeWhile c hc
        rw [show negN l + ((l.drop (negN l)).takeWhile (pB isDig)).length - negN l = ((l.drop (negN l)).takeWhile (pB isDig)).length by omega, this]
end Go.D

/- Comments, quoted texts, tokens. Plain lists. -/
set_option linter.unusedVariables false
set_option linter.unusedSimpArgs false
set_option maxRecDepth 100000
namespace Go.D
open Go

/-- How many bytes until a comment of a depth ends. -/
def cs (d : Nat) : List UInt8 → Option Nat
  | [] => none
  | [_] => none
  | a :: b :: r =>
    if a = 40 ∧ b = 42 then (cs (d + 1) r).map (· + 2)
    else if a = 42 ∧ b = 41 then (if d = 1 then some 2 else (cs (d - 1) r).map (· + 2))
    else (cs d (b :: r)).map (· + 1)

/-- What a quoted text means, behind its first quote, and where it ends. -/
def qS : List UInt8 → Option (Nat × List UInt8)
  | [] => none
  | [a] => if a = 34 then some (1, []) else none
  | a :: b :: r =>
    if a = 34 then some (1, [])
    else if a = 92 then
      (if b = 110 then (qS r).map fun x => (x.1 + 2, 10 :: x.2)
       else if b = 34 ∨ b = 92 then (qS r).map fun x => (x.1 + 2, b :: x.2) else none)
    else if btw 32 a.toNat 126 = true then (qS (b :: r)).map fun x => (x.1 + 1, a :: x.2) else none

def kInt : List UInt8 := [105, 110, 116]
def kText : List UInt8 := [116, 101, 120, 116]
def kVar : List UInt8 := [118, 97, 114]
def kSign : List UInt8 := [115, 105, 103, 110]
/-- Kind, text, length of the token that stands first. -/
def one (l : List UInt8) : Option (List UInt8 × List UInt8 × Nat) :=
  if ¬ (long true l).2 = [] then some ((long true l).2, l.take (long true l).1, (long true l).1)
  else if 0 < digits l then (if fits (l.take (digits l)) then some (kInt, l.take (digits l), digits l) else none)
  else if l.getD 0 0 = 34 then (match qS (l.drop 1) with
    | some x => if x.2.length ≤ 200 then some (kText, x.2, x.1 + 1) else none
    | none => none)
  else if 1 < l.length ∧ l.getD 0 0 = 39 ∧ btw 97 (l.getD 1 0).toNat 122 = true then some (kVar, l.take 2, 2)
  else if sign l = [] then none else some (kSign, sign l, (sign l).length)

abbrev Tok := List UInt8 × List UInt8 × Nat
/-- The tokens of a text, from a place on. -/
def toks (at' : Nat) (l : List UInt8) : Option (List Tok) :=
  if l.length = 0 then some []
  else if l.getD 0 0 = 32 ∨ l.getD 0 0 = 9 ∨ l.getD 0 0 = 10 then toks (at' + 1) (l.drop 1)
  else if l.take 2 = [40, 42] then (match cs 1 (l.drop 2) with
    | none => none
    | some n => toks (at' + (n + 2)) (l.drop (n + 2)))
  else match one l with
    | none => none
    | some x => if x.2.2 = 0 then none else (toks (at' + x.2.2) (l.drop x.2.2)).map fun r => (x.1, x.2.1, at') :: r
termination_by l.length
decreasing_by all_goals (simp only [List.length_drop]; omega)

theorem sign_eq (l : List UInt8) : sign l =
    if l.take 2 = [58, 58] ∨ l.take 2 = [61, 62] ∨ l.take 2 = [45, 62] ∨ l.take 2 = [58, 62] then l.take 2
    else if l.getD 0 0 ∈ ([40, 41, 91, 93, 44, 59, 58, 61, 124, 95, 43, 45, 42, 47, 37, 60, 94] : List UInt8) then l.take 1 else [] := by
  have e1 : sign l = ([[58, 58], [61, 62], [45, 62], [58, 62]] : List (List UInt8)).foldl (signStep l) (([[40], [41], [91], [93], [44], [59], [58], [61], [124], [95], [43], [45], [42], [47], [37], [60], [94]] : List (List UInt8)).foldl (signStep l) []) := by simp only [sign, signs, List.foldl_cons, List.foldl_nil]
  have e2 : ∀ (a : UInt8) (r : List UInt8) (ss : List UInt8), (ss.map fun x => [x]).foldl (signStep (a :: r)) [] = if a ∈ ss then [a] else [] := by
    intro a r ss
    have g : ∀ (ss : List UInt8), (ss.map fun x => [x]).foldl (signStep (a :: r)) [a] = [a] := by
      intro ss
      induction ss with
      | nil => rfl
      | cons b ss ih => rw [List.map_cons, List.foldl_cons, signStep, if_neg (by simp)]; exact ih
    induction ss with
    | nil => rfl
    | cons b ss ih =>
      rw [List.map_cons, List.foldl_cons]
      by_cases h : b = a
      · subst h
        rw [signStep, if_pos (by simp [Lib.hasPrefix, List.isPrefixOf]), g]
        simp
      · rw [signStep, if_neg (by simp [Lib.hasPrefix, List.isPrefixOf, h]), ih]
        simp [Ne.symm h]
  have e3 : ([[40], [41], [91], [93], [44], [59], [58], [61], [124], [95], [43], [45], [42], [47], [37], [60], [94]] : List (List UInt8)) = ([40, 41, 91, 93, 44, 59, 58, 61, 124, 95, 43, 45, 42, 47, 37, 60, 94] : List UInt8).map fun x => [x] := rfl
  rw [e1, e3]
  rcases l with _ | ⟨a, _ | ⟨b, r⟩⟩
  · have hp : ∀ (s : List UInt8) (x : UInt8) (y : List UInt8), signStep [] s (x :: y) = s := fun s x y => by simp [signStep, Lib.hasPrefix, List.isPrefixOf]
    simp [hp]
  · rw [e2]
    have hp : ∀ (s : List UInt8) (x y : UInt8), signStep [a] s [x, y] = s := fun s x y => by simp [signStep, Lib.hasPrefix, List.isPrefixOf]
    simp [hp]
  · rw [e2]
    have hp : ∀ (s : List UInt8) (x y : UInt8), signStep (a :: b :: r) s [x, y] = if s.length < 2 ∧ (a = x ∧ b = y) then [a, b] else s := fun s x y => by
      unfold signStep
      by_cases h : s.length < 2 ∧ (a = x ∧ b = y)
      · rw [if_pos h, if_pos (by simp [Lib.hasPrefix, List.isPrefixOf, h]), h.2.1, h.2.2]
      · rw [if_neg h, if_neg (by simpa [Lib.hasPrefix, List.isPrefixOf, @eq_comm _ x, @eq_comm _ y] using h)]
    generalize hq : (if a ∈ ([40, 41, 91, 93, 44, 59, 58, 61, 124, 95, 43, 45, 42, 47, 37, 60, 94] : List UInt8) then [a] else []) = q
    have hql : q.length < 2 := by rw [← hq]; split <;> simp
    simp only [List.foldl_cons, List.foldl_nil, hp, List.take_succ_cons, List.take_zero, List.getD_cons_zero, List.cons.injEq, and_true]
    by_cases h1 : a = 58 ∧ b = 58
    · simp [h1, hql]
    by_cases h2 : a = 61 ∧ b = 62
    · simp [h1, h2, hql]
    by_cases h3 : a = 45 ∧ b = 62
    · simp [h1, h2, h3, hql]
    by_cases h4 : a = 58 ∧ b = 62
    · simp [h1, h2, h3, h4, hql]
    · simp only [h1, h2, h3, h4, and_false, if_false, or_self]
      exact hq.symm
end Go.D
