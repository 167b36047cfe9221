/- How the simplifier reads code: what is known first, what hangs on it behind. -/
import Derived.Test.YtoobkfjkohadnaaGreatDoorVmD
import Derived.Lib.Builder
import Derived.Laws.Externs
import Derived.ChangeSame
import Derived.Deep.DeepHandedRow
import Derived.Lib.LaidTab
import Derived.Lay
import Derived.WideKeyArgs
import Derived.Stop.Joined
import Derived.MakeChecks
import Derived.Test.YtoobkfjkohadnaaGreatDoorVmC
import Derived.KernelRfl
set_option linter.unusedVariables false
namespace Go.Vm
open Go.RowKit
theorem nrfl {α : Sort _} {a b : α} (h : a = b) : a = b := h
def outK (o : Out) (K : AV → List Ent → List Ent → Prop) : Prop :=
 match o with
 | some (p, r, g, l) => p ∧ K r g l
 | none => False
def callK (E : Env) (f : AV) (args : List AV) (σ : List Ent) (n : Nat) (K : AV → List Ent → List Ent → Prop) : Prop :=
 match f with
 | .fn fid first cap => ACalls E fid (first ++ args ++ cap) σ fun r τ => K r (τ.take n) (τ.drop n)
 | _ => False
def slotK (s : Option Nat) (f : Nat → Prop) : Prop :=
 match s with
 | some d => f d
 | none => False
def guardK (v : AV) (want : Bool) (y n s : Prop) : Prop :=
 match v with
 | .v (.bool b) => if b = want then y else n
 | .v (.tuple _) => s
 | _ => False
def condK (v : AV) (x y : Prop) : Prop :=
 match v with
 | .v (.bool b) => if b = true then x else y
 | _ => False
@[congr] theorem outK_congr {o o' : Out} {K : AV → List Ent → List Ent → Prop} (h : o = o') : outK o K = outK o' K := by rw [h]
@[congr] theorem callK_congr {E : Env} {f f' : AV} {args args' : List AV} {σ σ' : List Ent} {n n' : Nat} {K : AV → List Ent → List Ent → Prop} (h1 : f = f') (h2 : args = args') (h3 : σ = σ') (h4 : n = n') :
  callK E f args σ n K = callK E f' args' σ' n' K := by rw [h1, h2, h3, h4]
@[congr] theorem slotK_congr {s s' : Option Nat} {f : Nat → Prop} (h : s = s') : slotK s f = slotK s' f := by rw [h]
@[congr] theorem guardK_congr {v v' : AV} {want : Bool} {y n s : Prop} (h : v = v') : guardK v want y n s = guardK v' want y n s := by rw [h]
@[congr] theorem condK_congr {v v' : AV} {x y : Prop} (h : v = v') : condK v x y = condK v' x y := by rw [h]
theorem callK_fn (E : Env) (f : FuncId) (a b args : List AV) (σ : List Ent) (n : Nat) (K : AV → List Ent → List Ent → Prop) : callK E (.fn f a b) args σ n K = ACalls E f (a ++ args ++ b) σ fun r τ => K r (τ.take n) (τ.drop n) := nrfl rfl
section
variable (E : Env) (n : Nat) (T : Nat → TI) (rows : List Nat) (all : Array Oper) (ts : Ts) (g l : List Ent)
theorem aOps_if (dst : Option Nat) (op : Op) (ty : TypeId) (pos : String) (after : Array Edge) (j : Nat) (want : Bool) (rest : List Oper) (K : Ts → List Ent → List Ent → Prop) :
  aOps E T rows all (⟨dst, op, ty, pos, after, some (j, want)⟩ :: rest) ts g l K = slotK (gslot all j) fun d => guardK (tget ts d) want
   (aOne E T rows ⟨dst, op, ty, pos, after, some (j, want)⟩ ((d, boolV want) :: ts) g l fun r g l => aOps E T rows all rest (tput ((d, boolV want) :: ts) dst r) g l K)
   (aOps E T rows all rest (tput ((d, boolV (!want)) :: ts) dst (.v undef)) g l K) (aOps E T rows all rest (tput ts dst (.v undef)) g l K) := by
 rw [aOps]
 simp only
 generalize gslot all j = s
 cases s with
 | none => rfl
 | some d =>
  simp only [slotK, guardK]
  generalize tget ts d = v
  cases v with
  | v x => cases x <;> rfl
  | _ => rfl
def notCall : Op → Bool
 | .call { callee := .value _, .. } => false
 | .call { callee := .invoke _ _, .. } => false
 | .next _ false => false
 | _ => true
theorem aOne_det (o : Oper) (K : AV → List Ent → List Ent → Prop) (h : notCall o.op = true) : aOne E T rows o ts g l K = outK (aDet T rows o ts g l) K := by
 unfold aOne outK
 split
 ·rename_i ho; rw [ho] at h; cases h
 ·rename_i ho; rw [ho] at h; cases h
 ·rename_i ho; rw [ho] at h; cases h
 ·rfl
theorem aOne_call (dst : Option Nat) (f : Operand) (as : Array Operand) (tys : Array TypeId) (ty : TypeId) (pos : String) (after : Array Edge) (gd : Option (Nat × Bool)) (K : AV → List Ent → List Ent → Prop) :
  aOne E T rows ⟨dst, .call { callee := .value f, args := as, argTypes := tys }, ty, pos, after, gd⟩ ts g l K = callK E (ev ts f) (as.toList.map (ev ts)) (g ++ l) g.length K := nrfl rfl
variable (Q : Exit → Ts → List Ent → List Ent → Prop)
theorem aCode_draw (id : Nat) (ops : Array Oper) : aCode E n T rows (.region id ops true) Q ts g l = AWp E n (.region id ops true) Q ts g l := nrfl rfl
variable (bars : List Nat) (k : Nat)
theorem aDraw_if (dst : Option Nat) (op : Op) (ty : TypeId) (pos : String) (after : Array Edge) (j : Nat) (want : Bool) (rest : List Oper) (K : Ts → List Ent → List Ent → Prop) :
  aDraw E T all bars k (⟨dst, op, ty, pos, after, some (j, want)⟩ :: rest) ts g l K = slotK (gslot all j) fun d => guardK (tget ts d) want
   (aNext bars k E T ⟨dst, op, ty, pos, after, some (j, want)⟩ ((d, boolV want) :: ts) g l fun r g l => aDraw E T all bars (k + 1) rest (tput ((d, boolV want) :: ts) dst r) g l K)
   (aDraw E T all bars (k + 1) rest (tput ((d, boolV (!want)) :: ts) dst (.v undef)) g l K) (aDraw E T all bars (k + 1) rest (tput ts dst (.v undef)) g l K) := by
 rw [aDraw]
 simp only
 generalize gslot all j = s
 cases s with
 | none => rfl
 | some d =>
  simp only [slotK, guardK]
  generalize tget ts d = v
  cases v with
  | v x => cases x <;> rfl
  | _ => rfl
end
section
variable (bars : List Nat) (k : Nat) (E : Env) (T : Nat → TI) (o : Oper) (ts : Ts) (g l : List Ent) (K : AV → List Ent → List Ent → Prop)
@[congr] theorem aNext_congr {ts' : Ts} {g' l' : List Ent} (h1 : ts = ts') (h2 : g = g') (h3 : l = l') : aNext bars k E T o ts g l K = aNext bars k E T o ts' g' l' K := by rw [h1, h2, h3]
@[congr] theorem aDraw_congr {all : Array Oper} {os : List Oper} {K : Ts → List Ent → List Ent → Prop} {ts' : Ts} {g' l' : List Ent} (h1 : ts = ts') (h2 : g = g') (h3 : l = l') : aDraw E T all bars k os ts g l K = aDraw E T all bars k os ts' g' l' K := by rw [h1, h2, h3]
def detK (bar : Bool) (g l : List Ent) (o : Out) (K : AV → List Ent → List Ent → Prop) : Prop :=
 match o with
 | some (p, r, g1, l1) => p ∧ (if bar = true then g1.length = g.length else g1 = g ∧ l1 = l) ∧ K r g1 l1
 | none => False
@[congr] theorem detK_congr {bar bar' : Bool} {g g' l l' : List Ent} {o o' : Out} (h0 : bar = bar') (h1 : g = g') (h2 : l = l') (h : o = o') : detK bar g l o K = detK bar' g' l' o' K := by rw [h0, h1, h2, h]
theorem aNext_det (h : notCall o.op = true) : aNext bars k E T o ts g l K = detK (bars.contains k) g l (aDet T [] o ts g l) K := by
 have hdet := fun K => aOne_det E T [] ts g l o K h
 unfold aNext aFix detK
 simp only [hdet]
 unfold outK
 cases hd : aDet T [] o ts g l with
 | none => split <;> simp
 | some q =>
  obtain ⟨p, r, g1, l1⟩ := q
  simp only
  split
  ·apply propext
   constructor
   ·rintro ⟨r', g', l', ⟨hp, rfl, rfl, rfl⟩, h1, h2⟩; exact ⟨hp, h1, h2⟩
   ·rintro ⟨hp, h1, h2⟩; exact ⟨_, _, _, ⟨hp, rfl, rfl, rfl⟩, h1, h2⟩
  ·apply propext
   constructor
   ·rintro ⟨r', ⟨hp, rfl, rfl, rfl⟩, h2⟩; exact ⟨hp, ⟨rfl, rfl⟩, h2⟩
   ·rintro ⟨hp, ⟨rfl, rfl⟩, h2⟩; exact ⟨_, ⟨hp, rfl, rfl, rfl⟩, h2⟩
theorem aNext_call {dst : Option Nat} {f : FuncId} {as : Array Operand} {tys : Array TypeId} {ty : TypeId} {pos : String} {after : Array Edge} {gd : Option (Nat × Bool)} {r : AV} (hb : bars.contains k = false)
  (h : ACalls E f (as.toList.map (ev ts)) (g ++ l) fun r' τ => r' = r ∧ τ = g ++ l) (hK : K r g l) :
  aNext bars k E T ⟨dst, .call { callee := .value (.func f), args := as, argTypes := tys }, ty, pos, after, gd⟩ ts g l K := by
 unfold aNext
 rw [if_neg (by rw [hb]; simp)]
 refine ⟨r, ?_, hK⟩
 unfold aFix
 rw [aOne_call, ev, callK_fn]
 simp only [List.nil_append, List.append_nil]
 refine h.mono fun r' τ ⟨h1, h2⟩ => ⟨h1, ?_, ?_⟩
 ·rw [h2, List.take_left]
 ·rw [h2, List.drop_left]
end
inductive Kont where
 | done (Q : Exit → Ts → List Ent → List Ent → Prop)
 | next (K : Ts → List Ent → List Ent → Prop) (k : Kont)
 | seq (b : Code) (k : Kont)
 | block (id : Nat) (k : Kont)
def kQ (E : Env) (n : Nat) (T : Nat → TI) (rows : List Nat) : Kont → Exit → Ts → List Ent → List Ent → Prop
 | .done Q => Q
 | .next K k => thenQ K (kQ E n T rows k)
 | .seq b k => thenQ (aCode E n T rows b (kQ E n T rows k)) (kQ E n T rows k)
 | .block id k => blockQ id (kQ E n T rows k)
section
variable (E : Env) (n : Nat) (T : Nat → TI) (rows : List Nat)
def xK (k : Kont) (e : Exit) (ts : Ts) (g l : List Ent) : Prop := kQ E n T rows k e ts g l
def xCode (c : Code) (k : Kont) (ts : Ts) (g l : List Ent) : Prop := aCode E n T rows c (kQ E n T rows k) ts g l
def xOps (all : Array Oper) (os : List Oper) (k : Kont) (ts : Ts) (g l : List Ent) : Prop := aOps E T rows all os ts g l (kQ E n T rows k .normal)
def xOut (dst : Option Nat) (all : Array Oper) (os : List Oper) (k : Kont) (ts : Ts) (o : Out) : Prop := outK o fun r g l => xOps E n T rows all os k (tput ts dst r) g l
def xCall (dst : Option Nat) (all : Array Oper) (os : List Oper) (k : Kont) (ts : Ts) (f : AV) (args : List AV) (σ : List Ent) (m : Nat) : Prop :=
 callK E f args σ m fun r g l => xOps E n T rows all os k (tput ts dst r) g l
def xWait (dst : Option Nat) (all : Array Oper) (os : List Oper) (k : Kont) (ts : Ts) (f : FuncId) (args : List AV) (σ : List Ent) (m : Nat) : Prop :=
 ACalls E f args σ fun r τ => xOps E n T rows all os k (tput ts dst r) (τ.take m) (τ.drop m)
def xMeth (dst : Option Nat) (all : Array Oper) (os : List Oper) (k : Kont) (ts : Ts) (m : String) (t : TypeId) (args : List AV) (σ : List Ent) (j : Nat) : Prop :=
 ∃ f, Meth E.P t m f ∧ ACalls E f args σ fun r τ => xOps E n T rows all os k (tput ts dst r) (τ.take j) (τ.drop j)
def xInv (dst : Option Nat) (all : Array Oper) (os : List Oper) (k : Kont) (ts : Ts) (m : String) (rc : AV) (args : List AV) (σ : List Ent) (j : Nat) : Prop :=
 match rc with
 | .ifc t x => xMeth E n T rows dst all os k ts m t (x :: args) σ j
 | _ => False
def xSlot (o : Oper) (want : Bool) (all : Array Oper) (os : List Oper) (k : Kont) (ts : Ts) (g l : List Ent) (s : Option Nat) : Prop :=
 slotK s fun d => guardK (tget ts d) want
   (aOne E T rows o ((d, boolV want) :: ts) g l fun r g l => xOps E n T rows all os k (tput ((d, boolV want) :: ts) o.dst r) g l)
   (xOps E n T rows all os k (tput ((d, boolV (!want)) :: ts) o.dst (.v undef)) g l) (xOps E n T rows all os k (tput ts o.dst (.v undef)) g l)
def xNxt (dst : Option Nat) (all : Array Oper) (os : List Oper) (k : Kont) (ts : Ts) (i : AV) (g l : List Ent) : Prop :=
 aNxt i g l fun r g l => xOps E n T rows all os k (tput ts dst r) g l
def xOne (o : Oper) (all : Array Oper) (os : List Oper) (k : Kont) (ts : Ts) (g l : List Ent) : Prop :=
 aOne E T rows o ts g l fun r g l => xOps E n T rows all os k (tput ts o.dst r) g l
def xGuard (d : Nat) (o : Oper) (want : Bool) (all : Array Oper) (os : List Oper) (k : Kont) (ts : Ts) (g l : List Ent) (v : AV) : Prop :=
 guardK v want (xOne E n T rows o all os k ((d, boolV want) :: ts) g l)
   (xOps E n T rows all os k (tput ((d, boolV (!want)) :: ts) o.dst (.v undef)) g l) (xOps E n T rows all os k (tput ts o.dst (.v undef)) g l)
def xCond (x y : Code) (k : Kont) (ts : Ts) (g l : List Ent) (v : AV) : Prop := condK v (xCode E n T rows x k ts g l) (xCode E n T rows y k ts g l)
variable (all : Array Oper) (os : List Oper) (k : Kont) (ts : Ts) (g l : List Ent)
theorem xCode_skip : xCode E n T rows .skip k ts g l = xK E n T rows k .normal ts g l := nrfl rfl
theorem xCode_region (id : Nat) (ops : Array Oper) : xCode E n T rows (.region id ops false) k ts g l = xOps E n T rows ops ops.toList k ts g l := nrfl rfl
theorem xCode_seq (a b : Code) : xCode E n T rows (.seq a b) k ts g l = xCode E n T rows a (.seq b k) ts g l := nrfl rfl
theorem xCode_cond (c : Operand) (x y : Code) : xCode E n T rows (.cond c x y) k ts g l = xCond E n T rows x y k ts g l (ev ts c) := nrfl rfl
theorem xCode_block (id : Nat) (b : Code) : xCode E n T rows (.block id b) k ts g l = xCode E n T rows b (.block id k) ts g l := nrfl rfl
theorem xCode_exit (id : Nat) : xCode E n T rows (.exit id) k ts g l = xK E n T rows k (.exit id) ts g l := nrfl rfl
theorem xCode_ret : xCode E n T rows .ret k ts g l = xK E n T rows k .ret ts g l := nrfl rfl
theorem xCond_t (x y : Code) : xCond E n T rows x y k ts g l (.v (.bool true)) = xCode E n T rows x k ts g l := nrfl rfl
theorem xCond_f (x y : Code) : xCond E n T rows x y k ts g l (.v (.bool false)) = xCode E n T rows y k ts g l := nrfl rfl
theorem xK_done (Q : Exit → Ts → List Ent → List Ent → Prop) (e : Exit) : xK E n T rows (.done Q) e ts g l = Q e ts g l := nrfl rfl
theorem xK_next_n (K : Ts → List Ent → List Ent → Prop) : xK E n T rows (.next K k) .normal ts g l = K ts g l := nrfl rfl
theorem xK_next_r (K : Ts → List Ent → List Ent → Prop) : xK E n T rows (.next K k) .ret ts g l = xK E n T rows k .ret ts g l := nrfl rfl
theorem xK_next_e (K : Ts → List Ent → List Ent → Prop) (id : Nat) : xK E n T rows (.next K k) (.exit id) ts g l = xK E n T rows k (.exit id) ts g l := nrfl rfl
theorem xK_seq_n (b : Code) : xK E n T rows (.seq b k) .normal ts g l = xCode E n T rows b k ts g l := nrfl rfl
theorem xK_seq_r (b : Code) : xK E n T rows (.seq b k) .ret ts g l = xK E n T rows k .ret ts g l := nrfl rfl
theorem xK_seq_e (b : Code) (id : Nat) : xK E n T rows (.seq b k) (.exit id) ts g l = xK E n T rows k (.exit id) ts g l := nrfl rfl
theorem xK_block_n (id : Nat) : xK E n T rows (.block id k) .normal ts g l = xK E n T rows k .normal ts g l := nrfl rfl
theorem xK_block_r (id : Nat) : xK E n T rows (.block id k) .ret ts g l = xK E n T rows k .ret ts g l := nrfl rfl
theorem xK_block_e (id i : Nat) : xK E n T rows (.block id k) (.exit i) ts g l = if i = id then xK E n T rows k .normal ts g l else xK E n T rows k (.exit i) ts g l := nrfl rfl
theorem xOps_nil : xOps E n T rows all [] k ts g l = xK E n T rows k .normal ts g l := nrfl rfl
theorem xOps_go (dst : Option Nat) (op : Op) (ty : TypeId) (pos : String) (after : Array Edge) :
  xOps E n T rows all (⟨dst, op, ty, pos, after, none⟩ :: os) k ts g l = xOne E n T rows ⟨dst, op, ty, pos, after, none⟩ all os k ts g l := nrfl rfl
theorem xOps_if (dst : Option Nat) (op : Op) (ty : TypeId) (pos : String) (after : Array Edge) (j : Nat) (want : Bool) :
  xOps E n T rows all (⟨dst, op, ty, pos, after, some (j, want)⟩ :: os) k ts g l = xSlot E n T rows ⟨dst, op, ty, pos, after, some (j, want)⟩ want all os k ts g l (gslot all j) := by
 unfold xOps xSlot
 rw [aOps_if]; rfl
theorem xSlot_some (o : Oper) (want : Bool) (d : Nat) : xSlot E n T rows o want all os k ts g l (some d) = xGuard E n T rows d o want all os k ts g l (tget ts d) := nrfl rfl
theorem xGuard_tt (d : Nat) (o : Oper) : xGuard E n T rows d o true all os k ts g l (.v (.bool true)) = xOne E n T rows o all os k ((d, boolV true) :: ts) g l := nrfl rfl
theorem xGuard_ff (d : Nat) (o : Oper) : xGuard E n T rows d o false all os k ts g l (.v (.bool false)) = xOne E n T rows o all os k ((d, boolV false) :: ts) g l := nrfl rfl
theorem xGuard_tf (d : Nat) (o : Oper) : xGuard E n T rows d o false all os k ts g l (.v (.bool true)) = xOps E n T rows all os k (tput ((d, boolV true) :: ts) o.dst (.v undef)) g l := nrfl rfl
theorem xGuard_ft (d : Nat) (o : Oper) : xGuard E n T rows d o true all os k ts g l (.v (.bool false)) = xOps E n T rows all os k (tput ((d, boolV false) :: ts) o.dst (.v undef)) g l := nrfl rfl
theorem xGuard_un (d : Nat) (o : Oper) (want : Bool) (vs : Array Value) : xGuard E n T rows d o want all os k ts g l (.v (.tuple vs)) = xOps E n T rows all os k (tput ts o.dst (.v undef)) g l := nrfl rfl
theorem xOne_move (dst : Option Nat) (x : Operand) (ty : TypeId) (pos : String) (after : Array Edge) (gd : Option (Nat × Bool)) :
  xOne E n T rows ⟨dst, .move x, ty, pos, after, gd⟩ all os k ts g l = xOut E n T rows dst all os k ts (aDet T rows ⟨dst, .move x, ty, pos, after, gd⟩ ts g l) := nrfl rfl
theorem xOne_assign (dst : Option Nat) (x : Operand) (ty : TypeId) (pos : String) (after : Array Edge) (gd : Option (Nat × Bool)) :
  xOne E n T rows ⟨dst, .assign x, ty, pos, after, gd⟩ all os k ts g l = xOut E n T rows dst all os k ts (aDet T rows ⟨dst, .assign x, ty, pos, after, gd⟩ ts g l) := nrfl rfl
theorem xOne_pick (dst : Option Nat) (c a b : Operand) (ty : TypeId) (pos : String) (after : Array Edge) (gd : Option (Nat × Bool)) :
  xOne E n T rows ⟨dst, .pick c a b, ty, pos, after, gd⟩ all os k ts g l = xOut E n T rows dst all os k ts (aDet T rows ⟨dst, .pick c a b, ty, pos, after, gd⟩ ts g l) := nrfl rfl
theorem xOne_alloc (dst : Option Nat) (t : TypeId) (ty : TypeId) (pos : String) (after : Array Edge) (gd : Option (Nat × Bool)) :
  xOne E n T rows ⟨dst, .alloc t, ty, pos, after, gd⟩ all os k ts g l = xOut E n T rows dst all os k ts (aDet T rows ⟨dst, .alloc t, ty, pos, after, gd⟩ ts g l) := nrfl rfl
theorem xOne_box (dst : Option Nat) (t : TypeId) (v : Operand) (ty : TypeId) (pos : String) (after : Array Edge) (gd : Option (Nat × Bool)) :
  xOne E n T rows ⟨dst, .box t v, ty, pos, after, gd⟩ all os k ts g l = xOut E n T rows dst all os k ts (aDet T rows ⟨dst, .box t v, ty, pos, after, gd⟩ ts g l) := nrfl rfl
theorem xOne_build (dst : Option Nat) (t : TypeId) (parts : Array (Nat × Operand)) (ty : TypeId) (pos : String) (after : Array Edge) (gd : Option (Nat × Bool)) :
  xOne E n T rows ⟨dst, .build t parts, ty, pos, after, gd⟩ all os k ts g l = xOut E n T rows dst all os k ts (aDet T rows ⟨dst, .build t parts, ty, pos, after, gd⟩ ts g l) := nrfl rfl
theorem xOne_buildSlice (dst : Option Nat) (t : TypeId) (m : Nat) (parts : Array (Nat × Operand)) (ty : TypeId) (pos : String) (after : Array Edge) (gd : Option (Nat × Bool)) :
  xOne E n T rows ⟨dst, .buildSlice t m parts, ty, pos, after, gd⟩ all os k ts g l = xOut E n T rows dst all os k ts (aDet T rows ⟨dst, .buildSlice t m parts, ty, pos, after, gd⟩ ts g l) := nrfl rfl
theorem xOne_load (dst : Option Nat) (t : TypeId) (a : Operand) (ty : TypeId) (pos : String) (after : Array Edge) (gd : Option (Nat × Bool)) :
  xOne E n T rows ⟨dst, .load t a, ty, pos, after, gd⟩ all os k ts g l = xOut E n T rows dst all os k ts (aDet T rows ⟨dst, .load t a, ty, pos, after, gd⟩ ts g l) := nrfl rfl
theorem xOne_store (dst : Option Nat) (t : TypeId) (a v : Operand) (ty : TypeId) (pos : String) (after : Array Edge) (gd : Option (Nat × Bool)) :
  xOne E n T rows ⟨dst, .store t a v, ty, pos, after, gd⟩ all os k ts g l = xOut E n T rows dst all os k ts (aDet T rows ⟨dst, .store t a v, ty, pos, after, gd⟩ ts g l) := nrfl rfl
theorem xOne_nilCheck (dst : Option Nat) (x : Operand) (ty : TypeId) (pos : String) (after : Array Edge) (gd : Option (Nat × Bool)) :
  xOne E n T rows ⟨dst, .nilCheck x, ty, pos, after, gd⟩ all os k ts g l = xOut E n T rows dst all os k ts (aDet T rows ⟨dst, .nilCheck x, ty, pos, after, gd⟩ ts g l) := nrfl rfl
theorem xOne_binOp (dst : Option Nat) (op : BinOp) (t : TypeId) (x y : Operand) (u : TypeId) (ty : TypeId) (pos : String) (after : Array Edge) (gd : Option (Nat × Bool)) :
  xOne E n T rows ⟨dst, .binOp op t x y u, ty, pos, after, gd⟩ all os k ts g l = xOut E n T rows dst all os k ts (aDet T rows ⟨dst, .binOp op t x y u, ty, pos, after, gd⟩ ts g l) := nrfl rfl
theorem xOne_unOp (dst : Option Nat) (op : UnOp) (t : TypeId) (x : Operand) (ty : TypeId) (pos : String) (after : Array Edge) (gd : Option (Nat × Bool)) :
  xOne E n T rows ⟨dst, .unOp op t x, ty, pos, after, gd⟩ all os k ts g l = xOut E n T rows dst all os k ts (aDet T rows ⟨dst, .unOp op t x, ty, pos, after, gd⟩ ts g l) := nrfl rfl
theorem xOne_convert (dst : Option Nat) (s d : TypeId) (x : Operand) (ty : TypeId) (pos : String) (after : Array Edge) (gd : Option (Nat × Bool)) :
  xOne E n T rows ⟨dst, .convert s d x, ty, pos, after, gd⟩ all os k ts g l = xOut E n T rows dst all os k ts (aDet T rows ⟨dst, .convert s d x, ty, pos, after, gd⟩ ts g l) := nrfl rfl
theorem xOne_makeInterface (dst : Option Nat) (t : TypeId) (x : Operand) (ty : TypeId) (pos : String) (after : Array Edge) (gd : Option (Nat × Bool)) :
  xOne E n T rows ⟨dst, .makeInterface t x, ty, pos, after, gd⟩ all os k ts g l = xOut E n T rows dst all os k ts (aDet T rows ⟨dst, .makeInterface t x, ty, pos, after, gd⟩ ts g l) := nrfl rfl
theorem xOne_makeFunc (dst : Option Nat) (fn : Fn) (first captured : Array Operand) (ty : TypeId) (pos : String) (after : Array Edge) (gd : Option (Nat × Bool)) :
  xOne E n T rows ⟨dst, .makeFunc fn first captured, ty, pos, after, gd⟩ all os k ts g l = xOut E n T rows dst all os k ts (aDet T rows ⟨dst, .makeFunc fn first captured, ty, pos, after, gd⟩ ts g l) := nrfl rfl
theorem xOne_makeMap (dst : Option Nat) (t : TypeId) (r : Option Operand) (ty : TypeId) (pos : String) (after : Array Edge) (gd : Option (Nat × Bool)) :
  xOne E n T rows ⟨dst, .makeMap t r, ty, pos, after, gd⟩ all os k ts g l = xOut E n T rows dst all os k ts (aDet T rows ⟨dst, .makeMap t r, ty, pos, after, gd⟩ ts g l) := nrfl rfl
theorem xOne_makeSlice (dst : Option Nat) (t : TypeId) (a b : Operand) (ty : TypeId) (pos : String) (after : Array Edge) (gd : Option (Nat × Bool)) :
  xOne E n T rows ⟨dst, .makeSlice t a b, ty, pos, after, gd⟩ all os k ts g l = xOut E n T rows dst all os k ts (aDet T rows ⟨dst, .makeSlice t a b, ty, pos, after, gd⟩ ts g l) := nrfl rfl
theorem xOne_slice (dst : Option Nat) (t : TypeId) (x : Operand) (lo hi mx : Option Operand) (ty : TypeId) (pos : String) (after : Array Edge) (gd : Option (Nat × Bool)) :
  xOne E n T rows ⟨dst, .slice t x lo hi mx, ty, pos, after, gd⟩ all os k ts g l = xOut E n T rows dst all os k ts (aDet T rows ⟨dst, .slice t x lo hi mx, ty, pos, after, gd⟩ ts g l) := nrfl rfl
theorem xOne_fieldAddr (dst : Option Nat) (t : TypeId) (x : Operand) (f : Nat) (ty : TypeId) (pos : String) (after : Array Edge) (gd : Option (Nat × Bool)) :
  xOne E n T rows ⟨dst, .fieldAddr t x f, ty, pos, after, gd⟩ all os k ts g l = xOut E n T rows dst all os k ts (aDet T rows ⟨dst, .fieldAddr t x f, ty, pos, after, gd⟩ ts g l) := nrfl rfl
theorem xOne_field (dst : Option Nat) (t : TypeId) (x : Operand) (f : Nat) (ty : TypeId) (pos : String) (after : Array Edge) (gd : Option (Nat × Bool)) :
  xOne E n T rows ⟨dst, .field t x f, ty, pos, after, gd⟩ all os k ts g l = xOut E n T rows dst all os k ts (aDet T rows ⟨dst, .field t x f, ty, pos, after, gd⟩ ts g l) := nrfl rfl
theorem xOne_indexAddr (dst : Option Nat) (t : TypeId) (x i : Operand) (ty : TypeId) (pos : String) (after : Array Edge) (gd : Option (Nat × Bool)) :
  xOne E n T rows ⟨dst, .indexAddr t x i, ty, pos, after, gd⟩ all os k ts g l = xOut E n T rows dst all os k ts (aDet T rows ⟨dst, .indexAddr t x i, ty, pos, after, gd⟩ ts g l) := nrfl rfl
theorem xOne_index (dst : Option Nat) (t : TypeId) (x i : Operand) (ty : TypeId) (pos : String) (after : Array Edge) (gd : Option (Nat × Bool)) :
  xOne E n T rows ⟨dst, .index t x i, ty, pos, after, gd⟩ all os k ts g l = xOut E n T rows dst all os k ts (aDet T rows ⟨dst, .index t x i, ty, pos, after, gd⟩ ts g l) := nrfl rfl
theorem xOne_lookup (dst : Option Nat) (t : TypeId) (x i : Operand) (ok : Bool) (ty : TypeId) (pos : String) (after : Array Edge) (gd : Option (Nat × Bool)) :
  xOne E n T rows ⟨dst, .lookup t x i ok, ty, pos, after, gd⟩ all os k ts g l = xOut E n T rows dst all os k ts (aDet T rows ⟨dst, .lookup t x i ok, ty, pos, after, gd⟩ ts g l) := nrfl rfl
theorem xOne_mapUpdate (dst : Option Nat) (t : TypeId) (m a v : Operand) (ty : TypeId) (pos : String) (after : Array Edge) (gd : Option (Nat × Bool)) :
  xOne E n T rows ⟨dst, .mapUpdate t m a v, ty, pos, after, gd⟩ all os k ts g l = xOut E n T rows dst all os k ts (aDet T rows ⟨dst, .mapUpdate t m a v, ty, pos, after, gd⟩ ts g l) := nrfl rfl
theorem xOne_range (dst : Option Nat) (t : TypeId) (x : Operand) (ty : TypeId) (pos : String) (after : Array Edge) (gd : Option (Nat × Bool)) :
  xOne E n T rows ⟨dst, .range t x, ty, pos, after, gd⟩ all os k ts g l = xOut E n T rows dst all os k ts (aDet T rows ⟨dst, .range t x, ty, pos, after, gd⟩ ts g l) := nrfl rfl
theorem xOne_next (dst : Option Nat) (i : Operand) (ty : TypeId) (pos : String) (after : Array Edge) (gd : Option (Nat × Bool)) :
  xOne E n T rows ⟨dst, .next i false, ty, pos, after, gd⟩ all os k ts g l = xNxt E n T rows dst all os k ts (ev ts i) g l := nrfl rfl
theorem xOne_entry (dst : Option Nat) (i : Operand) (ty : TypeId) (pos : String) (after : Array Edge) (gd : Option (Nat × Bool)) :
  xOne E n T rows ⟨dst, .entry i, ty, pos, after, gd⟩ all os k ts g l = xOut E n T rows dst all os k ts (aDet T rows ⟨dst, .entry i, ty, pos, after, gd⟩ ts g l) := nrfl rfl
theorem xOne_typeAssert (dst : Option Nat) (x : Operand) (t u : TypeId) (ok : Bool) (ty : TypeId) (pos : String) (after : Array Edge) (gd : Option (Nat × Bool)) :
  xOne E n T rows ⟨dst, .typeAssert x t u ok, ty, pos, after, gd⟩ all os k ts g l = xOut E n T rows dst all os k ts (aDet T rows ⟨dst, .typeAssert x t u ok, ty, pos, after, gd⟩ ts g l) := nrfl rfl
theorem xOne_extract (dst : Option Nat) (x : Operand) (i : Nat) (ty : TypeId) (pos : String) (after : Array Edge) (gd : Option (Nat × Bool)) :
  xOne E n T rows ⟨dst, .extract x i, ty, pos, after, gd⟩ all os k ts g l = xOut E n T rows dst all os k ts (aDet T rows ⟨dst, .extract x i, ty, pos, after, gd⟩ ts g l) := nrfl rfl
theorem xOne_builtin (dst : Option Nat) (b : Builtin) (as : Array Operand) (tys : Array TypeId) (ty : TypeId) (pos : String) (after : Array Edge) (gd : Option (Nat × Bool)) :
  xOne E n T rows ⟨dst, .call { callee := .builtin b, args := as, argTypes := tys }, ty, pos, after, gd⟩ all os k ts g l = xOut E n T rows dst all os k ts (aDet T rows ⟨dst, .call { callee := .builtin b, args := as, argTypes := tys }, ty, pos, after, gd⟩ ts g l) := nrfl rfl
theorem xOne_call (dst : Option Nat) (f : Operand) (as : Array Operand) (tys : Array TypeId) (ty : TypeId) (pos : String) (after : Array Edge) (gd : Option (Nat × Bool)) :
  xOne E n T rows ⟨dst, .call { callee := .value f, args := as, argTypes := tys }, ty, pos, after, gd⟩ all os k ts g l = xCall E n T rows dst all os k ts (ev ts f) (as.toList.map (ev ts)) (g ++ l) g.length := nrfl rfl
theorem xOne_invoke (dst : Option Nat) (rc : Operand) (m : String) (as : Array Operand) (tys : Array TypeId) (ty : TypeId) (pos : String) (after : Array Edge) (gd : Option (Nat × Bool)) :
  xOne E n T rows ⟨dst, .call { callee := .invoke rc m, args := as, argTypes := tys }, ty, pos, after, gd⟩ all os k ts g l = xInv E n T rows dst all os k ts m (ev ts rc) (as.toList.map (ev ts)) (g ++ l) g.length := nrfl rfl
theorem xInv_ifc (dst : Option Nat) (m : String) (t : TypeId) (x : AV) (args : List AV) (σ : List Ent) (j : Nat) : xInv E n T rows dst all os k ts m (.ifc t x) args σ j = xMeth E n T rows dst all os k ts m t (x :: args) σ j := nrfl rfl
theorem xCall_fn (dst : Option Nat) (f : FuncId) (a b args : List AV) (σ : List Ent) (m : Nat) : xCall E n T rows dst all os k ts (.fn f a b) args σ m = xWait E n T rows dst all os k ts f (a ++ args ++ b) σ m := nrfl rfl
theorem xOut_pure (dst : Option Nat) (r : AV) : xOut E n T rows dst all os k ts (some (True, r, g, l)) = xOps E n T rows all os k (tput ts dst r) g l := by simp [xOut, outK]
theorem xOut_some (dst : Option Nat) (p : Prop) (r : AV) : xOut E n T rows dst all os k ts (some (p, r, g, l)) = (p ∧ xOps E n T rows all os k (tput ts dst r) g l) := nrfl rfl
theorem xOut_none (dst : Option Nat) : xOut E n T rows dst all os k ts none = False := nrfl rfl
variable {E n T rows all os k ts g l}
theorem xWait.go {dst : Option Nat} {f : FuncId} {args : List AV} {σ : List Ent} {m : Nat} {r : AV} {τ : List Ent} (h : ACalls E f args σ fun r' τ' => r' = r ∧ τ' = τ)
  (hk : xOps E n T rows all os k (tput ts dst r) (τ.take m) (τ.drop m)) : xWait E n T rows dst all os k ts f args σ m := h.go hk
theorem xMeth.go {dst : Option Nat} {f : FuncId} {t : TypeId} {mn : String} {args : List AV} {σ : List Ent} {m : Nat} (hm : Meth E.P t mn f)
  (h : xWait E n T rows dst all os k ts f args σ m) : xMeth E n T rows dst all os k ts mn t args σ m := ⟨f, hm, h⟩
theorem xWait.of {dst : Option Nat} {f : FuncId} {args : List AV} {σ : List Ent} {m : Nat} {R : AV → List Ent → Prop} (h : ACalls E f args σ R)
  (hk : ∀ r τ, R r τ → xOps E n T rows all os k (tput ts dst r) (τ.take m) (τ.drop m)) : xWait E n T rows dst all os k ts f args σ m := h.mono hk
end
section
variable {E : Env} {T : Nat → TI} (hT : TabOK E.P T)
include hT
theorem xacalls {f : FuncId} {fn : Func} {c : Code} {args : List AV} {σ : List Ent} {R : AV → List Ent → Prop} (kp : Keep) (rows : List Nat) (hf : E.P.funcs[f]? = some fn) (hb : fn.body = some c)
  (hname : (fn.name == "runtime.NumGoroutine") = false) (hok : codeOK fn.ntmps c = true) (hargs : args.length ≤ fn.ntmps)
  (h : xCode E fn.ntmps T rows c (.done (retQ T kp fn.results.toList σ R)) (argTs 0 args) σ []) : ACalls E f args σ R :=
 acalls_intro hT kp rows hf hb hname hok hargs h
theorem xbody {f : FuncId} {fn : Func} {c : Code} {args : List AV} {σ : List Ent} {R : AV → List Ent → Prop} (kp : Keep) (rows : List Nat) (hf : E.P.funcs[f]? = some fn) (hb : fn.body = some c)
  (hname : (fn.name == "runtime.NumGoroutine") = false) (hok : codeOK fn.ntmps c = true) (hargs : args.length ≤ fn.ntmps)
  (h : xCode E fn.ntmps T rows c (.done (retQ T kp fn.results.toList σ R)) (argTs 0 args) σ []) : HasBody E f ∧ ∀ (s : S) (vs : List Value), s.σ = σ → HInv s → E.Γ s.B s.w → RepL s args vs →
  Calls E.P f vs.toArray s.w fun e w' => ∃ v r s', e = .returned v ∧ s'.w = w' ∧ HInv s' ∧ Ext s s' ∧ Rep s' r v ∧ R r s'.σ :=
 acalls_body hT kp rows hf hb hname hok hargs h
theorem xloop {n : Nat} {rows : List Nat} {c : Code} {k : Kont} {ts : Ts} {g l : List Ent} {α : Type} (τ : α → Ts) (G L : α → List Ent) (I : α → Prop) (μ : α → Nat)
  (hok : codeOK n c = true) (h0 : ∃ x, I x ∧ Sub ts (τ x) ∧ g = G x ∧ l = L x)
  (round : ∀ x, I x → xCode E n T rows c (.next (fun ts' g' l' => ∃ y, I y ∧ μ y < μ x ∧ Sub ts' (τ y) ∧ g' = G y ∧ l' = L y) k) (τ x) (G x) (L x)) : xCode E n T rows (.loop c) k ts g l :=
 awp_loop hT τ G L I μ hok h0 round
end
end Go.Vm
set_option linter.unusedSimpArgs false
set_option linter.unusedSectionVars false
namespace Go.Vm
open Go.RowKit
theorem aOne_mono {E : Env} {T : Nat → TI} {rows : List Nat} {o : Oper} {ts : Ts} {g l : List Ent} {K K' : AV → List Ent → List Ent → Prop} (hk : ∀ r g l, K r g l → K' r g l) (h : aOne E T rows o ts g l K) : aOne E T rows o ts g l K' := by
 unfold aOne at h ⊢
 split
 ·rename_i f as tys ho
  simp only [ho] at h
  split
  ·rename_i fid first cap hf
   simp only [hf] at h
   exact h.mono fun _ _ hh => hk _ _ _ hh
  ·rename_i hf
   split at h
   ·rename_i fid first cap hf'; exact absurd hf' (hf fid first cap)
   ·exact h
 ·rename_i rc m as tys ho
  simp only [ho] at h
  split
  ·rename_i t x hf
   simp only [hf] at h
   obtain ⟨f, h1, h2⟩ := h
   exact ⟨f, h1, h2.mono fun _ _ hh => hk _ _ _ hh⟩
  ·rename_i hf
   split at h
   ·rename_i t x hf'; exact absurd hf' (hf t x)
   ·exact h
 ·rename_i i ho
  simp only [ho] at h
  unfold aNxt at h ⊢
  split
  ·rename_i id hi
   simp only [hi] at h
   split
   ·rename_i m since seen last hg
    simp only [hg] at h
    split
    ·rename_i es clock hm
     simp only [hm] at h
     exact ⟨h.1, h.2.1, fun hh => hk _ _ _ (h.2.2.1 hh), fun e he hs => hk _ _ _ (h.2.2.2 e he hs)⟩
    ·rename_i hm; simp only [hm] at h
   ·rename_i hm; simp only [hm] at h
  ·rename_i hm; simp only [hm] at h
 ·rename_i ho ho2 ho3
  split at h
  ·rename_i f as tys ho'; exact absurd ho' (ho f as tys)
  ·rename_i rc m as tys ho'; exact absurd ho' (ho2 rc m as tys)
  ·rename_i i ho'; exact absurd ho' (ho3 i)
  ·split
   ·rename_i p r g' l' hd
    simp only [hd] at h
    exact ⟨h.1, hk _ _ _ h.2⟩
   ·rename_i hd; simp only [hd] at h
theorem aOps_mono {E : Env} {T : Nat → TI} {rows : List Nat} {all : Array Oper} : ∀ {os : List Oper} {ts : Ts} {g l : List Ent} {K K' : Ts → List Ent → List Ent → Prop}, (∀ ts g l, K ts g l → K' ts g l) → aOps E T rows all os ts g l K → aOps E T rows all os ts g l K'
 | [], _, _, _, _, _, hk, h => hk _ _ _ h
 | o :: os, ts, g, l, K, K', hk, h => by
  unfold aOps at h ⊢
  cases hg : o.guard with
  | none =>
   simp only [hg] at h ⊢
   exact aOne_mono (fun _ _ _ hh => aOps_mono hk hh) h
  | some jw =>
   obtain ⟨j, want⟩ := jw
   simp only [hg] at h ⊢
   cases hs : gslot all j with
   | none => simp [hs] at h
   | some d =>
    simp only [hs] at h ⊢
    generalize tget ts d = v at h ⊢
    cases v with
    | v x =>
     cases x with
     | bool b =>
      simp only at h ⊢
      split at h
      ·rename_i hb; rw [if_pos hb]; exact aOne_mono (fun _ _ _ hh => aOps_mono hk hh) h
      ·rename_i hb; rw [if_neg hb]; exact aOps_mono hk h
     | tuple q => exact aOps_mono hk h
     | _ => exact h.elim
    | _ => exact h.elim
theorem aCode_mono {E : Env} {n : Nat} {T : Nat → TI} {rows : List Nat} : ∀ {c : Code} {ts : Ts} {g l : List Ent} {Q Q' : Exit → Ts → List Ent → List Ent → Prop}, (∀ e ts g l, Q e ts g l → Q' e ts g l) → aCode E n T rows c Q ts g l → aCode E n T rows c Q' ts g l
 | .skip, _, _, _, _, _, hq, h => hq _ _ _ _ h
 | .region id ops true, _, _, _, _, _, hq, h => AWp.mono h fun e ts g l _ => hq e ts g l
 | .region id ops false, _, _, _, _, _, hq, h => aOps_mono (fun _ _ _ => hq _ _ _ _) h
 | .seq a b, _, _, _, Q, Q', hq, h => by
  refine aCode_mono (c := a) (fun e ts g l => ?_) h
  cases e <;> simp only [thenQ]
  case normal => exact aCode_mono hq
  all_goals exact hq _ _ _ _
 | .cond c x y, ts, _, _, _, _, hq, h => by
  unfold aCode at h ⊢
  generalize ev ts c = v at h ⊢
  cases v with
  | v x =>
   cases x with
   | bool b =>
    simp only at h ⊢
    split at h
    ·rename_i hb; rw [if_pos hb]; exact aCode_mono hq h
    ·rename_i hb; rw [if_neg hb]; exact aCode_mono hq h
   | _ => exact h.elim
  | _ => exact h.elim
 | .block id b, _, _, _, Q, Q', hq, h => by
  refine aCode_mono (c := b) (fun e ts g l => ?_) h
  cases e <;> simp only [blockQ] <;> try exact hq _ _ _ _
  split
  ·exact hq _ _ _ _
  ·exact hq _ _ _ _
 | .loop b, _, _, _, _, _, hq, h => AWp.mono h fun e ts g l _ => hq e ts g l
 | .exit id, _, _, _, _, _, hq, h => hq _ _ _ _ h
 | .ret, _, _, _, _, _, hq, h => hq _ _ _ _ h
 | .refuse _, _, _, _, _, _, hq, h => h.elim
 | .scope _, _, _, _, _, _, hq, h => h.elim
 | .label _, _, _, _, _, _, hq, h => h.elim
 | .goto _, _, _, _, _, _, hq, h => h.elim
 | .rangeFunc .., _, _, _, _, _, hq, h => h.elim
section
variable {E : Env} {n : Nat} {T : Nat → TI} {rows : List Nat}
def Kle (E : Env) (n : Nat) (T : Nat → TI) (rows : List Nat) (k' k : Kont) : Prop := ∀ e ts g l, kQ E n T rows k' e ts g l → kQ E n T rows k e ts g l
theorem Kle.refl (k : Kont) : Kle E n T rows k k := fun _ _ _ _ h => h
theorem Kle.cut {b : Code} {k : Kont} (M : Ts → List Ent → List Ent → Prop) (h : ∀ ts g l, M ts g l → xCode E n T rows b k ts g l) : Kle E n T rows (.next M k) (.seq b k) := by
 intro e ts g l
 cases e <;> simp only [kQ, thenQ]
 case normal => exact h ts g l
 all_goals exact id
theorem Kle.seq {b : Code} {k' k : Kont} (h : Kle E n T rows k' k) : Kle E n T rows (.seq b k') (.seq b k) := by
 intro e ts g l
 cases e <;> simp only [kQ, thenQ]
 case normal => exact aCode_mono h
 all_goals exact h _ _ _ _
theorem Kle.block {id : Nat} {k' k : Kont} (h : Kle E n T rows k' k) : Kle E n T rows (.block id k') (.block id k) := by
 intro e ts g l
 cases e <;> simp only [kQ, blockQ] <;> try exact h _ _ _ _
 split
 ·exact h _ _ _ _
 ·exact h _ _ _ _
variable {k' k : Kont} (hk : Kle E n T rows k' k) {all : Array Oper} {os : List Oper} {ts : Ts} {g l : List Ent}
include hk
theorem xCode.cut {c : Code} (h : xCode E n T rows c k' ts g l) : xCode E n T rows c k ts g l := aCode_mono hk h
theorem xOps.cut (h : xOps E n T rows all os k' ts g l) : xOps E n T rows all os k ts g l := aOps_mono (hk .normal) h
theorem xCond.cut {x y : Code} {v : AV} (h : xCond E n T rows x y k' ts g l v) : xCond E n T rows x y k ts g l v := by
 unfold xCond condK at *
 cases v with
 | v q =>
  cases q with
  | bool b => simp only at h ⊢; split at h <;> rename_i hb <;> simp only [hb, if_true, if_false, Bool.false_eq_true] <;> exact xCode.cut hk h
  | _ => exact h
 | _ => exact h
theorem xOne.cut {o : Oper} (h : xOne E n T rows o all os k' ts g l) : xOne E n T rows o all os k ts g l := aOne_mono (fun _ _ _ hh => xOps.cut hk hh) h
theorem xGuard.cut {d : Nat} {o : Oper} {want : Bool} {v : AV} (h : xGuard E n T rows d o want all os k' ts g l v) : xGuard E n T rows d o want all os k ts g l v := by
 unfold xGuard guardK at *
 cases v with
 | v q =>
  cases q with
  | bool b => simp only at h ⊢; split at h <;> rename_i hb <;> simp only [hb, if_true, if_false] <;> first | exact xOne.cut hk h | exact xOps.cut hk h
  | tuple q => exact xOps.cut hk h
  | _ => exact h
 | _ => exact h
theorem xWait.cut {dst : Option Nat} {f : FuncId} {args : List AV} {σ : List Ent} {m : Nat} (h : xWait E n T rows dst all os k' ts f args σ m) : xWait E n T rows dst all os k ts f args σ m :=
 h.mono fun _ _ hh => xOps.cut hk hh
end
theorem xdraw {E : Env} {T : Nat → TI} (hT : TabOK E.P T) {n id : Nat} {rows : List Nat} {ops : Array Oper} {k : Kont} {ts : Ts} {g l : List Ent} (bars : List Nat)
  (hm : E.P.follows .mixedOrders = true) (hord : ordered ops = true) (hbar : barred ops bars = true) (hok : opsOK n ops.toList = true)
  (h : aDraw E T ops bars 0 ops.toList ts g l fun ts' g' l' => xK E n T rows k .normal ts' g' l') : xCode E n T rows (.region id ops true) k ts g l := by
 unfold xCode
 rw [aCode_draw]
 exact awp_draw hT bars hm hord hbar hok h
end Go.Vm
namespace Go.Vm
open Go.RowKit
section
variable (E : Env) (n : Nat) (T : Nat → TI) (rows bars : List Nat) (i : Nat)
def yDraw (all : Array Oper) (os : List Oper) (k : Kont) (ts : Ts) (g l : List Ent) : Prop := aDraw E T all bars i os ts g l fun ts g l => xK E n T rows k .normal ts g l
def yNext (o : Oper) (all : Array Oper) (os : List Oper) (k : Kont) (ts : Ts) (g l : List Ent) : Prop :=
 aNext bars i E T o ts g l fun r g l => yDraw E n T rows bars (i + 1) all os k (tput ts o.dst r) g l
def yOut (bar : Bool) (dst : Option Nat) (all : Array Oper) (os : List Oper) (k : Kont) (ts : Ts) (g l : List Ent) (o : Out) : Prop :=
 detK bar g l o fun r g l => yDraw E n T rows bars (i + 1) all os k (tput ts dst r) g l
def ySlot (o : Oper) (want : Bool) (all : Array Oper) (os : List Oper) (k : Kont) (ts : Ts) (g l : List Ent) (s : Option Nat) : Prop :=
 slotK s fun d => guardK (tget ts d) want
   (aNext bars i E T o ((d, boolV want) :: ts) g l fun r g l => aDraw E T all bars (i + 1) os (tput ((d, boolV want) :: ts) o.dst r) g l fun ts g l => xK E n T rows k .normal ts g l)
   (aDraw E T all bars (i + 1) os (tput ((d, boolV (!want)) :: ts) o.dst (.v undef)) g l fun ts g l => xK E n T rows k .normal ts g l)
   (aDraw E T all bars (i + 1) os (tput ts o.dst (.v undef)) g l fun ts g l => xK E n T rows k .normal ts g l)
def yGuard (d : Nat) (o : Oper) (want : Bool) (all : Array Oper) (os : List Oper) (k : Kont) (ts : Ts) (g l : List Ent) (v : AV) : Prop :=
 guardK v want (yNext E n T rows bars i o all os k ((d, boolV want) :: ts) g l)
   (yDraw E n T rows bars (i + 1) all os k (tput ((d, boolV (!want)) :: ts) o.dst (.v undef)) g l) (yDraw E n T rows bars (i + 1) all os k (tput ts o.dst (.v undef)) g l)
def yWait (dst : Option Nat) (all : Array Oper) (os : List Oper) (k : Kont) (ts : Ts) (f : FuncId) (args : List AV) (g l : List Ent) : Prop :=
 bars.contains i = false ∧ ∃ r, (ACalls E f args (g ++ l) fun r' τ' => r' = r ∧ τ' = g ++ l) ∧ yDraw E n T rows bars (i + 1) all os k (tput ts dst r) g l
variable (all : Array Oper) (os : List Oper) (k : Kont) (ts : Ts) (g l : List Ent)
theorem yDraw_nil : yDraw E n T rows bars i all [] k ts g l = xK E n T rows k .normal ts g l := nrfl rfl
theorem yDraw_go (dst : Option Nat) (op : Op) (ty : TypeId) (pos : String) (after : Array Edge) :
  yDraw E n T rows bars i all (⟨dst, op, ty, pos, after, none⟩ :: os) k ts g l = yNext E n T rows bars i ⟨dst, op, ty, pos, after, none⟩ all os k ts g l := nrfl rfl
theorem yDraw_if (dst : Option Nat) (op : Op) (ty : TypeId) (pos : String) (after : Array Edge) (j : Nat) (want : Bool) :
  yDraw E n T rows bars i all (⟨dst, op, ty, pos, after, some (j, want)⟩ :: os) k ts g l = ySlot E n T rows bars i ⟨dst, op, ty, pos, after, some (j, want)⟩ want all os k ts g l (gslot all j) := by
 unfold yDraw ySlot
 rw [aDraw_if]
theorem ySlot_some (o : Oper) (want : Bool) (d : Nat) : ySlot E n T rows bars i o want all os k ts g l (some d) = yGuard E n T rows bars i d o want all os k ts g l (tget ts d) := nrfl rfl
theorem yGuard_tt (d : Nat) (o : Oper) : yGuard E n T rows bars i d o true all os k ts g l (.v (.bool true)) = yNext E n T rows bars i o all os k ((d, boolV true) :: ts) g l := nrfl rfl
theorem yGuard_ff (d : Nat) (o : Oper) : yGuard E n T rows bars i d o false all os k ts g l (.v (.bool false)) = yNext E n T rows bars i o all os k ((d, boolV false) :: ts) g l := nrfl rfl
theorem yGuard_tf (d : Nat) (o : Oper) : yGuard E n T rows bars i d o false all os k ts g l (.v (.bool true)) = yDraw E n T rows bars (i + 1) all os k (tput ((d, boolV true) :: ts) o.dst (.v undef)) g l := nrfl rfl
theorem yGuard_ft (d : Nat) (o : Oper) : yGuard E n T rows bars i d o true all os k ts g l (.v (.bool false)) = yDraw E n T rows bars (i + 1) all os k (tput ((d, boolV false) :: ts) o.dst (.v undef)) g l := nrfl rfl
theorem yGuard_un (d : Nat) (o : Oper) (want : Bool) (vs : Array Value) : yGuard E n T rows bars i d o want all os k ts g l (.v (.tuple vs)) = yDraw E n T rows bars (i + 1) all os k (tput ts o.dst (.v undef)) g l := nrfl rfl
theorem yOut_some (bar : Bool) (dst : Option Nat) (p : Prop) (r : AV) (g1 l1 : List Ent) : yOut E n T rows bars i bar dst all os k ts g l (some (p, r, g1, l1)) =
  (p ∧ (if bar = true then g1.length = g.length else g1 = g ∧ l1 = l) ∧ yDraw E n T rows bars (i + 1) all os k (tput ts dst r) g1 l1) := nrfl rfl
theorem yOut_pure (dst : Option Nat) (r : AV) : yOut E n T rows bars i false dst all os k ts g l (some (True, r, g, l)) = yDraw E n T rows bars (i + 1) all os k (tput ts dst r) g l := by
 rw [yOut_some]; simp
theorem yOut_cond (dst : Option Nat) (p : Prop) (r : AV) : yOut E n T rows bars i false dst all os k ts g l (some (p, r, g, l)) = (p ∧ yDraw E n T rows bars (i + 1) all os k (tput ts dst r) g l) := by
 rw [yOut_some]; simp
theorem yNext_det (o : Oper) (h : notCall o.op = true) : yNext E n T rows bars i o all os k ts g l = yOut E n T rows bars i (bars.contains i) o.dst all os k ts g l (aDet T [] o ts g l) := by
 unfold yNext
 rw [aNext_det _ _ _ _ _ _ _ _ _ h]; rfl
theorem yWait_call {dst : Option Nat} {f : FuncId} {as : Array Operand} {tys : Array TypeId} {ty : TypeId} {pos : String} {after : Array Edge} {gd : Option (Nat × Bool)}
  (h : yWait E n T rows bars i dst all os k ts f (as.toList.map (ev ts)) g l) : yNext E n T rows bars i ⟨dst, .call { callee := .value (.func f), args := as, argTypes := tys }, ty, pos, after, gd⟩ all os k ts g l := by
 obtain ⟨h0, r, h1, h2⟩ := h
 exact aNext_call _ _ _ _ _ _ _ _ h0 h1 h2
variable (ix : Nat)
theorem yNext_move (dst : Option Nat) (x : Operand) (ty : TypeId) (pos : String) (after : Array Edge) (gd : Option (Nat × Bool)) :
  yNext E n T rows bars ix ⟨dst, .move x, ty, pos, after, gd⟩ all os k ts g l = yOut E n T rows bars ix (bars.contains ix) dst all os k ts g l (aDet T [] ⟨dst, .move x, ty, pos, after, gd⟩ ts g l) := yNext_det E n T rows bars ix all os k ts g l _ rfl
theorem yNext_assign (dst : Option Nat) (x : Operand) (ty : TypeId) (pos : String) (after : Array Edge) (gd : Option (Nat × Bool)) :
  yNext E n T rows bars ix ⟨dst, .assign x, ty, pos, after, gd⟩ all os k ts g l = yOut E n T rows bars ix (bars.contains ix) dst all os k ts g l (aDet T [] ⟨dst, .assign x, ty, pos, after, gd⟩ ts g l) := yNext_det E n T rows bars ix all os k ts g l _ rfl
theorem yNext_pick (dst : Option Nat) (c a b : Operand) (ty : TypeId) (pos : String) (after : Array Edge) (gd : Option (Nat × Bool)) :
  yNext E n T rows bars ix ⟨dst, .pick c a b, ty, pos, after, gd⟩ all os k ts g l = yOut E n T rows bars ix (bars.contains ix) dst all os k ts g l (aDet T [] ⟨dst, .pick c a b, ty, pos, after, gd⟩ ts g l) := yNext_det E n T rows bars ix all os k ts g l _ rfl
theorem yNext_alloc (dst : Option Nat) (t : TypeId) (ty : TypeId) (pos : String) (after : Array Edge) (gd : Option (Nat × Bool)) :
  yNext E n T rows bars ix ⟨dst, .alloc t, ty, pos, after, gd⟩ all os k ts g l = yOut E n T rows bars ix (bars.contains ix) dst all os k ts g l (aDet T [] ⟨dst, .alloc t, ty, pos, after, gd⟩ ts g l) := yNext_det E n T rows bars ix all os k ts g l _ rfl
theorem yNext_box (dst : Option Nat) (t : TypeId) (v : Operand) (ty : TypeId) (pos : String) (after : Array Edge) (gd : Option (Nat × Bool)) :
  yNext E n T rows bars ix ⟨dst, .box t v, ty, pos, after, gd⟩ all os k ts g l = yOut E n T rows bars ix (bars.contains ix) dst all os k ts g l (aDet T [] ⟨dst, .box t v, ty, pos, after, gd⟩ ts g l) := yNext_det E n T rows bars ix all os k ts g l _ rfl
theorem yNext_build (dst : Option Nat) (t : TypeId) (parts : Array (Nat × Operand)) (ty : TypeId) (pos : String) (after : Array Edge) (gd : Option (Nat × Bool)) :
  yNext E n T rows bars ix ⟨dst, .build t parts, ty, pos, after, gd⟩ all os k ts g l = yOut E n T rows bars ix (bars.contains ix) dst all os k ts g l (aDet T [] ⟨dst, .build t parts, ty, pos, after, gd⟩ ts g l) := yNext_det E n T rows bars ix all os k ts g l _ rfl
theorem yNext_buildSlice (dst : Option Nat) (t : TypeId) (m : Nat) (parts : Array (Nat × Operand)) (ty : TypeId) (pos : String) (after : Array Edge) (gd : Option (Nat × Bool)) :
  yNext E n T rows bars ix ⟨dst, .buildSlice t m parts, ty, pos, after, gd⟩ all os k ts g l = yOut E n T rows bars ix (bars.contains ix) dst all os k ts g l (aDet T [] ⟨dst, .buildSlice t m parts, ty, pos, after, gd⟩ ts g l) := yNext_det E n T rows bars ix all os k ts g l _ rfl
theorem yNext_load (dst : Option Nat) (t : TypeId) (a : Operand) (ty : TypeId) (pos : String) (after : Array Edge) (gd : Option (Nat × Bool)) :
  yNext E n T rows bars ix ⟨dst, .load t a, ty, pos, after, gd⟩ all os k ts g l = yOut E n T rows bars ix (bars.contains ix) dst all os k ts g l (aDet T [] ⟨dst, .load t a, ty, pos, after, gd⟩ ts g l) := yNext_det E n T rows bars ix all os k ts g l _ rfl
theorem yNext_store (dst : Option Nat) (t : TypeId) (a v : Operand) (ty : TypeId) (pos : String) (after : Array Edge) (gd : Option (Nat × Bool)) :
  yNext E n T rows bars ix ⟨dst, .store t a v, ty, pos, after, gd⟩ all os k ts g l = yOut E n T rows bars ix (bars.contains ix) dst all os k ts g l (aDet T [] ⟨dst, .store t a v, ty, pos, after, gd⟩ ts g l) := yNext_det E n T rows bars ix all os k ts g l _ rfl
theorem yNext_nilCheck (dst : Option Nat) (x : Operand) (ty : TypeId) (pos : String) (after : Array Edge) (gd : Option (Nat × Bool)) :
  yNext E n T rows bars ix ⟨dst, .nilCheck x, ty, pos, after, gd⟩ all os k ts g l = yOut E n T rows bars ix (bars.contains ix) dst all os k ts g l (aDet T [] ⟨dst, .nilCheck x, ty, pos, after, gd⟩ ts g l) := yNext_det E n T rows bars ix all os k ts g l _ rfl
theorem yNext_binOp (dst : Option Nat) (op : BinOp) (t : TypeId) (x y : Operand) (u : TypeId) (ty : TypeId) (pos : String) (after : Array Edge) (gd : Option (Nat × Bool)) :
  yNext E n T rows bars ix ⟨dst, .binOp op t x y u, ty, pos, after, gd⟩ all os k ts g l = yOut E n T rows bars ix (bars.contains ix) dst all os k ts g l (aDet T [] ⟨dst, .binOp op t x y u, ty, pos, after, gd⟩ ts g l) := yNext_det E n T rows bars ix all os k ts g l _ rfl
theorem yNext_unOp (dst : Option Nat) (op : UnOp) (t : TypeId) (x : Operand) (ty : TypeId) (pos : String) (after : Array Edge) (gd : Option (Nat × Bool)) :
  yNext E n T rows bars ix ⟨dst, .unOp op t x, ty, pos, after, gd⟩ all os k ts g l = yOut E n T rows bars ix (bars.contains ix) dst all os k ts g l (aDet T [] ⟨dst, .unOp op t x, ty, pos, after, gd⟩ ts g l) := yNext_det E n T rows bars ix all os k ts g l _ rfl
theorem yNext_convert (dst : Option Nat) (s d : TypeId) (x : Operand) (ty : TypeId) (pos : String) (after : Array Edge) (gd : Option (Nat × Bool)) :
  yNext E n T rows bars ix ⟨dst, .convert s d x, ty, pos, after, gd⟩ all os k ts g l = yOut E n T rows bars ix (bars.contains ix) dst all os k ts g l (aDet T [] ⟨dst, .convert s d x, ty, pos, after, gd⟩ ts g l) := yNext_det E n T rows bars ix all os k ts g l _ rfl
theorem yNext_makeInterface (dst : Option Nat) (t : TypeId) (x : Operand) (ty : TypeId) (pos : String) (after : Array Edge) (gd : Option (Nat × Bool)) :
  yNext E n T rows bars ix ⟨dst, .makeInterface t x, ty, pos, after, gd⟩ all os k ts g l = yOut E n T rows bars ix (bars.contains ix) dst all os k ts g l (aDet T [] ⟨dst, .makeInterface t x, ty, pos, after, gd⟩ ts g l) := yNext_det E n T rows bars ix all os k ts g l _ rfl
theorem yNext_makeFunc (dst : Option Nat) (fn : Fn) (first captured : Array Operand) (ty : TypeId) (pos : String) (after : Array Edge) (gd : Option (Nat × Bool)) :
  yNext E n T rows bars ix ⟨dst, .makeFunc fn first captured, ty, pos, after, gd⟩ all os k ts g l = yOut E n T rows bars ix (bars.contains ix) dst all os k ts g l (aDet T [] ⟨dst, .makeFunc fn first captured, ty, pos, after, gd⟩ ts g l) := yNext_det E n T rows bars ix all os k ts g l _ rfl
theorem yNext_makeMap (dst : Option Nat) (t : TypeId) (r : Option Operand) (ty : TypeId) (pos : String) (after : Array Edge) (gd : Option (Nat × Bool)) :
  yNext E n T rows bars ix ⟨dst, .makeMap t r, ty, pos, after, gd⟩ all os k ts g l = yOut E n T rows bars ix (bars.contains ix) dst all os k ts g l (aDet T [] ⟨dst, .makeMap t r, ty, pos, after, gd⟩ ts g l) := yNext_det E n T rows bars ix all os k ts g l _ rfl
theorem yNext_makeSlice (dst : Option Nat) (t : TypeId) (a b : Operand) (ty : TypeId) (pos : String) (after : Array Edge) (gd : Option (Nat × Bool)) :
  yNext E n T rows bars ix ⟨dst, .makeSlice t a b, ty, pos, after, gd⟩ all os k ts g l = yOut E n T rows bars ix (bars.contains ix) dst all os k ts g l (aDet T [] ⟨dst, .makeSlice t a b, ty, pos, after, gd⟩ ts g l) := yNext_det E n T rows bars ix all os k ts g l _ rfl
theorem yNext_slice (dst : Option Nat) (t : TypeId) (x : Operand) (lo hi mx : Option Operand) (ty : TypeId) (pos : String) (after : Array Edge) (gd : Option (Nat × Bool)) :
  yNext E n T rows bars ix ⟨dst, .slice t x lo hi mx, ty, pos, after, gd⟩ all os k ts g l = yOut E n T rows bars ix (bars.contains ix) dst all os k ts g l (aDet T [] ⟨dst, .slice t x lo hi mx, ty, pos, after, gd⟩ ts g l) := yNext_det E n T rows bars ix all os k ts g l _ rfl
theorem yNext_fieldAddr (dst : Option Nat) (t : TypeId) (x : Operand) (f : Nat) (ty : TypeId) (pos : String) (after : Array Edge) (gd : Option (Nat × Bool)) :
  yNext E n T rows bars ix ⟨dst, .fieldAddr t x f, ty, pos, after, gd⟩ all os k ts g l = yOut E n T rows bars ix (bars.contains ix) dst all os k ts g l (aDet T [] ⟨dst, .fieldAddr t x f, ty, pos, after, gd⟩ ts g l) := yNext_det E n T rows bars ix all os k ts g l _ rfl
theorem yNext_field (dst : Option Nat) (t : TypeId) (x : Operand) (f : Nat) (ty : TypeId) (pos : String) (after : Array Edge) (gd : Option (Nat × Bool)) :
  yNext E n T rows bars ix ⟨dst, .field t x f, ty, pos, after, gd⟩ all os k ts g l = yOut E n T rows bars ix (bars.contains ix) dst all os k ts g l (aDet T [] ⟨dst, .field t x f, ty, pos, after, gd⟩ ts g l) := yNext_det E n T rows bars ix all os k ts g l _ rfl
theorem yNext_indexAddr (dst : Option Nat) (t : TypeId) (x i : Operand) (ty : TypeId) (pos : String) (after : Array Edge) (gd : Option (Nat × Bool)) :
  yNext E n T rows bars ix ⟨dst, .indexAddr t x i, ty, pos, after, gd⟩ all os k ts g l = yOut E n T rows bars ix (bars.contains ix) dst all os k ts g l (aDet T [] ⟨dst, .indexAddr t x i, ty, pos, after, gd⟩ ts g l) := yNext_det E n T rows bars ix all os k ts g l _ rfl
theorem yNext_index (dst : Option Nat) (t : TypeId) (x i : Operand) (ty : TypeId) (pos : String) (after : Array Edge) (gd : Option (Nat × Bool)) :
  yNext E n T rows bars ix ⟨dst, .index t x i, ty, pos, after, gd⟩ all os k ts g l = yOut E n T rows bars ix (bars.contains ix) dst all os k ts g l (aDet T [] ⟨dst, .index t x i, ty, pos, after, gd⟩ ts g l) := yNext_det E n T rows bars ix all os k ts g l _ rfl
theorem yNext_lookup (dst : Option Nat) (t : TypeId) (x i : Operand) (ok : Bool) (ty : TypeId) (pos : String) (after : Array Edge) (gd : Option (Nat × Bool)) :
  yNext E n T rows bars ix ⟨dst, .lookup t x i ok, ty, pos, after, gd⟩ all os k ts g l = yOut E n T rows bars ix (bars.contains ix) dst all os k ts g l (aDet T [] ⟨dst, .lookup t x i ok, ty, pos, after, gd⟩ ts g l) := yNext_det E n T rows bars ix all os k ts g l _ rfl
theorem yNext_mapUpdate (dst : Option Nat) (t : TypeId) (m a v : Operand) (ty : TypeId) (pos : String) (after : Array Edge) (gd : Option (Nat × Bool)) :
  yNext E n T rows bars ix ⟨dst, .mapUpdate t m a v, ty, pos, after, gd⟩ all os k ts g l = yOut E n T rows bars ix (bars.contains ix) dst all os k ts g l (aDet T [] ⟨dst, .mapUpdate t m a v, ty, pos, after, gd⟩ ts g l) := yNext_det E n T rows bars ix all os k ts g l _ rfl
theorem yNext_range (dst : Option Nat) (t : TypeId) (x : Operand) (ty : TypeId) (pos : String) (after : Array Edge) (gd : Option (Nat × Bool)) :
  yNext E n T rows bars ix ⟨dst, .range t x, ty, pos, after, gd⟩ all os k ts g l = yOut E n T rows bars ix (bars.contains ix) dst all os k ts g l (aDet T [] ⟨dst, .range t x, ty, pos, after, gd⟩ ts g l) := yNext_det E n T rows bars ix all os k ts g l _ rfl
theorem yNext_next (dst : Option Nat) (i : Operand) (ty : TypeId) (pos : String) (after : Array Edge) (gd : Option (Nat × Bool)) :
  yNext E n T rows bars ix ⟨dst, .next i true, ty, pos, after, gd⟩ all os k ts g l = yOut E n T rows bars ix (bars.contains ix) dst all os k ts g l (aDet T [] ⟨dst, .next i true, ty, pos, after, gd⟩ ts g l) := yNext_det E n T rows bars ix all os k ts g l _ rfl
theorem yNext_entry (dst : Option Nat) (i : Operand) (ty : TypeId) (pos : String) (after : Array Edge) (gd : Option (Nat × Bool)) :
  yNext E n T rows bars ix ⟨dst, .entry i, ty, pos, after, gd⟩ all os k ts g l = yOut E n T rows bars ix (bars.contains ix) dst all os k ts g l (aDet T [] ⟨dst, .entry i, ty, pos, after, gd⟩ ts g l) := yNext_det E n T rows bars ix all os k ts g l _ rfl
theorem yNext_typeAssert (dst : Option Nat) (x : Operand) (t u : TypeId) (ok : Bool) (ty : TypeId) (pos : String) (after : Array Edge) (gd : Option (Nat × Bool)) :
  yNext E n T rows bars ix ⟨dst, .typeAssert x t u ok, ty, pos, after, gd⟩ all os k ts g l = yOut E n T rows bars ix (bars.contains ix) dst all os k ts g l (aDet T [] ⟨dst, .typeAssert x t u ok, ty, pos, after, gd⟩ ts g l) := yNext_det E n T rows bars ix all os k ts g l _ rfl
theorem yNext_extract (dst : Option Nat) (x : Operand) (i : Nat) (ty : TypeId) (pos : String) (after : Array Edge) (gd : Option (Nat × Bool)) :
  yNext E n T rows bars ix ⟨dst, .extract x i, ty, pos, after, gd⟩ all os k ts g l = yOut E n T rows bars ix (bars.contains ix) dst all os k ts g l (aDet T [] ⟨dst, .extract x i, ty, pos, after, gd⟩ ts g l) := yNext_det E n T rows bars ix all os k ts g l _ rfl
theorem yNext_builtin (dst : Option Nat) (b : Builtin) (as : Array Operand) (tys : Array TypeId) (ty : TypeId) (pos : String) (after : Array Edge) (gd : Option (Nat × Bool)) :
  yNext E n T rows bars ix ⟨dst, .call { callee := .builtin b, args := as, argTypes := tys }, ty, pos, after, gd⟩ all os k ts g l = yOut E n T rows bars ix (bars.contains ix) dst all os k ts g l (aDet T [] ⟨dst, .call { callee := .builtin b, args := as, argTypes := tys }, ty, pos, after, gd⟩ ts g l) := yNext_det E n T rows bars ix all os k ts g l _ rfl
end
theorem yNext.go {E : Env} {n : Nat} {T : Nat → TI} {rows bars : List Nat} {i : Nat} {all : Array Oper} {os : List Oper} {k : Kont} {ts : Ts} {g l : List Ent}
  {dst : Option Nat} {f : FuncId} {as : Array Operand} {tys : Array TypeId} {ty : TypeId} {pos : String} {after : Array Edge} {gd : Option (Nat × Bool)} {r : AV}
  (h0 : bars.contains i = false) (args : List AV) (ha : as.toList.map (ev ts) = args) (h : ACalls E f args (g ++ l) fun r' τ' => r' = r ∧ τ' = g ++ l)
  (hk : yDraw E n T rows bars (i + 1) all os k (tput ts dst r) g l) :
  yNext E n T rows bars i ⟨dst, .call { callee := .value (.func f), args := as, argTypes := tys }, ty, pos, after, gd⟩ all os k ts g l :=
 yWait_call E n T rows bars i all os k ts g l ⟨h0, r, by rw [ha]; exact h, hk⟩
theorem ydraw {E : Env} {T : Nat → TI} (hT : TabOK E.P T) {n id : Nat} {rows : List Nat} {ops : Array Oper} {k : Kont} {ts : Ts} {g l : List Ent} (bars : List Nat)
  (hm : E.P.follows .mixedOrders = true) (hord : ordered ops = true) (hbar : barred ops bars = true) (hok : opsOK n ops.toList = true)
  (h : yDraw E n T rows bars 0 ops ops.toList k ts g l) : xCode E n T rows (.region id ops true) k ts g l :=
 xdraw hT bars hm hord hbar hok h
end Go.Vm
namespace Go.Vm
open Go.RowKit
theorem storeLow_refl (n : Nat) (g : List Ent) : StoreLow n g g = True := eq_true (StoreLow.refl n g)
theorem sub_nil (ts : Ts) : Sub ts [] = True := eq_true fun _ h => by cases h
theorem sub_cons (ts : Ts) (i : Nat) (x : AV) (r : Ts) : Sub ts ((i, x) :: r) = (tget ts i = x ∧ Sub ts r) := by
 apply propext
 constructor
 ·intro h; exact ⟨h (i, x) (by simp), fun p hp => h p (by simp [hp])⟩
 ·rintro ⟨h1, h2⟩ p hp
  rcases List.mem_cons.1 hp with rfl | hp
  ·exact h1
  ·exact h2 p hp
theorem take_drop_all {α : Type} (l : List α) (i : Nat) : List.take (l.length - i) (List.drop i l) = List.drop i l := List.take_of_length_le (by simp)
theorem nat_add_one (n : Nat) : (n : Int) + 1 = ((n + 1 : Nat) : Int) := by simp
theorem nat_add_two (n : Nat) : (n : Int) + 2 = ((n + 2 : Nat) : Int) := by simp
theorem wrapI64 {x : Int} (h0 : -9223372036854775808 ≤ x) (h1 : x ≤ 9223372036854775807) : IntKind.i64.wrap x = x := by
 have hb : IntKind.i64.bits = 64 := rfl
 have hs : IntKind.i64.signed = true := rfl
 simp only [IntKind.wrap, hb, hs, Bool.true_and, ge_iff_le, decide_eq_true_eq]
 split <;> omega
theorem acalls_lib' {E : Env} {f : FuncId} {args : List AV} {σ : List Ent} {R : AV → Prop} (hb : HasBody E f)
  (h : ∀ (s : S) (vs : List Value), HInv s → E.Γ s.B s.w → RepL s args vs →
   Calls E.P f vs.toArray s.w fun e w' => ∃ v r, e = .returned v ∧ Below s.w.heap.size s.w w' ∧ Rep { s with w := w' } r v ∧ R r) : ACalls E f args σ fun r' τ => R r' ∧ τ = σ :=
 .inl ⟨hb, fun s vs hs hI hΓ hr => (h s vs hI hΓ hr).mono fun _ w' ⟨v, r, h1, h2, h3, h4⟩ =>
  ⟨v, r, { s with w := w' }, h1, rfl, hI.of_below h2, Ext.of_below hI h2, h3, h4, hs⟩⟩
theorem acalls_lib {E : Env} {f : FuncId} {args : List AV} {σ : List Ent} {r : AV} (hb : HasBody E f)
  (h : ∀ (s : S) (vs : List Value), HInv s → E.Γ s.B s.w → RepL s args vs →
   Calls E.P f vs.toArray s.w fun e w' => ∃ v, e = .returned v ∧ Below s.w.heap.size s.w w' ∧ Rep { s with w := w' } r v) : ACalls E f args σ fun r' τ => r' = r ∧ τ = σ :=
 acalls_lib' hb fun s vs h1 h2 h3 => (h s vs h1 h2 h3).mono fun _ w' ⟨v, h4, h5, h6⟩ => ⟨v, r, h4, h5, h6, rfl⟩
theorem repL1 {s : S} {x : AV} {vs : List Value} (h : RepL s [x] vs) : ∃ v, vs = [v] ∧ Rep s x v := by
 unfold RepL RepL at h
 obtain ⟨v, vs', rfl, hv, rfl⟩ := h
 exact ⟨v, rfl, hv⟩
theorem repL2 {s : S} {x y : AV} {vs : List Value} (h : RepL s [x, y] vs) : ∃ v w, vs = [v, w] ∧ Rep s x v ∧ Rep s y w := by
 unfold RepL at h
 obtain ⟨v, vs', rfl, hv, h⟩ := h
 obtain ⟨w, rfl, hw⟩ := repL1 h
 exact ⟨v, w, rfl, hv, hw⟩
theorem rep_v' {s : S} {x y : Value} (h : Rep s (.v x) y) : y = x := by unfold Rep at h; exact h
theorem rep_str {s : S} {l : List UInt8} {y : Value} (h : Rep s (.str l) y) : y = .string ⟨⟨l⟩⟩ := by unfold Rep at h; exact h
theorem rep_mk_v (s : S) (x : Value) : Rep s (.v x) x := by unfold Rep; rfl
theorem rep_mk_str (s : S) (l : List UInt8) : Rep s (.str l) (.string ⟨⟨l⟩⟩) := by unfold Rep; rfl
theorem imm_new {s : S} (hI : HInv s) {w' : World} {blk : Nat} (h1 : s.w.heap.size ≤ blk) (h2 : blk < w'.heap.size) (off : Nat) : Imm { s with w := w' } blk off := by
 refine ⟨h2, fun id e b he hb hbb => ?_⟩
 have := (hI.slot id b hb).2
 omega
theorem rep_mk_strs {s : S} (hI : HInv s) (ss : List (List UInt8)) (t : TypeId) :
  Rep { s with w := s.w.alloc (.cells (ss.map fun l => Value.string ⟨⟨l⟩⟩).toArray t) } (.sl (ss.map .str)) (.slice (some ⟨s.w.heap.size, 0, none⟩) ss.length ss.length) := by
 unfold Rep
 refine ⟨_, _, by rw [List.length_map], by simp, .inr ⟨_, _, 1, rfl, by omega, RepRow.mk fun i e hi => ?_⟩⟩
 simp only [List.getElem?_map, Option.map_eq_some_iff] at hi
 obtain ⟨l, hl, rfl⟩ := hi
 refine ⟨.string ⟨⟨l⟩⟩, ?_, rep_mk_str _ l⟩
 unfold LoadsAt
 simp only [AV.isAgg, Bool.false_eq_true, if_false]
 refine ⟨by first | rfl | trivial, ?_, imm_new hI (Nat.le_refl _) (by show s.w.heap.size < (s.w.heap.push _).size; simp) _⟩
 rw [World.cell?_alloc_new]
 simp [hl]
theorem strs_at {s : S} {ss : List (List UInt8)} {v : Value} (h : Rep s (.sl (ss.map .str)) v) :
  ∃ a cap, v = .slice a ss.length cap ∧ ss.length ≤ cap ∧ (ss = [] ∨ ∃ blk off, a = some ⟨blk, off, none⟩ ∧ ∀ j l, ss[j]? = some l → s.w.cell? ⟨blk, off + j, none⟩ = some (.string ⟨⟨l⟩⟩)) := by
 unfold Rep at h
 obtain ⟨a, cap, rfl, hc, hh⟩ := h
 rw [List.length_map] at *
 refine ⟨a, cap, rfl, hc, ?_⟩
 rcases hh with hh | ⟨blk, off, k, rfl, hk, hrow⟩
 ·left; simpa using hh
 ·right
  refine ⟨blk, off, rfl, fun j l hj => ?_⟩
  obtain ⟨y, h1, h2⟩ := hrow.get (i := j) (e := .str l) (by simp [hj])
  have h3 := h1.cell
  have := rep_str h2
  subst this
  obtain ⟨rfl, h4, _⟩ := h3
  simpa using h4
theorem sget_g0 (σ : List Ent) (e : Ent) (r l : List Ent) : sget (σ ++ e :: r) l σ.length = some e := by simp [sget]
theorem sget_g1 (σ : List Ent) (e f : Ent) (r l : List Ent) : sget (σ ++ e :: f :: r) l (σ.length + 1) = some f := by simp [sget]
theorem ssetG_g0 (σ : List Ent) (e e' : Ent) (r : List Ent) : ssetG (σ ++ e :: r) σ.length e' = σ ++ e' :: r := by simp [ssetG]
theorem ssetG_g1 (σ : List Ent) (e f e' : Ent) (r : List Ent) : ssetG (σ ++ e :: f :: r) (σ.length + 1) e' = σ ++ e :: e' :: r := by simp [ssetG, List.set_append]
theorem ssetL_g0 (σ : List Ent) (e e' : Ent) (r l : List Ent) : ssetL (σ ++ e :: r) l σ.length e' = l := by simp [ssetL]
theorem ssetL_g1 (σ : List Ent) (e f e' : Ent) (r l : List Ent) : ssetL (σ ++ e :: f :: r) l (σ.length + 1) e' = l := by simp [ssetL]
theorem sget_l0 (g : List Ent) (e : Ent) (r : List Ent) : sget g (e :: r) g.length = some e := by simp [sget]
theorem sget_l1 (g : List Ent) (e f : Ent) (r : List Ent) : sget g (e :: f :: r) (g.length + 1) = some f := by simp [sget]
theorem sget_l2 (g : List Ent) (e f h : Ent) (r : List Ent) : sget g (e :: f :: h :: r) (g.length + 2) = some h := by simp [sget]
theorem ssetG_l0 (g : List Ent) (e : Ent) : ssetG g g.length e = g := by simp [ssetG]
theorem ssetG_l1 (g : List Ent) (n : Nat) (e : Ent) : ssetG g (g.length + n) e = g := by unfold ssetG; rw [if_neg (by omega)]
theorem ssetL_l0 (g : List Ent) (e e' : Ent) (r : List Ent) : ssetL g (e :: r) g.length e' = e' :: r := by simp [ssetL]
theorem ssetL_l1 (g : List Ent) (e f e' : Ent) (r : List Ent) : ssetL g (e :: f :: r) (g.length + 1) e' = e :: e' :: r := by unfold ssetL; rw [if_neg (by omega), Nat.add_sub_cancel_left]; rfl
theorem ssetL_l2 (g : List Ent) (e f h e' : Ent) (r : List Ent) : ssetL g (e :: f :: h :: r) (g.length + 2) e' = e :: f :: e' :: r := by unfold ssetL; rw [if_neg (by omega), Nat.add_sub_cancel_left]; rfl
theorem take_a1 (σ : List Ent) (e : Ent) (r : List Ent) : (σ ++ e :: r).take (σ.length + 1) = σ ++ [e] := by simp [List.take_append, List.take_of_length_le]
theorem drop_a1 (σ : List Ent) (e : Ent) (r : List Ent) : (σ ++ e :: r).drop (σ.length + 1) = r := by simp [List.drop_append]
theorem take_a2 (σ : List Ent) (e f : Ent) (r : List Ent) : (σ ++ e :: f :: r).take (σ.length + 2) = σ ++ [e, f] := by simp [List.take_append, List.take_of_length_le]
theorem drop_a2 (σ : List Ent) (e f : Ent) (r : List Ent) : (σ ++ e :: f :: r).drop (σ.length + 2) = r := by simp [List.drop_append]
theorem sget_l (g l : List Ent) (n : Nat) : sget g l (g.length + n) = l[n]? := by unfold sget; rw [if_neg (by omega), Nat.add_sub_cancel_left]
theorem ssetL_l (g l : List Ent) (n : Nat) (e : Ent) : ssetL g l (g.length + n) e = l.set n e := by unfold ssetL; rw [if_neg (by omega), Nat.add_sub_cancel_left]
theorem get_end (l : List Ent) (e : Ent) (r : List Ent) : (l ++ e :: r)[l.length]? = some e := by simp
theorem set_end (l : List Ent) (e e' : Ent) (r : List Ent) : (l ++ e :: r).set l.length e' = l ++ e' :: r := by simp
theorem get_end1 (l : List Ent) (e f : Ent) (r : List Ent) : (l ++ e :: f :: r)[l.length + 1]? = some f := by simp
theorem set_end1 (l : List Ent) (e f e' : Ent) (r : List Ent) : (l ++ e :: f :: r).set (l.length + 1) e' = l ++ e :: e' :: r := by simp [List.set_append]
end Go.Vm
namespace Go.Vm
open Go.RowKit Go.ChangeShapes Go.WideShapes
theorem calls_top {E : Env} {f : FuncId} {args : List AV} {R : AV → List Ent → Prop}
  (h : HasBody E f ∧ ∀ (s : S) (vs : List Value), s.σ = [] → HInv s → E.Γ s.B s.w → RepL s args vs →
   Calls E.P f vs.toArray s.w fun e w' => ∃ v r s', e = .returned v ∧ s'.w = w' ∧ HInv s' ∧ Ext s s' ∧ Rep s' r v ∧ R r s'.σ)
  (hR : ∀ r τ, R r τ → r = boolV true) (W : World) (vs : List Value) (hΓ : E.Γ W.heap.size W) (hr : RepL ⟨[], [], W, W.heap.size⟩ args vs) :
  Calls E.P f vs.toArray W fun e w' => e = .returned (.bool true) ∧ Below W.heap.size W w' := by
 have hI : HInv ⟨[], [], W, W.heap.size⟩ := ⟨rfl, Nat.le_refl _, fun id b h => by simp at h, fun i j b c h => by simp at h, fun id e b h => by simp at h, fun id e b h => by simp at h⟩
 refine (h.2 ⟨[], [], W, W.heap.size⟩ vs rfl hI hΓ hr).mono ?_
 rintro e w' ⟨v, r, s', rfl, rfl, h1, h2, h3, h4⟩
 refine ⟨?_, h2.below⟩
 rw [hR _ _ h4] at h3
 unfold boolV at h3
 unfold Rep at h3
 rw [h3]
theorem post_of_below {H : Type} {enc : TypeId × Value → H} {P : Program} {f : Func} {s : ChangeSpec} {apart fresh handsOn again : Bool} {W W' : World} {args : Array Value} {v : Value} {ds gs : List (DataW H)} {before pa pv : List MemPlace}
  (hW : DataW.Whole enc P f.params.toList s.vars apart W args.toList ds gs before)
  (hres : ∀ (b : Nat) (sp : Nat → Bool) (hd : Bool), DataW.TrodAll enc P W' b sp hd f.resultTypes.toList (v.resultList f.resultTypes.size) (s.fn H (ds ++ gs)).results [])
  (hargs : ∀ sp : Nat → Bool, (∀ p ∈ before, sp p.block = true) → DataW.TrodAll enc P W' 0 sp true f.params.toList args.toList (s.fn H (ds ++ gs)).args pa)
  (hvars : ∀ sp : Nat → Bool, (∀ p ∈ before, sp p.block = true) → DataW.TrodVars enc P W' sp s.vars (s.fn H (ds ++ gs)).vars pv)
  (hps : before = pa ++ pv) (hb : Below W.heap.size W W')
  (hok : ∀ (j : Nat) (t : TypeId) (r : Value), f.resultTypes[j]? = some t → (v.resultList f.resultTypes.size)[j]? = some r → Value.okWide P W' .any 0 t r) :
  s.post enc P f apart fresh handsOn again W args v W' := by
 have hold : ∀ p ∈ before, (fun b => decide (b < W.heap.size)) p.block = true := fun p hp => by simpa using hW.lt p hp
 have hlt := hW.lt
 refine ⟨ds, gs, before, [], pa, pv, hW, hres _ _ _, hargs _ hold, hvars _ hold, World.keptBut_mono (fun p hp => ⟨hp, ?_⟩) (hb.frame (· ∈ before)), fun _ => ?_⟩
 ·rw [hps, List.mem_append] at hp
  exact Or.inr hp
 ·obtain ⟨_, _, _, _, _, hz, hn⟩ := hW
  refine ⟨hok, _, _, ([] ++ pa) ++ pv, ⟨[] ++ pa, pv, trodAll_append (hargs _ (fun _ _ => rfl)) (hres _ _ _), hvars _ (fun _ _ => rfl), rfl, ?_, ?_⟩, ?_⟩
  ·intro b off hp
   have hp' : MemPlace.cell b off ∈ before := by rw [hps]; simpa using hp
   rw [hb.frozen (p := ⟨b, off, none⟩) (hlt _ hp')]
   exact hz b off hp'
  ·intro ha
   have := hn ha
   rw [hps] at this
   simpa using this
  ·intro p hp _
   rw [hps]
   simpa using hp
theorem laid_mem {P : Program} {w : World} : ∀ {l : List (String × DataW Unit)} {ps : List MemPlace}, DataW.LaidVars P w l ps → ∀ n d, (n, d) ∈ l →
  ∃ g t cs fuel p, P.globalNamed n = some g ∧ (P.globals[g]?).map (·.type) = some t ∧ w.var? P n = some cs ∧ DataW.trod (fun _ => ()) P w 0 (fun _ => true) false fuel t cs.toList = some (d, p)
 | [], _, _, n, d, h => by cases h
 | (n', d') :: r, ps, h, n, d, hm => by
  obtain ⟨g, t, cs, fuel, p, q, h1, h2, h3, h4, h5, _⟩ := h
  rcases List.mem_cons.1 hm with hm | hm
  ·injection hm with e1 e2
   subst e1; subst e2
   exact ⟨g, t, cs, fuel, p, h1, h2, h3, h4⟩
  ·exact laid_mem h5 n d hm
theorem trod_iface {H : Type} {enc : TypeId × Value → H} {P : Program} {w : World} {base : Nat} {sp : Nat → Bool} {held : Bool} {fuel : Nat} {t : TypeId} {cs : List Value} {n : String} {d : DataW H} {p : List MemPlace} {ms}
  (ht : P.underlying t = some (.interface ms)) (h : DataW.trod enc P w base sp held fuel t cs = some (.iface n d, p)) : ∃ u v, cs = [.iface u v] := by
 cases fuel with
 | zero => simp [DataW.trod] at h
 | succ fuel =>
  unfold DataW.trod at h
  rw [ht] at h
  split at h <;> simp_all
theorem laid_iface {P : Program} {w : World} {l : List (String × DataW Unit)} (h : laidMet P l w) {n : String} {s : String} {d : DataW Unit} (hm : (n, .iface s d) ∈ l) {g : Nat} {t : TypeId} {ms}
  (hg : P.globalNamed n = some g) (hty : (P.globals[g]?).map (·.type) = some t) (ht : P.underlying t = some (.interface ms)) : ∃ u v, w.cell? ⟨g, 0, none⟩ = some (.iface u v) := by
 obtain ⟨ps, h, _⟩ := h
 obtain ⟨g', t', cs, fuel, p, h1, h2, h3, h4⟩ := laid_mem h _ _ hm
 obtain rfl := Option.some.inj (hg.symm.trans h1)
 obtain rfl := Option.some.inj (hty.symm.trans h2)
 obtain ⟨u, v, e⟩ := trod_iface ht h4
 refine ⟨u, v, ?_⟩
 rw [World.var?_cell hg h3 0]
 have : cs.toList[0]? = some (.iface u v) := by rw [e]; rfl
 simpa using this
theorem laid_tab {P : Program} {w : World} {l : List (String × DataW Unit)} (h : laidMet P l w) {n : String} {k : IntKind} {zs : List Int} (hm : (n, Lib.tabData k zs) ∈ l) {g : Nat} {t e : TypeId} {m : Nat}
  (hg : P.globalNamed n = some g) (hty : (P.globals[g]?).map (·.type) = some t) (ht : P.underlying t = some (.array m e)) (he : P.underlying e = some (.int k)) (hce : P.cellsOf e = 1) (hct : P.cellsOf t = m) : Lib.TabIs P w n k zs := by
 obtain ⟨ps, h, _⟩ := h
 obtain ⟨g', t', cs, fuel, p, h1, h2, h3, h4⟩ := laid_mem h _ _ hm
 obtain rfl := Option.some.inj (hg.symm.trans h1)
 obtain rfl := Option.some.inj (hty.symm.trans h2)
 unfold Lib.TabIs
 rw [h3, ← Lib.cells_of_tab ht he hce hct h4]
theorem shape_int {P : Program} {w : World} {g : Nat} {t : TypeId} {k : IntKind} {zero : Array Value} (h : w.ShapedOpen P) (hg : g < P.globals.size)
  (h0 : ((begin P (fun _ _ => 0) default).world.heap[g]?).bind Obj.row? = some (zero, t)) (hz : zero.size = 1)
  (hb : P.buildable t = true) (hc : P.cellTypes P.depth t = some [t]) (hu : P.underlying t = some (.int k)) : ∃ n, w.cell? ⟨g, 0, none⟩ = some (.int k n) := by
 obtain ⟨cs, hh, hs, hr⟩ := h.1 g zero t hg h0
 obtain ⟨ts, hts, _, hall⟩ := hr hb
 rw [hc] at hts
 cases hts
 have h1 : 0 < cs.size := by omega
 obtain ⟨u, hu', hok⟩ := hall 0 cs[0] (by simp [h1])
 have : u = t := by simpa using hu'.symm
 subst this
 have hcell : w.cell? ⟨g, 0, none⟩ = some cs[0] := by simp [World.cell?, hh, h1]
 rw [hcell]
 unfold Cell.ok at hok
 rw [hu] at hok
 cases hv : cs[0] <;> rw [hv] at hok <;> simp at hok
 obtain ⟨rfl, _⟩ := hok
 exact ⟨_, rfl⟩
theorem block_lt {w : World} {a : Addr} {v : Value} (h : w.cell? a = some v) : a.block < w.heap.size := by
 unfold World.cell? at h
 split at h
 ·rename_i hb; exact (Array.getElem?_eq_some_iff.1 hb).1
 ·cases h
theorem witness_row {H : Type} {enc : TypeId × Value → H} {C : Checked} {os : Os} {f : FuncId} {fn : Func} {s : OpenSpec} {conds : List PathCond} {apart : Bool} {laid : List (String × DataW Unit)} (w0 : World) (args : Array Value) (hos : w0.os = os)
  (hsh : (w0.forCall (fun _ _ => 0) ⟨#[], args, []⟩).Shaped C.prog)
  (hok : Input.okWideB C.prog (w0.forCall (fun _ _ => 0) ⟨#[], args, []⟩) f ⟨#[], args, []⟩ = true)
  (hrow : s.preRow enc C.prog fn conds apart laid (w0.forCall (fun _ _ => 0) ⟨#[], args, []⟩).memory args) :
  ∃ (w : World) (tape : Tape) (i : Input), w.os = os ∧ (w.forCall tape i).Shaped C.prog ∧ i.vars = [] ∧ Input.okWide C.prog (w.forCall tape i) .any w.heap.size f i ∧
   s.preRow enc C.prog fn conds apart laid (w.forCall tape i).memory i.args ∧ ({} : Assume).holds C.prog (lone (Frame.enter C.prog f i.args .normal) [] (w.forCall tape i)) :=
 ⟨w0, fun _ _ => 0, ⟨#[], args, []⟩, hos, hsh, (Input.okWide_of_okWideB (base := 0) hok).1, (Input.okWide_of_okWideB hok).2, hrow, by
  simp only [Assume.holds]
  exact ⟨by simp, by simp, by simp, by simp, by simp⟩⟩
theorem args_stay {H : Type} {enc : TypeId × Value → H} {P : Program} (hl : laidOutB P = true) {W W' : World} (hb : Below W.heap.size W W') {sp : Nat → Bool} : ∀ {ts : List TypeId} {vs : List Value} {ds : List (DataW H)} {ps : List MemPlace},
  (∀ t ∈ ts, P.readableRec t = true ∧ t < P.types.size) → DataW.TrodAll enc P W 0 (fun _ => true) true ts vs ds ps → (∀ p ∈ ps, sp p.block = true) → DataW.TrodAll enc P W' 0 sp true ts vs ds ps
 | [], _, _, _, _, h, _ => by
  obtain ⟨rfl, rfl, rfl⟩ := trodAll_nil h
  exact rfl
 | t :: ts, vs, ds, ps, ht, h, hs => by
  have hlt := DataW.TrodAll.lt h
  obtain ⟨v, vs', d, ds', p, q, rfl, rfl, rfl, h1, h2⟩ := trodAll_cons h
  obtain ⟨r1, r2⟩ := ht t (by simp)
  refine ⟨p, q, ?_, args_stay hl hb (fun u hu => ht u (by simp [hu])) h2 (fun x hx => hs x (by simp [hx])), rfl⟩
  refine WideElems.Trod_stays hl r1 r2 h1 (fun x hx => ?_) (fun x hx => hs x (by simp [hx]))
  have hx' := hlt x (by simp [hx])
  cases x with
  | cell b off => exact hb.cell (p := ⟨b, off, none⟩) hx'
  | map b => exact hb.block b hx'
end Go.Vm
set_option linter.defProp false
namespace Go.Vm
open Go Go.RowKit
theorem natCast_add_r (a b : Nat) : (a : Int) + (b : Int) = ((a + b : Nat) : Int) := (Int.natCast_add a b).symm
def vm1 := And.intro (And.intro (And.intro (And.intro (And.intro (And.intro (@xCode_skip) (@xCode_region)) (And.intro (@xCode_seq) (@xCode_cond))) (And.intro (And.intro (@xCode_block) (@xCode_exit)) (And.intro (@xCode_ret) (@xCond_t)))) (And.intro (And.intro (And.intro (@xCond_f) (@xK_done)) (And.intro (@xK_next_n) (@xK_next_r))) (And.intro (And.intro (@xK_next_e) (@xK_seq_n)) (And.intro (@xK_seq_r) (And.intro (@xK_seq_e) (@xK_block_n)))))) (And.intro (And.intro (And.intro (And.intro (@xK_block_r) (@xK_block_e)) (And.intro (@xOps_nil) (@xOps_go))) (And.intro (And.intro (@xOps_if) (@xSlot_some)) (And.intro (@xGuard_tt) (And.intro (@xGuard_ff) (@xGuard_tf))))) (And.intro (And.intro (And.intro (@xGuard_ft) (@xGuard_un)) (And.intro (@xOne_move) (@xOne_assign))) (And.intro (And.intro (@xOne_pick) (@xOne_alloc)) (And.intro (@xOne_box) (And.intro (@xOne_build) (@xOne_buildSlice))))))) (And.intro (And.intro (And.intro (And.intro (And.intro (@xOne_load) (@xOne_store)) (And.intro (@xOne_nilCheck) (@xOne_binOp))) (And.intro (And.intro (@xOne_unOp) (@xOne_convert)) (And.intro (@xOne_makeInterface) (@xOne_makeFunc)))) (And.intro (And.intro (And.intro (@xOne_makeMap) (@xOne_makeSlice)) (And.intro (@xOne_slice) (@xOne_fieldAddr))) (And.intro (And.intro (@xOne_field) (@xOne_indexAddr)) (And.intro (@xOne_index) (And.intro (@xOne_lookup) (@xOne_mapUpdate)))))) (And.intro (And.intro (And.intro (And.intro (@xOne_range) (@xOne_next)) (And.intro (@xOne_entry) (@xOne_typeAssert))) (And.intro (And.intro (@xOne_extract) (@xOne_builtin)) (And.intro (@xOne_call) (And.intro (@xOne_invoke) (@xInv_ifc))))) (And.intro (And.intro (And.intro (@xCall_fn) (@xOut_pure)) (And.intro (@xOut_some) (@xOut_none))) (And.intro (And.intro (@if_true.{0}) (@if_true.{1})) (And.intro (@if_false.{0}) (And.intro (@if_false.{1}) (@true_and)))))))
def vm2 := And.intro (And.intro (And.intro (And.intro (And.intro (And.intro (@and_true) (@Option.map_some.{0,0})) (And.intro (@Option.map_none.{0,0}) (@List.getElem?_cons_zero.{0}))) (And.intro (And.intro (@List.getElem?_cons_succ.{0}) (@List.getElem?_toArray.{0})) (And.intro (@Option.bind_some.{0,0}) (@Option.bind_none.{0,0})))) (And.intro (And.intro (And.intro (@decide_true) (@decide_false)) (And.intro (@Bool.and_true) (@Bool.true_and))) (And.intro (And.intro (@Bool.and_false) (@Bool.false_and)) (And.intro (@Bool.or_true) (And.intro (@Bool.true_or) (@Bool.or_false)))))) (And.intro (And.intro (And.intro (And.intro (@Bool.false_or) (@Bool.false_eq_true)) (And.intro (@Bool.not_true) (@Bool.not_false))) (And.intro (And.intro (@Nat.zero_add) (@List.map_cons.{0,0})) (And.intro (@List.map_nil.{0,0}) (And.intro (@List.nil_append.{0}) (@List.append_nil.{0}))))) (And.intro (And.intro (And.intro (@List.cons_append.{0}) (@List.take_left.{0})) (And.intro (@List.drop_left.{0}) (@List.take_length.{0}))) (And.intro (And.intro (@List.drop_length.{0}) (@List.all_cons.{0})) (And.intro (@List.all_nil.{0}) (And.intro (@Nat.add_zero) (@Int.cast_ofNat_Int))))))) (And.intro (And.intro (And.intro (And.intro (And.intro (@List.length_nil.{0}) (@List.length_cons.{0})) (And.intro (@avBytes_map) (@storeLow_refl))) (And.intro (And.intro (@sub_nil) (@sub_cons)) (And.intro (@Bool.or_self) (@Bool.and_self)))) (And.intro (And.intro (And.intro (@Bool.not_not) (@and_self)) (And.intro (@Int.toNat_natCast) (@Int.natCast_nonneg))) (And.intro (And.intro (@Int.le_refl) (@Nat.le_refl)) (And.intro (@take_drop_all) (And.intro (@List.drop_zero.{0}) (@Nat.sub_zero)))))) (And.intro (And.intro (And.intro (And.intro (@natCast_add_r) (@nat_add_one)) (And.intro (@nat_add_two) (@sget_g0))) (And.intro (And.intro (@sget_g1) (@ssetG_g0)) (And.intro (@ssetG_g1) (And.intro (@ssetL_g0) (@ssetL_g1))))) (And.intro (And.intro (And.intro (@sget_l0) (@sget_l1)) (And.intro (@sget_l2) (@ssetG_l0))) (And.intro (And.intro (@ssetG_l1) (@ssetL_l0)) (And.intro (@ssetL_l1) (And.intro (@ssetL_l2) (@Int.zero_add)))))))
def vm3 := And.intro (And.intro (And.intro (And.intro (And.intro (And.intro (@Int.add_zero) (@List.contains_nil.{0})) (And.intro (@List.elem_nil.{0}) (@yDraw_nil))) (And.intro (And.intro (@yDraw_go) (@yDraw_if)) (And.intro (@ySlot_some) (@yGuard_tt)))) (And.intro (And.intro (And.intro (@yGuard_ff) (@yGuard_tf)) (And.intro (@yGuard_ft) (@yGuard_un))) (And.intro (And.intro (@yOut_pure) (@yOut_cond)) (And.intro (@yOut_some) (And.intro (@yNext_move) (@yNext_assign)))))) (And.intro (And.intro (And.intro (And.intro (@yNext_pick) (@yNext_alloc)) (And.intro (@yNext_box) (@yNext_build))) (And.intro (And.intro (@yNext_buildSlice) (@yNext_load)) (And.intro (@yNext_store) (And.intro (@yNext_nilCheck) (@yNext_binOp))))) (And.intro (And.intro (And.intro (@yNext_unOp) (@yNext_convert)) (And.intro (@yNext_makeInterface) (@yNext_makeFunc))) (And.intro (And.intro (@yNext_makeMap) (@yNext_makeSlice)) (And.intro (@yNext_slice) (And.intro (@yNext_fieldAddr) (@yNext_field))))))) (And.intro (And.intro (And.intro (And.intro (And.intro (@yNext_indexAddr) (@yNext_index)) (And.intro (@yNext_lookup) (@yNext_mapUpdate))) (And.intro (And.intro (@yNext_range) (@yNext_next)) (And.intro (@yNext_entry) (@yNext_typeAssert)))) (And.intro (And.intro (And.intro (@yNext_extract) (@yNext_builtin)) (And.intro (@List.length_append.{0}) (@List.append_assoc.{0}))) (And.intro (And.intro (@take_a1) (@drop_a1)) (And.intro (@take_a2) (And.intro (@drop_a2) (@List.set_cons_zero.{0})))))) (And.intro (And.intro (And.intro (And.intro (@List.set_cons_succ.{0}) (@List.size_toArray.{0})) (And.intro (@beq_self_eq_true.{0}) (@List.flatMap_cons.{0,0}))) (And.intro (And.intro (@List.flatMap_nil.{0,0}) (@Option.any_some.{0})) (And.intro (@List.mem_singleton.{0}) (And.intro (@forall_eq.{1}) (@List.length_map.{0,0}))))) (And.intro (And.intro (And.intro (@Nat.mul_one) (@List.contains_cons.{0})) (And.intro (@List.isEmpty_cons.{0}) (@List.isEmpty_nil.{0}))) (And.intro (And.intro (@List.take_succ_cons.{0}) (@List.take_zero.{0})) (And.intro (@Nat.add_sub_cancel_left) (And.intro (@sget_l) (@ssetL_l)))))))
def vm4 := And.intro (And.intro (@get_end) (@set_end)) (And.intro (@get_end1) (And.intro (@set_end1) (@List.drop_succ_cons.{0})))
def vm5 := And.intro (And.intro (And.intro (And.intro (And.intro (And.intro (@aDet.eq_1) (@ev.eq_1)) (And.intro (@ev.eq_2) (@ev.eq_3))) (And.intro (And.intro (@ev.eq_4) (@tget.eq_1)) (And.intro (@tget.eq_2) (@tput.eq_1)))) (And.intro (And.intro (And.intro (@tput.eq_2) (@ofC.eq_1)) (And.intro (@ofC.eq_2) (@ofC.eq_3))) (And.intro (And.intro (@ofC1.eq_1) (@ofC1.eq_2)) (And.intro (@pureR.eq_1) (And.intro (@condR.eq_1) (@abin.eq_1)))))) (And.intro (And.intro (And.intro (And.intro (@abin.eq_2) (@abin.eq_3)) (And.intro (@abin.eq_4) (@abin.eq_5))) (And.intro (And.intro (@abin.eq_6) (@abin.eq_7)) (And.intro (@abin.eq_8) (And.intro (@abin.eq_9) (@abin.eq_10))))) (And.intro (And.intro (And.intro (@abin.eq_11) (@abin.eq_12)) (And.intro (@abin.eq_13) (@abin.eq_14))) (And.intro (And.intro (@abin.eq_15) (@abin.eq_16)) (And.intro (@abin.eq_17) (And.intro (@abin.eq_18) (@abin.eq_19))))))) (And.intro (And.intro (And.intro (And.intro (And.intro (@abin.eq_20) (@abin.eq_21)) (And.intro (@abin.eq_22) (@abin.eq_23))) (And.intro (And.intro (@abin.eq_24) (@aun.eq_1)) (And.intro (@aun.eq_2) (@aun.eq_3)))) (And.intro (And.intro (And.intro (@alen.eq_1) (@alen.eq_2)) (And.intro (@alen.eq_3) (@alen.eq_4))) (And.intro (And.intro (@alen.eq_5) (@gslot.eq_1)) (And.intro (@argTs.eq_1) (And.intro (@argTs.eq_2) (@asliceS.eq_1)))))) (And.intro (And.intro (And.intro (And.intro (@asliceS.eq_2) (@asliceL.eq_1)) (And.intro (@asliceL.eq_2) (@asliceL.eq_3))) (And.intro (And.intro (@asliceL.eq_4) (@bnd.eq_1)) (And.intro (@bnd.eq_2) (And.intro (@bnd.eq_3) (@boolV.eq_1))))) (And.intro (And.intro (And.intro (@intV.eq_1) (@retQ.eq_1)) (And.intro (@retQ.eq_2) (@retQ.eq_3))) (And.intro (And.intro (@aRes.eq_1) (@aRes.eq_2)) (And.intro (@aResV.eq_1) (And.intro (@aResV.eq_2) (@oneAV.eq_1)))))))
def vm6 := And.intro (And.intro (And.intro (And.intro (And.intro (And.intro (@oneAV.eq_2) (@AV.low.eq_1)) (And.intro (@AV.low.eq_2) (@AV.low.eq_3))) (And.intro (And.intro (@AV.low.eq_4) (@AV.low.eq_5)) (And.intro (@AV.low.eq_6) (@AV.low.eq_7)))) (And.intro (And.intro (And.intro (@AV.low.eq_8) (@AV.low.eq_9)) (And.intro (@AV.low.eq_10) (@AV.low.lows.eq_1))) (And.intro (And.intro (@AV.low.lows.eq_2) (@isStringD.eq_1)) (And.intro (@isStringD.eq_2) (And.intro (@isSliceD.eq_1) (@isSliceD.eq_2)))))) (And.intro (And.intro (And.intro (And.intro (@isBoolD.eq_1) (@isBoolD.eq_2)) (And.intro (@setRange.eq_1) (@setRange.eq_2))) (And.intro (And.intro (@AV.cells.eq_1) (@AV.cells.eq_2)) (And.intro (@AV.isCell.eq_1) (And.intro (@AV.isCell.eq_2) (@AV.isCell.eq_3))))) (And.intro (And.intro (And.intro (@AV.isCell.eq_4) (@AV.isCell.eq_5)) (And.intro (@AV.isCell.eq_6) (@AV.isAgg.eq_1))) (And.intro (And.intro (@AV.isAgg.eq_2) (@abytes.eq_1)) (And.intro (@abytes.eq_2) (And.intro (@abytes.eq_3) (@abytes.eq_4))))))) (And.intro (And.intro (And.intro (And.intro (And.intro (@aconv.eq_1) (@aconv.eq_2)) (And.intro (@aconv.eq_3) (@aconv.eq_4))) (And.intro (And.intro (@aconv.eq_5) (@aconv.eq_6)) (And.intro (@aeq.eq_1) (@aeq.eq_2)))) (And.intro (And.intro (And.intro (@aeq.eq_3) (@aeq.eq_4)) (And.intro (@aeq.eq_5) (@aeq.eq_6))) (And.intro (And.intro (@aeq.eq_7) (@aeq.eq_8)) (And.intro (@aeq.eq_9) (And.intro (@aeq.eq_10) (@aeq.eq_11)))))) (And.intro (And.intro (And.intro (And.intro (@aeq.eq_12) (@aeq.eq_13)) (And.intro (@aeq.eq_14) (@aeq.eq_15))) (And.intro (And.intro (@aeq.eq_16) (@isConst.eq_1)) (And.intro (@isConst.eq_2) (And.intro (@isByteD.eq_1) (@isByteD.eq_2))))) (And.intro (And.intro (And.intro (@isIfaceD.eq_1) (@isIfaceD.eq_2)) (And.intro (@endQ.eq_1) (@endQ.eq_2))) (And.intro (And.intro (@endQ.eq_3) (@Ent.ver.eq_1)) (And.intro (@Ent.ver.eq_2) (And.intro (@Ent.imm.eq_1) (@Ent.imm.eq_2)))))))
def vm7 := And.intro (And.intro (And.intro (And.intro (And.intro (@Ent.ty.eq_1) (@Ent.ty.eq_2)) (And.intro (@lits.eq_1) (@lits.eq_2))) (And.intro (And.intro (@isEl.eq_1) (@newCells.eq_1)) (And.intro (@newCells.eq_2) (@newCells.eq_3)))) (And.intro (And.intro (And.intro (@newCells.eq_4) (@newCells.eq_5)) (And.intro (@aappend.eq_1) (@fill.eq_1))) (And.intro (And.intro (@fill.eq_2) (@aMap.eq_1)) (And.intro (@mget.eq_1) (@mget.eq_2))))) (And.intro (And.intro (And.intro (And.intro (@mput.eq_1) (@mput.eq_2)) (And.intro (@mclock.eq_1) (@ksOK.eq_1))) (And.intro (And.intro (@keq.eq_1) (@keq.eq_2)) (And.intro (@keq.eq_3) (@keq.eq_4)))) (And.intro (And.intro (And.intro (@keq.eq_5) (@mres.eq_1)) (And.intro (@mres.eq_2) (@fillA.eq_1))) (And.intro (And.intro (@fillA.eq_2) (@isArrD.eq_1)) (And.intro (@isArrD.eq_2) (And.intro (@arrE.eq_1) (@arrE.eq_2))))))
def vmA := And.intro vm1 (And.intro vm2 (And.intro vm3 (And.intro vm4 (And.intro vm5 (And.intro vm6 (vm7))))))
def vmp := And.intro (And.intro (And.intro (@wrapI64) (@Int.toNat_natCast)) (And.intro (@natCast_add_r) (@nat_add_one))) (And.intro (And.intro (@nat_add_two) (@take_drop_all)) (And.intro (@List.drop_zero.{0}) (And.intro (@Nat.sub_zero) (@Nat.add_sub_cancel_left))))
end Go.Vm
namespace Go.Vm
def fldsB (P : Program) : List Field → List (Nat × Nat × Bool) → Bool
 | [], [] => true
 | f :: fs, (off, sz, ag) :: l =>
  (match P.info? f.type, P.underlying f.type with
   | some inf, some d => f.offset == off && inf.size == sz && aggD d == ag && decide (0 < sz) && (ag || sz == 1)
   | _, _ => false) && fldsB P fs l
 | _, _ => false
def tyB (P : Program) (inf : TypeInfo) (z : Value) (i : TI) : Bool :=
 inf.size == i.size && inf.bytes == i.bytes && zval i.zero z && i.isAgg == aggD i.desc && i.zero.cells.length == i.size && i.zero.cells.all (·.isCell) && (i.isAgg || i.size == 1) &&
  (match i.desc with
   | .struct fs => fldsB P fs.toList i.flds
   | .slice e => i.elem == e && i.flds.isEmpty
   | _ => i.flds.isEmpty)
theorem fldsB_spec {P : Program} : ∀ {fs : List Field} {l : List (Nat × Nat × Bool)}, fldsB P fs l = true → l.length = fs.length ∧ ∀ (j : Nat) off sz ag, l[j]? = some (off, sz, ag) →
  ∃ f inf d, fs[j]? = some f ∧ f.offset = off ∧ P.info? f.type = some inf ∧ inf.size = sz ∧ P.underlying f.type = some d ∧ ag = aggD d ∧ 0 < sz ∧ (ag = false → sz = 1)
 | [], [], _ => ⟨rfl, fun j _ _ _ h => by simp at h⟩
 | [], _ :: _, h => by simp [fldsB] at h
 | _ :: _, [], h => by simp [fldsB] at h
 | f :: fs, (o, z, a) :: l, h => by
  simp only [fldsB, Bool.and_eq_true] at h
  obtain ⟨h1, h2⟩ := h
  obtain ⟨h3, h4⟩ := fldsB_spec h2
  refine ⟨by simp [h3], fun j off sz ag hj => ?_⟩
  cases j with
  | zero =>
   simp only [List.getElem?_cons_zero, Option.some.injEq, Prod.mk.injEq] at hj
   obtain ⟨rfl, rfl, rfl⟩ := hj
   split at h1
   ·rename_i inf d hi hu
    simp only [Bool.and_eq_true, beq_iff_eq, decide_eq_true_eq, Bool.or_eq_true] at h1
    refine ⟨f, inf, d, rfl, h1.1.1.1.1, hi, h1.1.1.1.2, hu, h1.1.1.2.symm, h1.1.2, fun hh => ?_⟩
    rcases h1.2 with h5 | h5
    ·rw [hh] at h5; cases h5
    ·exact h5
   ·cases h1
  | succ j =>
   simp only [List.getElem?_cons_succ] at hj ⊢
   exact h4 j off sz ag hj
theorem TyOK.of {P : Program} {t : Nat} {i : TI} {inf : TypeInfo} {z : Value} (hu : P.underlying t = some i.desc) (hi : P.info? t = some inf) (hz : inf.zero = some z) (h : tyB P inf z i = true) : TyOK P t i := by
 simp only [tyB, Bool.and_eq_true, beq_iff_eq, Bool.or_eq_true] at h
 obtain ⟨⟨⟨⟨⟨⟨⟨h1, h2⟩, h3⟩, h4⟩, h5⟩, h6⟩, h7⟩, h8⟩ := h
 refine ⟨hu, ⟨inf, z, hi, h1, h2, hz, h3⟩, h4, fun fs hd => ?_, fun hd => ?_, fun e hd => ?_, fun hh => ?_, h5, h6⟩
 ·rw [hd] at h8
  obtain ⟨h9, h10⟩ := fldsB_spec h8
  refine ⟨i.flds, rfl, by simpa using h9, fun j off sz ag hj => ?_⟩
  obtain ⟨f, inf', d, a1, a2⟩ := h10 j off sz ag hj
  exact ⟨f, inf', d, by simpa using a1, a2⟩
 ·split at h8
  ·rename_i fs hd2; exact absurd hd2 (hd fs)
  ·simp only [Bool.and_eq_true, List.isEmpty_iff] at h8; exact h8.2
  ·simpa using h8
 ·rw [hd] at h8
  simp only [Bool.and_eq_true, beq_iff_eq] at h8
  exact h8.1
 ·rcases h7 with h7 | h7
  ·rw [hh] at h7; cases h7
  ·exact h7
theorem TyOK.of' {P : Program} {t : Nat} {i : TI} {inf : TypeInfo} (hu : P.underlying t = some i.desc) (hi : P.info? t = some inf) (h : (match inf.zero with | some z => tyB P inf z i | none => false) = true) : TyOK P t i := by
 cases hz : inf.zero with
 | none => rw [hz] at h; cases h
 | some z => rw [hz] at h; exact TyOK.of hu hi hz h
def AllOK (P : Program) : List (Nat × TI) → Prop
 | [] => True
 | p :: r => TyOK P p.1 p.2 ∧ AllOK P r
theorem AllOK.mem {P : Program} : ∀ {l : List (Nat × TI)}, AllOK P l → ∀ p ∈ l, TyOK P p.1 p.2
 | [], _, p, h => by cases h
 | q :: r, h, p, hm => by
  rcases List.mem_cons.1 hm with e | hm
  ·rw [e]; exact h.1
  ·exact AllOK.mem h.2 p hm
def tabOf (l : List (Nat × TI)) (t : Nat) : TI := match l with
 | [] => {}
 | p :: r => if p.1 = t then p.2 else tabOf r t
theorem tabOf_mem : ∀ (l : List (Nat × TI)) (t : Nat), (tabOf l t).ok = true → (t, tabOf l t) ∈ l
 | [], t, h => by simp [tabOf] at h
 | p :: r, t, h => by
  unfold tabOf at h ⊢
  by_cases e : p.1 = t
  ·rw [if_pos e] at h ⊢
   rw [← e]; exact List.mem_cons_self
  ·rw [if_neg e] at h ⊢
   exact List.mem_cons_of_mem _ (tabOf_mem r t h)
theorem TabOK.of_list {P : Program} {l : List (Nat × TI)} (h : AllOK P l) : TabOK P (tabOf l) := fun t ht => h.mem _ (tabOf_mem l t ht)
end Go.Vm
