/- How the simplifier reads code: what is known first, what hangs on it behind. -/
import Derived.Test.YtikjefmoclienaaGreatDoorVmE
set_option linter.unusedVariables false
namespace Go.Vm
open Go.RowKit

/-- An equation that the simplifier is to cite, not to see. -/
theorem nrfl {α : Sort _} {a b : α} (h : a = b) : a = b := h

def outK (o : Out) (K : AV → List Ent → List Ent → Prop) : Prop :=
  match o with
  | some (p, r, g, l) => p ∧ K r g l
  | none => False
def callK (E : Env) (f : AV) (args : List AV) (σ : List Ent) (n : Nat) (K : AV → List Ent → List Ent → Prop) : Prop :=
  match f with
  | .fn fid first cap => ACalls E fid (first ++ args ++ cap) σ fun r τ => K r (τ.take n) (τ.drop n)
  | _ => False
def slotK (s : Option Nat) (f : Nat → Prop) : Prop :=
  match s with
  | some d => f d
  | none => False
def guardK (v : AV) (want : Bool) (y n s : Prop) : Prop :=
  match v with
  | .v (.bool b) => if b = want then y else n
  | .v (.tuple _) => s
  | _ => False
def condK (v : AV) (x y : Prop) : Prop :=
  match v with
  | .v (.bool b) => if b = true then x else y
  | _ => False

@[congr] theorem outK_congr {o o' : Out} {K : AV → List Ent → List Ent → Prop} (h : o = o') : outK o K = outK o' K := by rw [h]
@[congr] theorem callK_congr {E : Env} {f f' : AV} {args args' : List AV} {σ σ' : List Ent} {n n' : Nat} {K : AV → List Ent → List Ent → Prop} (h1 : f = f') (h2 : args = args') (h3 : σ = σ') (h4 : n = n') :
    callK E f args σ n K = callK E f' args' σ' n' K := by rw [h1, h2, h3, h4]
@[congr] theorem slotK_congr {s s' : Option Nat} {f : Nat → Prop} (h : s = s') : slotK s f = slotK s' f := by rw [h]
@[congr] theorem guardK_congr {v v' : AV} {want : Bool} {y n s : Prop} (h : v = v') : guardK v want y n s = guardK v' want y n s := by rw [h]
@[congr] theorem condK_congr {v v' : AV} {x y : Prop} (h : v = v') : condK v x y = condK v' x y := by rw [h]

theorem outK_some (p : Prop) (r : AV) (g l : List Ent) (K : AV → List Ent → List Ent → Prop) : outK (some (p, r, g, l)) K = (p ∧ K r g l) := nrfl rfl
theorem outK_pure (r : AV) (g l : List Ent) (K : AV → List Ent → List Ent → Prop) : outK (some (True, r, g, l)) K = K r g l := by simp [outK]
theorem outK_none (K : AV → List Ent → List Ent → Prop) : outK none K = False := nrfl rfl
theorem callK_fn (E : Env) (f : FuncId) (a b args : List AV) (σ : List Ent) (n : Nat) (K : AV → List Ent → List Ent → Prop) : callK E (.fn f a b) args σ n K = ACalls E f (a ++ args ++ b) σ fun r τ => K r (τ.take n) (τ.drop n) := nrfl rfl
theorem slotK_some (d : Nat) (f : Nat → Prop) : slotK (some d) f = f d := nrfl rfl
theorem guardK_tt (y n s : Prop) : guardK (.v (.bool true)) true y n s = y := nrfl rfl
theorem guardK_ff (y n s : Prop) : guardK (.v (.bool false)) false y n s = y := nrfl rfl
theorem guardK_tf (y n s : Prop) : guardK (.v (.bool true)) false y n s = n := nrfl rfl
theorem guardK_ft (y n s : Prop) : guardK (.v (.bool false)) true y n s = n := nrfl rfl
theorem guardK_un (vs : Array Value) (want : Bool) (y n s : Prop) : guardK (.v (.tuple vs)) want y n s = s := nrfl rfl
theorem condK_t (x y : Prop) : condK (.v (.bool true)) x y = x := nrfl rfl
theorem condK_f (x y : Prop) : condK (.v (.bool false)) x y = y := nrfl rfl

section
variable (E : Env) (n : Nat) (T : Nat → TI) (rows : List Nat) (all : Array Oper) (ts : Ts) (g l : List Ent)

theorem aOps_nil (K : Ts → List Ent → List Ent → Prop) : aOps E T rows all [] ts g l K = K ts g l := nrfl rfl
theorem aOps_go (dst : Option Nat) (op : Op) (ty : TypeId) (pos : String) (after : Array Edge) (rest : List Oper) (K : Ts → List Ent → List Ent → Prop) :
    aOps E T rows all (⟨dst, op, ty, pos, after, none⟩ :: rest) ts g l K = aOne E T rows ⟨dst, op, ty, pos, after, none⟩ ts g l fun r g l => aOps E T rows all rest (tput ts dst r) g l K := nrfl rfl
theorem aOps_if (dst : Option Nat) (op : Op) (ty : TypeId) (pos : String) (after : Array Edge) (j : Nat) (want : Bool) (rest : List Oper) (K : Ts → List Ent → List Ent → Prop) :
    aOps E T rows all (⟨dst, op, ty, pos, after, some (j, want)⟩ :: rest) ts g l K = slotK (gslot all j) fun d => guardK (tget ts d) want
      (aOne E T rows ⟨dst, op, ty, pos, after, some (j, want)⟩ ((d, boolV want) :: ts) g l fun r g l => aOps E T rows all rest (tput ((d, boolV want) :: ts) dst r) g l K)
      (aOps E T rows all rest (tput ((d, boolV (!want)) :: ts) dst (.v undef)) g l K) (aOps E T rows all rest (tput ts dst (.v undef)) g l K) := by
  rw [aOps]
  simp only
  generalize gslot all j = s
  cases s with
  | none => rfl
  | some d =>
    simp only [slotK, guardK]
    generalize tget ts d = v
    cases v with
    | v x => cases x <;> rfl
    | _ => rfl

def notCall : Op → Bool
  | .call { callee := .value _, .. } => false
  | .call { callee := .invoke _ _, .. } => false
  | _ => true
theorem aOne_det (o : Oper) (K : AV → List Ent → List Ent → Prop) (h : notCall o.op = true) : aOne E T rows o ts g l K = outK (aDet T rows o ts g l) K := by
  unfold aOne outK
  split
  · rename_i ho; rw [ho] at h; cases h
  · rename_i ho; rw [ho] at h; cases h
  · rfl
theorem aOne_call (dst : Option Nat) (f : Operand) (as : Array Operand) (tys : Array TypeId) (ty : TypeId) (pos : String) (after : Array Edge) (gd : Option (Nat × Bool)) (K : AV → List Ent → List Ent → Prop) :
    aOne E T rows ⟨dst, .call { callee := .value f, args := as, argTypes := tys }, ty, pos, after, gd⟩ ts g l K = callK E (ev ts f) (as.toList.map (ev ts)) (g ++ l) g.length K := nrfl rfl

variable (Q : Exit → Ts → List Ent → List Ent → Prop)
theorem aCode_skip : aCode E n T rows .skip Q ts g l = Q .normal ts g l := nrfl rfl
theorem aCode_draw (id : Nat) (ops : Array Oper) : aCode E n T rows (.region id ops true) Q ts g l = AWp E n (.region id ops true) Q ts g l := nrfl rfl
theorem aCode_region (id : Nat) (ops : Array Oper) : aCode E n T rows (.region id ops false) Q ts g l = aOps E T rows ops ops.toList ts g l (Q .normal) := nrfl rfl
theorem aCode_seq (a b : Code) : aCode E n T rows (.seq a b) Q ts g l = aCode E n T rows a (thenQ (aCode E n T rows b Q) Q) ts g l := nrfl rfl
theorem aCode_cond (c : Operand) (x y : Code) : aCode E n T rows (.cond c x y) Q ts g l = condK (ev ts c) (aCode E n T rows x Q ts g l) (aCode E n T rows y Q ts g l) := nrfl rfl
theorem aCode_block (id : Nat) (b : Code) : aCode E n T rows (.block id b) Q ts g l = aCode E n T rows b (blockQ id Q) ts g l := nrfl rfl
theorem aCode_loop (b : Code) : aCode E n T rows (.loop b) Q ts g l = AWp E n (.loop b) Q ts g l := nrfl rfl
theorem aCode_exit (id : Nat) : aCode E n T rows (.exit id) Q ts g l = Q (.exit id) ts g l := nrfl rfl
theorem aCode_ret : aCode E n T rows .ret Q ts g l = Q .ret ts g l := nrfl rfl

variable (bars : List Nat) (k : Nat)
theorem aDraw_nil (K : Ts → List Ent → List Ent → Prop) : aDraw E T all bars k [] ts g l K = K ts g l := nrfl rfl
theorem aDraw_go (dst : Option Nat) (op : Op) (ty : TypeId) (pos : String) (after : Array Edge) (rest : List Oper) (K : Ts → List Ent → List Ent → Prop) :
    aDraw E T all bars k (⟨dst, op, ty, pos, after, none⟩ :: rest) ts g l K = aNext bars k E T ⟨dst, op, ty, pos, after, none⟩ ts g l fun r g l => aDraw E T all bars (k + 1) rest (tput ts dst r) g l K := nrfl rfl
theorem aDraw_if (dst : Option Nat) (op : Op) (ty : TypeId) (pos : String) (after : Array Edge) (j : Nat) (want : Bool) (rest : List Oper) (K : Ts → List Ent → List Ent → Prop) :
    aDraw E T all bars k (⟨dst, op, ty, pos, after, some (j, want)⟩ :: rest) ts g l K = slotK (gslot all j) fun d => guardK (tget ts d) want
      (aNext bars k E T ⟨dst, op, ty, pos, after, some (j, want)⟩ ((d, boolV want) :: ts) g l fun r g l => aDraw E T all bars (k + 1) rest (tput ((d, boolV want) :: ts) dst r) g l K)
      (aDraw E T all bars (k + 1) rest (tput ((d, boolV (!want)) :: ts) dst (.v undef)) g l K) (aDraw E T all bars (k + 1) rest (tput ts dst (.v undef)) g l K) := by
  rw [aDraw]
  simp only
  generalize gslot all j = s
  cases s with
  | none => rfl
  | some d =>
    simp only [slotK, guardK]
    generalize tget ts d = v
    cases v with
    | v x => cases x <;> rfl
    | _ => rfl
end

section
variable (bars : List Nat) (k : Nat) (E : Env) (T : Nat → TI) (o : Oper) (ts : Ts) (g l : List Ent) (K : AV → List Ent → List Ent → Prop)
@[congr] theorem aNext_congr {ts' : Ts} {g' l' : List Ent} (h1 : ts = ts') (h2 : g = g') (h3 : l = l') : aNext bars k E T o ts g l K = aNext bars k E T o ts' g' l' K := by rw [h1, h2, h3]
@[congr] theorem aDraw_congr {all : Array Oper} {os : List Oper} {K : Ts → List Ent → List Ent → Prop} {ts' : Ts} {g' l' : List Ent} (h1 : ts = ts') (h2 : g = g') (h3 : l = l') : aDraw E T all bars k os ts g l K = aDraw E T all bars k os ts' g' l' K := by rw [h1, h2, h3]
def detK (bar : Bool) (g l : List Ent) (o : Out) (K : AV → List Ent → List Ent → Prop) : Prop :=
  match o with
  | some (p, r, g1, l1) => p ∧ (if bar = true then g1.length = g.length else g1 = g ∧ l1 = l) ∧ K r g1 l1
  | none => False
@[congr] theorem detK_congr {bar bar' : Bool} {g g' l l' : List Ent} {o o' : Out} (h0 : bar = bar') (h1 : g = g') (h2 : l = l') (h : o = o') : detK bar g l o K = detK bar' g' l' o' K := by rw [h0, h1, h2, h]
theorem detK_some (bar : Bool) (p : Prop) (r : AV) (g1 l1 : List Ent) : detK bar g l (some (p, r, g1, l1)) K = (p ∧ (if bar = true then g1.length = g.length else g1 = g ∧ l1 = l) ∧ K r g1 l1) := nrfl rfl
theorem aNext_det (h : notCall o.op = true) : aNext bars k E T o ts g l K = detK (bars.contains k) g l (aDet T [] o ts g l) K := by
  have hdet := fun K => aOne_det E T [] ts g l o K h
  unfold aNext aFix detK
  simp only [hdet]
  unfold outK
  cases hd : aDet T [] o ts g l with
  | none => split <;> simp
  | some q =>
    obtain ⟨p, r, g1, l1⟩ := q
    simp only
    split
    · apply propext
      constructor
      · rintro ⟨r', g', l', ⟨hp, rfl, rfl, rfl⟩, h1, h2⟩; exact ⟨hp, h1, h2⟩
      · rintro ⟨hp, h1, h2⟩; exact ⟨_, _, _, ⟨hp, rfl, rfl, rfl⟩, h1, h2⟩
    · apply propext
      constructor
      · rintro ⟨r', ⟨hp, rfl, rfl, rfl⟩, h2⟩; exact ⟨hp, ⟨rfl, rfl⟩, h2⟩
      · rintro ⟨hp, ⟨rfl, rfl⟩, h2⟩; exact ⟨_, ⟨hp, rfl, rfl, rfl⟩, h2⟩
/-- A call among operations whose order is drawn, that leaves the store alone. -/
theorem aNext_call {dst : Option Nat} {f : FuncId} {as : Array Operand} {tys : Array TypeId} {ty : TypeId} {pos : String} {after : Array Edge} {gd : Option (Nat × Bool)} {r : AV} (hb : bars.contains k = false)
    (h : ACalls E f (as.toList.map (ev ts)) (g ++ l) fun r' τ => r' = r ∧ τ = g ++ l) (hK : K r g l) :
    aNext bars k E T ⟨dst, .call { callee := .value (.func f), args := as, argTypes := tys }, ty, pos, after, gd⟩ ts g l K := by
  unfold aNext
  rw [if_neg (by rw [hb]; simp)]
  refine ⟨r, ?_, hK⟩
  unfold aFix
  rw [aOne_call, ev, callK_fn]
  simp only [List.nil_append, List.append_nil]
  refine h.mono fun r' τ ⟨h1, h2⟩ => ⟨h1, ?_, ?_⟩
  · rw [h2, List.take_left]
  · rw [h2, List.drop_left]
end

/-! ### Code read step by step, what is to come as data -/

/-- What is to come. -/
inductive Kont where
  | done (Q : Exit → Ts → List Ent → List Ent → Prop)
  | next (K : Ts → List Ent → List Ent → Prop) (k : Kont)
  | seq (b : Code) (k : Kont)
  | block (id : Nat) (k : Kont)

def kQ (E : Env) (n : Nat) (T : Nat → TI) (rows : List Nat) : Kont → Exit → Ts → List Ent → List Ent → Prop
  | .done Q => Q
  | .next K k => thenQ K (kQ E n T rows k)
  | .seq b k => thenQ (aCode E n T rows b (kQ E n T rows k)) (kQ E n T rows k)
  | .block id k => blockQ id (kQ E n T rows k)

section
variable (E : Env) (n : Nat) (T : Nat → TI) (rows : List Nat)

def xK (k : Kont) (e : Exit) (ts : Ts) (g l : List Ent) : Prop := kQ E n T rows k e ts g l
def xCode (c : Code) (k : Kont) (ts : Ts) (g l : List Ent) : Prop := aCode E n T rows c (kQ E n T rows k) ts g l
def xOps (all : Array Oper) (os : List Oper) (k : Kont) (ts : Ts) (g l : List Ent) : Prop := aOps E T rows all os ts g l (kQ E n T rows k .normal)
def xOut (dst : Option Nat) (all : Array Oper) (os : List Oper) (k : Kont) (ts : Ts) (o : Out) : Prop := outK o fun r g l => xOps E n T rows all os k (tput ts dst r) g l
def xCall (dst : Option Nat) (all : Array Oper) (os : List Oper) (k : Kont) (ts : Ts) (f : AV) (args : List AV) (σ : List Ent) (m : Nat) : Prop :=
  callK E f args σ m fun r g l => xOps E n T rows all os k (tput ts dst r) g l
/-- A call that is to be met by its contract. -/
def xWait (dst : Option Nat) (all : Array Oper) (os : List Oper) (k : Kont) (ts : Ts) (f : FuncId) (args : List AV) (σ : List Ent) (m : Nat) : Prop :=
  ACalls E f args σ fun r τ => xOps E n T rows all os k (tput ts dst r) (τ.take m) (τ.drop m)
/-- A method's call, by the type that stands behind. -/
def xMeth (dst : Option Nat) (all : Array Oper) (os : List Oper) (k : Kont) (ts : Ts) (m : String) (t : TypeId) (args : List AV) (σ : List Ent) (j : Nat) : Prop :=
  ∃ f, Meth E.P t m f ∧ ACalls E f args σ fun r τ => xOps E n T rows all os k (tput ts dst r) (τ.take j) (τ.drop j)
def xInv (dst : Option Nat) (all : Array Oper) (os : List Oper) (k : Kont) (ts : Ts) (m : String) (rc : AV) (args : List AV) (σ : List Ent) (j : Nat) : Prop :=
  match rc with
  | .ifc t x => xMeth E n T rows dst all os k ts m t (x :: args) σ j
  | _ => False
def xSlot (o : Oper) (want : Bool) (all : Array Oper) (os : List Oper) (k : Kont) (ts : Ts) (g l : List Ent) (s : Option Nat) : Prop :=
  slotK s fun d => guardK (tget ts d) want
      (aOne E T rows o ((d, boolV want) :: ts) g l fun r g l => xOps E n T rows all os k (tput ((d, boolV want) :: ts) o.dst r) g l)
      (xOps E n T rows all os k (tput ((d, boolV (!want)) :: ts) o.dst (.v undef)) g l) (xOps E n T rows all os k (tput ts o.dst (.v undef)) g l)
/-- One operation that runs. -/
def xOne (o : Oper) (all : Array Oper) (os : List Oper) (k : Kont) (ts : Ts) (g l : List Ent) : Prop :=
  aOne E T rows o ts g l fun r g l => xOps E n T rows all os k (tput ts o.dst r) g l
def xGuard (d : Nat) (o : Oper) (want : Bool) (all : Array Oper) (os : List Oper) (k : Kont) (ts : Ts) (g l : List Ent) (v : AV) : Prop :=
  guardK v want (xOne E n T rows o all os k ((d, boolV want) :: ts) g l)
      (xOps E n T rows all os k (tput ((d, boolV (!want)) :: ts) o.dst (.v undef)) g l) (xOps E n T rows all os k (tput ts o.dst (.v undef)) g l)
def xCond (x y : Code) (k : Kont) (ts : Ts) (g l : List Ent) (v : AV) : Prop := condK v (xCode E n T rows x k ts g l) (xCode E n T rows y k ts g l)

variable (all : Array Oper) (os : List Oper) (k : Kont) (ts : Ts) (g l : List Ent)
theorem xCode_intro (c : Code) (Q : Exit → Ts → List Ent → List Ent → Prop) : aCode E n T rows c Q ts g l = xCode E n T rows c (.done Q) ts g l := nrfl rfl
theorem xCode_skip : xCode E n T rows .skip k ts g l = xK E n T rows k .normal ts g l := nrfl rfl
theorem xCode_region (id : Nat) (ops : Array Oper) : xCode E n T rows (.region id ops false) k ts g l = xOps E n T rows ops ops.toList k ts g l := nrfl rfl
theorem xCode_seq (a b : Code) : xCode E n T rows (.seq a b) k ts g l = xCode E n T rows a (.seq b k) ts g l := nrfl rfl
theorem xCode_cond (c : Operand) (x y : Code) : xCode E n T rows (.cond c x y) k ts g l = xCond E n T rows x y k ts g l (ev ts c) := nrfl rfl
theorem xCode_block (id : Nat) (b : Code) : xCode E n T rows (.block id b) k ts g l = xCode E n T rows b (.block id k) ts g l := nrfl rfl
theorem xCode_exit (id : Nat) : xCode E n T rows (.exit id) k ts g l = xK E n T rows k (.exit id) ts g l := nrfl rfl
theorem xCode_ret : xCode E n T rows .ret k ts g l = xK E n T rows k .ret ts g l := nrfl rfl
theorem xCond_t (x y : Code) : xCond E n T rows x y k ts g l (.v (.bool true)) = xCode E n T rows x k ts g l := nrfl rfl
theorem xCond_f (x y : Code) : xCond E n T rows x y k ts g l (.v (.bool false)) = xCode E n T rows y k ts g l := nrfl rfl
theorem xK_done (Q : Exit → Ts → List Ent → List Ent → Prop) (e : Exit) : xK E n T rows (.done Q) e ts g l = Q e ts g l := nrfl rfl
theorem xK_next_n (K : Ts → List Ent → List Ent → Prop) : xK E n T rows (.next K k) .normal ts g l = K ts g l := nrfl rfl
theorem xK_next_r (K : Ts → List Ent → List Ent → Prop) : xK E n T rows (.next K k) .ret ts g l = xK E n T rows k .ret ts g l := nrfl rfl
theorem xK_next_e (K : Ts → List Ent → List Ent → Prop) (id : Nat) : xK E n T rows (.next K k) (.exit id) ts g l = xK E n T rows k (.exit id) ts g l := nrfl rfl
theorem xK_seq_n (b : Code) : xK E n T rows (.seq b k) .normal ts g l = xCode E n T rows b k ts g l := nrfl rfl
theorem xK_seq_r (b : Code) : xK E n T rows (.seq b k) .ret ts g l = xK E n T rows k .ret ts g l := nrfl rfl
theorem xK_seq_e (b : Code) (id : Nat) : xK E n T rows (.seq b k) (.exit id) ts g l = xK E n T rows k (.exit id) ts g l := nrfl rfl
theorem xK_block_n (id : Nat) : xK E n T rows (.block id k) .normal ts g l = xK E n T rows k .normal ts g l := nrfl rfl
theorem xK_block_r (id : Nat) : xK E n T rows (.block id k) .ret ts g l = xK E n T rows k .ret ts g l := nrfl rfl
theorem xK_block_e (id i : Nat) : xK E n T rows (.block id k) (.exit i) ts g l = if i = id then xK E n T rows k .normal ts g l else xK E n T rows k (.exit i) ts g l := nrfl rfl
theorem xOps_nil : xOps E n T rows all [] k ts g l = xK E n T rows k .normal ts g l := nrfl rfl
theorem xOps_go (dst : Option Nat) (op : Op) (ty : TypeId) (pos : String) (after : Array Edge) :
    xOps E n T rows all (⟨dst, op, ty, pos, after, none⟩ :: os) k ts g l = xOne E n T rows ⟨dst, op, ty, pos, after, none⟩ all os k ts g l := nrfl rfl
theorem xOps_if (dst : Option Nat) (op : Op) (ty : TypeId) (pos : String) (after : Array Edge) (j : Nat) (want : Bool) :
    xOps E n T rows all (⟨dst, op, ty, pos, after, some (j, want)⟩ :: os) k ts g l = xSlot E n T rows ⟨dst, op, ty, pos, after, some (j, want)⟩ want all os k ts g l (gslot all j) := by
  unfold xOps xSlot
  rw [aOps_if]; rfl
theorem xSlot_some (o : Oper) (want : Bool) (d : Nat) : xSlot E n T rows o want all os k ts g l (some d) = xGuard E n T rows d o want all os k ts g l (tget ts d) := nrfl rfl
theorem xGuard_tt (d : Nat) (o : Oper) : xGuard E n T rows d o true all os k ts g l (.v (.bool true)) = xOne E n T rows o all os k ((d, boolV true) :: ts) g l := nrfl rfl
theorem xGuard_ff (d : Nat) (o : Oper) : xGuard E n T rows d o false all os k ts g l (.v (.bool false)) = xOne E n T rows o all os k ((d, boolV false) :: ts) g l := nrfl rfl
theorem xGuard_tf (d : Nat) (o : Oper) : xGuard E n T rows d o false all os k ts g l (.v (.bool true)) = xOps E n T rows all os k (tput ((d, boolV true) :: ts) o.dst (.v undef)) g l := nrfl rfl
theorem xGuard_ft (d : Nat) (o : Oper) : xGuard E n T rows d o true all os k ts g l (.v (.bool false)) = xOps E n T rows all os k (tput ((d, boolV false) :: ts) o.dst (.v undef)) g l := nrfl rfl
theorem xGuard_un (d : Nat) (o : Oper) (want : Bool) (vs : Array Value) : xGuard E n T rows d o want all os k ts g l (.v (.tuple vs)) = xOps E n T rows all os k (tput ts o.dst (.v undef)) g l := nrfl rfl
theorem xOne_move (dst : Option Nat) (x : Operand) (ty : TypeId) (pos : String) (after : Array Edge) (gd : Option (Nat × Bool)) :
    xOne E n T rows ⟨dst, .move x, ty, pos, after, gd⟩ all os k ts g l = xOut E n T rows dst all os k ts (aDet T rows ⟨dst, .move x, ty, pos, after, gd⟩ ts g l) := nrfl rfl
theorem xOne_assign (dst : Option Nat) (x : Operand) (ty : TypeId) (pos : String) (after : Array Edge) (gd : Option (Nat × Bool)) :
    xOne E n T rows ⟨dst, .assign x, ty, pos, after, gd⟩ all os k ts g l = xOut E n T rows dst all os k ts (aDet T rows ⟨dst, .assign x, ty, pos, after, gd⟩ ts g l) := nrfl rfl
theorem xOne_pick (dst : Option Nat) (c a b : Operand) (ty : TypeId) (pos : String) (after : Array Edge) (gd : Option (Nat × Bool)) :
    xOne E n T rows ⟨dst, .pick c a b, ty, pos, after, gd⟩ all os k ts g l = xOut E n T rows dst all os k ts (aDet T rows ⟨dst, .pick c a b, ty, pos, after, gd⟩ ts g l) := nrfl rfl
theorem xOne_alloc (dst : Option Nat) (t : TypeId) (ty : TypeId) (pos : String) (after : Array Edge) (gd : Option (Nat × Bool)) :
    xOne E n T rows ⟨dst, .alloc t, ty, pos, after, gd⟩ all os k ts g l = xOut E n T rows dst all os k ts (aDet T rows ⟨dst, .alloc t, ty, pos, after, gd⟩ ts g l) := nrfl rfl
theorem xOne_box (dst : Option Nat) (t : TypeId) (v : Operand) (ty : TypeId) (pos : String) (after : Array Edge) (gd : Option (Nat × Bool)) :
    xOne E n T rows ⟨dst, .box t v, ty, pos, after, gd⟩ all os k ts g l = xOut E n T rows dst all os k ts (aDet T rows ⟨dst, .box t v, ty, pos, after, gd⟩ ts g l) := nrfl rfl
theorem xOne_build (dst : Option Nat) (t : TypeId) (parts : Array (Nat × Operand)) (ty : TypeId) (pos : String) (after : Array Edge) (gd : Option (Nat × Bool)) :
    xOne E n T rows ⟨dst, .build t parts, ty, pos, after, gd⟩ all os k ts g l = xOut E n T rows dst all os k ts (aDet T rows ⟨dst, .build t parts, ty, pos, after, gd⟩ ts g l) := nrfl rfl
theorem xOne_buildSlice (dst : Option Nat) (t : TypeId) (m : Nat) (parts : Array (Nat × Operand)) (ty : TypeId) (pos : String) (after : Array Edge) (gd : Option (Nat × Bool)) :
    xOne E n T rows ⟨dst, .buildSlice t m parts, ty, pos, after, gd⟩ all os k ts g l = xOut E n T rows dst all os k ts (aDet T rows ⟨dst, .buildSlice t m parts, ty, pos, after, gd⟩ ts g l) := nrfl rfl
theorem xOne_load (dst : Option Nat) (t : TypeId) (a : Operand) (ty : TypeId) (pos : String) (after : Array Edge) (gd : Option (Nat × Bool)) :
    xOne E n T rows ⟨dst, .load t a, ty, pos, after, gd⟩ all os k ts g l = xOut E n T rows dst all os k ts (aDet T rows ⟨dst, .load t a, ty, pos, after, gd⟩ ts g l) := nrfl rfl
theorem xOne_store (dst : Option Nat) (t : TypeId) (a v : Operand) (ty : TypeId) (pos : String) (after : Array Edge) (gd : Option (Nat × Bool)) :
    xOne E n T rows ⟨dst, .store t a v, ty, pos, after, gd⟩ all os k ts g l = xOut E n T rows dst all os k ts (aDet T rows ⟨dst, .store t a v, ty, pos, after, gd⟩ ts g l) := nrfl rfl
theorem xOne_nilCheck (dst : Option Nat) (x : Operand) (ty : TypeId) (pos : String) (after : Array Edge) (gd : Option (Nat × Bool)) :
    xOne E n T rows ⟨dst, .nilCheck x, ty, pos, after, gd⟩ all os k ts g l = xOut E n T rows dst all os k ts (aDet T rows ⟨dst, .nilCheck x, ty, pos, after, gd⟩ ts g l) := nrfl rfl
theorem xOne_binOp (dst : Option Nat) (op : BinOp) (t : TypeId) (x y : Operand) (u : TypeId) (ty : TypeId) (pos : String) (after : Array Edge) (gd : Option (Nat × Bool)) :
    xOne E n T rows ⟨dst, .binOp op t x y u, ty, pos, after, gd⟩ all os k ts g l = xOut E n T rows dst all os k ts (aDet T rows ⟨dst, .binOp op t x y u, ty, pos, after, gd⟩ ts g l) := nrfl rfl
theorem xOne_unOp (dst : Option Nat) (op : UnOp) (t : TypeId) (x : Operand) (ty : TypeId) (pos : String) (after : Array Edge) (gd : Option (Nat × Bool)) :
    xOne E n T rows ⟨dst, .unOp op t x, ty, pos, after, gd⟩ all os k ts g l = xOut E n T rows dst all os k ts (aDet T rows ⟨dst, .unOp op t x, ty, pos, after, gd⟩ ts g l) := nrfl rfl
theorem xOne_convert (dst : Option Nat) (s d : TypeId) (x : Operand) (ty : TypeId) (pos : String) (after : Array Edge) (gd : Option (Nat × Bool)) :
    xOne E n T rows ⟨dst, .convert s d x, ty, pos, after, gd⟩ all os k ts g l = xOut E n T rows dst all os k ts (aDet T rows ⟨dst, .convert s d x, ty, pos, after, gd⟩ ts g l) := nrfl rfl
theorem xOne_makeInterface (dst : Option Nat) (t : TypeId) (x : Operand) (ty : TypeId) (pos : String) (after : Array Edge) (gd : Option (Nat × Bool)) :
    xOne E n T rows ⟨dst, .makeInterface t x, ty, pos, after, gd⟩ all os k ts g l = xOut E n T rows dst all os k ts (aDet T rows ⟨dst, .makeInterface t x, ty, pos, after, gd⟩ ts g l) := nrfl rfl
theorem xOne_makeFunc (dst : Option Nat) (fn : Fn) (first captured : Array Operand) (ty : TypeId) (pos : String) (after : Array Edge) (gd : Option (Nat × Bool)) :
    xOne E n T rows ⟨dst, .makeFunc fn first captured, ty, pos, after, gd⟩ all os k ts g l = xOut E n T rows dst all os k ts (aDet T rows ⟨dst, .makeFunc fn first captured, ty, pos, after, gd⟩ ts g l) := nrfl rfl
theorem xOne_makeMap (dst : Option Nat) (t : TypeId) (r : Option Operand) (ty : TypeId) (pos : String) (after : Array Edge) (gd : Option (Nat × Bool)) :
    xOne E n T rows ⟨dst, .makeMap t r, ty, pos, after, gd⟩ all os k ts g l = xOut E n T rows dst all os k ts (aDet T rows ⟨dst, .makeMap t r, ty, pos, after, gd⟩ ts g l) := nrfl rfl
theorem xOne_makeSlice (dst : Option Nat) (t : TypeId) (a b : Operand) (ty : TypeId) (pos : String) (after : Array Edge) (gd : Option (Nat × Bool)) :
    xOne E n T rows ⟨dst, .makeSlice t a b, ty, pos, after, gd⟩ all os k ts g l = xOut E n T rows dst all os k ts (aDet T rows ⟨dst, .makeSlice t a b, ty, pos, after, gd⟩ ts g l) := nrfl rfl
theorem xOne_slice (dst : Option Nat) (t : TypeId) (x : Operand) (lo hi mx : Option Operand) (ty : TypeId) (pos : String) (after : Array Edge) (gd : Option (Nat × Bool)) :
    xOne E n T rows ⟨dst, .slice t x lo hi mx, ty, pos, after, gd⟩ all os k ts g l = xOut E n T rows dst all os k ts (aDet T rows ⟨dst, .slice t x lo hi mx, ty, pos, after, gd⟩ ts g l) := nrfl rfl
theorem xOne_fieldAddr (dst : Option Nat) (t : TypeId) (x : Operand) (f : Nat) (ty : TypeId) (pos : String) (after : Array Edge) (gd : Option (Nat × Bool)) :
    xOne E n T rows ⟨dst, .fieldAddr t x f, ty, pos, after, gd⟩ all os k ts g l = xOut E n T rows dst all os k ts (aDet T rows ⟨dst, .fieldAddr t x f, ty, pos, after, gd⟩ ts g l) := nrfl rfl
theorem xOne_field (dst : Option Nat) (t : TypeId) (x : Operand) (f : Nat) (ty : TypeId) (pos : String) (after : Array Edge) (gd : Option (Nat × Bool)) :
    xOne E n T rows ⟨dst, .field t x f, ty, pos, after, gd⟩ all os k ts g l = xOut E n T rows dst all os k ts (aDet T rows ⟨dst, .field t x f, ty, pos, after, gd⟩ ts g l) := nrfl rfl
theorem xOne_indexAddr (dst : Option Nat) (t : TypeId) (x i : Operand) (ty : TypeId) (pos : String) (after : Array Edge) (gd : Option (Nat × Bool)) :
    xOne E n T rows ⟨dst, .indexAddr t x i, ty, pos, after, gd⟩ all os k ts g l = xOut E n T rows dst all os k ts (aDet T rows ⟨dst, .indexAddr t x i, ty, pos, after, gd⟩ ts g l) := nrfl rfl
theorem xOne_index (dst : Option Nat) (t : TypeId) (x i : Operand) (ty : TypeId) (pos : String) (after : Array Edge) (gd : Option (Nat × Bool)) :
    xOne E n T rows ⟨dst, .index t x i, ty, pos, after, gd⟩ all os k ts g l = xOut E n T rows dst all os k ts (aDet T rows ⟨dst, .index t x i, ty, pos, after, gd⟩ ts g l) := nrfl rfl
theorem xOne_lookup (dst : Option Nat) (t : TypeId) (x i : Operand) (ok : Bool) (ty : TypeId) (pos : String) (after : Array Edge) (gd : Option (Nat × Bool)) :
    xOne E n T rows ⟨dst, .lookup t x i ok, ty, pos, after, gd⟩ all os k ts g l = xOut E n T rows dst all os k ts (aDet T rows ⟨dst, .lookup t x i ok, ty, pos, after, gd⟩ ts g l) := nrfl rfl
theorem xOne_mapUpdate (dst : Option Nat) (t : TypeId) (m a v : Operand) (ty : TypeId) (pos : String) (after : Array Edge) (gd : Option (Nat × Bool)) :
    xOne E n T rows ⟨dst, .mapUpdate t m a v, ty, pos, after, gd⟩ all os k ts g l = xOut E n T rows dst all os k ts (aDet T rows ⟨dst, .mapUpdate t m a v, ty, pos, after, gd⟩ ts g l) := nrfl rfl
theorem xOne_range (dst : Option Nat) (t : TypeId) (x : Operand) (ty : TypeId) (pos : String) (after : Array Edge) (gd : Option (Nat × Bool)) :
    xOne E n T rows ⟨dst, .range t x, ty, pos, after, gd⟩ all os k ts g l = xOut E n T rows dst all os k ts (aDet T rows ⟨dst, .range t x, ty, pos, after, gd⟩ ts g l) := nrfl rfl
theorem xOne_next (dst : Option Nat) (i : Operand) (s : Bool) (ty : TypeId) (pos : String) (after : Array Edge) (gd : Option (Nat × Bool)) :
    xOne E n T rows ⟨dst, .next i s, ty, pos, after, gd⟩ all os k ts g l = xOut E n T rows dst all os k ts (aDet T rows ⟨dst, .next i s, ty, pos, after, gd⟩ ts g l) := nrfl rfl
theorem xOne_entry (dst : Option Nat) (i : Operand) (ty : TypeId) (pos : String) (after : Array Edge) (gd : Option (Nat × Bool)) :
    xOne E n T rows ⟨dst, .entry i, ty, pos, after, gd⟩ all os k ts g l = xOut E n T rows dst all os k ts (aDet T rows ⟨dst, .entry i, ty, pos, after, gd⟩ ts g l) := nrfl rfl
theorem xOne_typeAssert (dst : Option Nat) (x : Operand) (t u : TypeId) (ok : Bool) (ty : TypeId) (pos : String) (after : Array Edge) (gd : Option (Nat × Bool)) :
    xOne E n T rows ⟨dst, .typeAssert x t u ok, ty, pos, after, gd⟩ all os k ts g l = xOut E n T rows dst all os k ts (aDet T rows ⟨dst, .typeAssert x t u ok, ty, pos, after, gd⟩ ts g l) := nrfl rfl
theorem xOne_extract (dst : Option Nat) (x : Operand) (i : Nat) (ty : TypeId) (pos : String) (after : Array Edge) (gd : Option (Nat × Bool)) :
    xOne E n T rows ⟨dst, .extract x i, ty, pos, after, gd⟩ all os k ts g l = xOut E n T rows dst all os k ts (aDet T rows ⟨dst, .extract x i, ty, pos, after, gd⟩ ts g l) := nrfl rfl
theorem xOne_builtin (dst : Option Nat) (b : Builtin) (as : Array Operand) (tys : Array TypeId) (ty : TypeId) (pos : String) (after : Array Edge) (gd : Option (Nat × Bool)) :
    xOne E n T rows ⟨dst, .call { callee := .builtin b, args := as, argTypes := tys }, ty, pos, after, gd⟩ all os k ts g l = xOut E n T rows dst all os k ts (aDet T rows ⟨dst, .call { callee := .builtin b, args := as, argTypes := tys }, ty, pos, after, gd⟩ ts g l) := nrfl rfl
theorem xOne_call (dst : Option Nat) (f : Operand) (as : Array Operand) (tys : Array TypeId) (ty : TypeId) (pos : String) (after : Array Edge) (gd : Option (Nat × Bool)) :
    xOne E n T rows ⟨dst, .call { callee := .value f, args := as, argTypes := tys }, ty, pos, after, gd⟩ all os k ts g l = xCall E n T rows dst all os k ts (ev ts f) (as.toList.map (ev ts)) (g ++ l) g.length := nrfl rfl
theorem xOne_invoke (dst : Option Nat) (rc : Operand) (m : String) (as : Array Operand) (tys : Array TypeId) (ty : TypeId) (pos : String) (after : Array Edge) (gd : Option (Nat × Bool)) :
    xOne E n T rows ⟨dst, .call { callee := .invoke rc m, args := as, argTypes := tys }, ty, pos, after, gd⟩ all os k ts g l = xInv E n T rows dst all os k ts m (ev ts rc) (as.toList.map (ev ts)) (g ++ l) g.length := nrfl rfl
theorem xInv_ifc (dst : Option Nat) (m : String) (t : TypeId) (x : AV) (args : List AV) (σ : List Ent) (j : Nat) : xInv E n T rows dst all os k ts m (.ifc t x) args σ j = xMeth E n T rows dst all os k ts m t (x :: args) σ j := nrfl rfl
theorem xCall_fn (dst : Option Nat) (f : FuncId) (a b args : List AV) (σ : List Ent) (m : Nat) : xCall E n T rows dst all os k ts (.fn f a b) args σ m = xWait E n T rows dst all os k ts f (a ++ args ++ b) σ m := nrfl rfl
theorem xOut_pure (dst : Option Nat) (r : AV) : xOut E n T rows dst all os k ts (some (True, r, g, l)) = xOps E n T rows all os k (tput ts dst r) g l := by simp [xOut, outK]
theorem xOut_some (dst : Option Nat) (p : Prop) (r : AV) : xOut E n T rows dst all os k ts (some (p, r, g, l)) = (p ∧ xOps E n T rows all os k (tput ts dst r) g l) := nrfl rfl
theorem xOut_none (dst : Option Nat) : xOut E n T rows dst all os k ts none = False := nrfl rfl

variable {E n T rows all os k ts g l}
theorem xWait.go {dst : Option Nat} {f : FuncId} {args : List AV} {σ : List Ent} {m : Nat} {r : AV} {τ : List Ent} (h : ACalls E f args σ fun r' τ' => r' = r ∧ τ' = τ)
    (hk : xOps E n T rows all os k (tput ts dst r) (τ.take m) (τ.drop m)) : xWait E n T rows dst all os k ts f args σ m := h.go hk
theorem xMeth.go {dst : Option Nat} {f : FuncId} {t : TypeId} {mn : String} {args : List AV} {σ : List Ent} {m : Nat} (hm : Meth E.P t mn f)
    (h : xWait E n T rows dst all os k ts f args σ m) : xMeth E n T rows dst all os k ts mn t args σ m := ⟨f, hm, h⟩
theorem xWait.of {dst : Option Nat} {f : FuncId} {args : List AV} {σ : List Ent} {m : Nat} {R : AV → List Ent → Prop} (h : ACalls E f args σ R)
    (hk : ∀ r τ, R r τ → xOps E n T rows all os k (tput ts dst r) (τ.take m) (τ.drop m)) : xWait E n T rows dst all os k ts f args σ m := h.mono hk
end

section
variable {E : Env} {T : Nat → TI} (hT : TabOK E.P T)
include hT
theorem xacalls {f : FuncId} {fn : Func} {c : Code} {args : List AV} {σ : List Ent} {R : AV → List Ent → Prop} (kp : Keep) (rows : List Nat) (hf : E.P.funcs[f]? = some fn) (hb : fn.body = some c)
    (hname : (fn.name == "runtime.NumGoroutine") = false) (hok : codeOK fn.ntmps c = true) (hargs : args.length ≤ fn.ntmps)
    (h : xCode E fn.ntmps T rows c (.done (retQ T kp fn.results.toList σ R)) (argTs 0 args) σ []) : ACalls E f args σ R :=
  acalls_intro hT kp rows hf hb hname hok hargs h
theorem xbody {f : FuncId} {fn : Func} {c : Code} {args : List AV} {σ : List Ent} {R : AV → List Ent → Prop} (kp : Keep) (rows : List Nat) (hf : E.P.funcs[f]? = some fn) (hb : fn.body = some c)
    (hname : (fn.name == "runtime.NumGoroutine") = false) (hok : codeOK fn.ntmps c = true) (hargs : args.length ≤ fn.ntmps)
    (h : xCode E fn.ntmps T rows c (.done (retQ T kp fn.results.toList σ R)) (argTs 0 args) σ []) : HasBody E f ∧ ∀ (s : S) (vs : List Value), s.σ = σ → HInv s → E.Γ s.B s.w → RepL s args vs →
    Calls E.P f vs.toArray s.w fun e w' => ∃ v r s', e = .returned v ∧ s'.w = w' ∧ HInv s' ∧ Ext s s' ∧ Rep s' r v ∧ R r s'.σ :=
  acalls_body hT kp rows hf hb hname hok hargs h
theorem xloop {n : Nat} {rows : List Nat} {c : Code} {k : Kont} {ts : Ts} {g l : List Ent} {α : Type} (τ : α → Ts) (G L : α → List Ent) (I : α → Prop) (μ : α → Nat)
    (hok : codeOK n c = true) (h0 : ∃ x, I x ∧ Sub ts (τ x) ∧ g = G x ∧ l = L x)
    (round : ∀ x, I x → xCode E n T rows c (.next (fun ts' g' l' => ∃ y, I y ∧ μ y < μ x ∧ Sub ts' (τ y) ∧ g' = G y ∧ l' = L y) k) (τ x) (G x) (L x)) : xCode E n T rows (.loop c) k ts g l :=
  awp_loop hT τ G L I μ hok h0 round
end
end Go.Vm

/- What is to come may be cut: what holds at a place, then what comes behind it. -/
set_option linter.unusedVariables false
set_option linter.unusedSectionVars false
namespace Go.Vm
open Go.RowKit

theorem aOne_mono {E : Env} {T : Nat → TI} {rows : List Nat} {o : Oper} {ts : Ts} {g l : List Ent} {K K' : AV → List Ent → List Ent → Prop} (hk : ∀ r g l, K r g l → K' r g l) (h : aOne E T rows o ts g l K) : aOne E T rows o ts g l K' := by
  unfold aOne at h ⊢
  split
  · rename_i f as tys ho
    simp only [ho] at h
    split
    · rename_i fid first cap hf
      simp only [hf] at h
      exact h.mono fun _ _ hh => hk _ _ _ hh
    · rename_i hf
      split at h
      · rename_i fid first cap hf'; exact absurd hf' (hf fid first cap)
      · exact h
  · rename_i rc m as tys ho
    simp only [ho] at h
    split
    · rename_i t x hf
      simp only [hf] at h
      obtain ⟨f, h1, h2⟩ := h
      exact ⟨f, h1, h2.mono fun _ _ hh => hk _ _ _ hh⟩
    · rename_i hf
      split at h
      · rename_i t x hf'; exact absurd hf' (hf t x)
      · exact h
  · rename_i ho ho2
    split at h
    · rename_i f as tys ho'; exact absurd ho' (ho f as tys)
    · rename_i rc m as tys ho'; exact absurd ho' (ho2 rc m as tys)
    · split
      · rename_i p r g' l' hd
        simp only [hd] at h
        exact ⟨h.1, hk _ _ _ h.2⟩
      · rename_i hd; simp only [hd] at h

theorem aOps_mono {E : Env} {T : Nat → TI} {rows : List Nat} {all : Array Oper} : ∀ {os : List Oper} {ts : Ts} {g l : List Ent} {K K' : Ts → List Ent → List Ent → Prop}, (∀ ts g l, K ts g l → K' ts g l) → aOps E T rows all os ts g l K → aOps E T rows all os ts g l K'
  | [], _, _, _, _, _, hk, h => hk _ _ _ h
  | o :: os, ts, g, l, K, K', hk, h => by
    unfold aOps at h ⊢
    cases hg : o.guard with
    | none =>
      simp only [hg] at h ⊢
      exact aOne_mono (fun _ _ _ hh => aOps_mono hk hh) h
    | some jw =>
      obtain ⟨j, want⟩ := jw
      simp only [hg] at h ⊢
      cases hs : gslot all j with
      | none => simp [hs] at h
      | some d =>
        simp only [hs] at h ⊢
        generalize tget ts d = v at h ⊢
        cases v with
        | v x =>
          cases x with
          | bool b =>
            simp only at h ⊢
            split at h
            · rename_i hb; rw [if_pos hb]; exact aOne_mono (fun _ _ _ hh => aOps_mono hk hh) h
            · rename_i hb; rw [if_neg hb]; exact aOps_mono hk h
          | tuple q => exact aOps_mono hk h
          | _ => exact h.elim
        | _ => exact h.elim

theorem aCode_mono {E : Env} {n : Nat} {T : Nat → TI} {rows : List Nat} : ∀ {c : Code} {ts : Ts} {g l : List Ent} {Q Q' : Exit → Ts → List Ent → List Ent → Prop}, (∀ e ts g l, Q e ts g l → Q' e ts g l) → aCode E n T rows c Q ts g l → aCode E n T rows c Q' ts g l
  | .skip, _, _, _, _, _, hq, h => hq _ _ _ _ h
  | .region id ops true, _, _, _, _, _, hq, h => AWp.mono h fun e ts g l _ => hq e ts g l
  | .region id ops false, _, _, _, _, _, hq, h => aOps_mono (fun _ _ _ => hq _ _ _ _) h
  | .seq a b, _, _, _, Q, Q', hq, h => by
    refine aCode_mono (c := a) (fun e ts g l => ?_) h
    cases e <;> simp only [thenQ]
    case normal => exact aCode_mono hq
    all_goals exact hq _ _ _ _
  | .cond c x y, ts, _, _, _, _, hq, h => by
    unfold aCode at h ⊢
    generalize ev ts c = v at h ⊢
    cases v with
    | v x =>
      cases x with
      | bool b =>
        simp only at h ⊢
        split at h
        · rename_i hb; rw [if_pos hb]; exact aCode_mono hq h
        · rename_i hb; rw [if_neg hb]; exact aCode_mono hq h
      | _ => exact h.elim
    | _ => exact h.elim
  | .block id b, _, _, _, Q, Q', hq, h => by
    refine aCode_mono (c := b) (fun e ts g l => ?_) h
    cases e <;> simp only [blockQ] <;> try exact hq _ _ _ _
    split
    · exact hq _ _ _ _
    · exact hq _ _ _ _
  | .loop b, _, _, _, _, _, hq, h => AWp.mono h fun e ts g l _ => hq e ts g l
  | .exit id, _, _, _, _, _, hq, h => hq _ _ _ _ h
  | .ret, _, _, _, _, _, hq, h => hq _ _ _ _ h
  | .refuse _, _, _, _, _, _, hq, h => h.elim
  | .scope _, _, _, _, _, _, hq, h => h.elim
  | .label _, _, _, _, _, _, hq, h => h.elim
  | .goto _, _, _, _, _, _, hq, h => h.elim
  | .rangeFunc .., _, _, _, _, _, hq, h => h.elim

section
variable {E : Env} {n : Nat} {T : Nat → TI} {rows : List Nat}

/-- What is to come asks for no more. -/
def Kle (E : Env) (n : Nat) (T : Nat → TI) (rows : List Nat) (k' k : Kont) : Prop := ∀ e ts g l, kQ E n T rows k' e ts g l → kQ E n T rows k e ts g l

theorem Kle.refl (k : Kont) : Kle E n T rows k k := fun _ _ _ _ h => h
theorem Kle.cut {b : Code} {k : Kont} (M : Ts → List Ent → List Ent → Prop) (h : ∀ ts g l, M ts g l → xCode E n T rows b k ts g l) : Kle E n T rows (.next M k) (.seq b k) := by
  intro e ts g l
  cases e <;> simp only [kQ, thenQ]
  case normal => exact h ts g l
  all_goals exact id
theorem Kle.seq {b : Code} {k' k : Kont} (h : Kle E n T rows k' k) : Kle E n T rows (.seq b k') (.seq b k) := by
  intro e ts g l
  cases e <;> simp only [kQ, thenQ]
  case normal => exact aCode_mono h
  all_goals exact h _ _ _ _
theorem Kle.block {id : Nat} {k' k : Kont} (h : Kle E n T rows k' k) : Kle E n T rows (.block id k') (.block id k) := by
  intro e ts g l
  cases e <;> simp only [kQ, blockQ] <;> try exact h _ _ _ _
  split
  · exact h _ _ _ _
  · exact h _ _ _ _

variable {k' k : Kont} (hk : Kle E n T rows k' k) {all : Array Oper} {os : List Oper} {ts : Ts} {g l : List Ent}
include hk
theorem xCode.cut {c : Code} (h : xCode E n T rows c k' ts g l) : xCode E n T rows c k ts g l := aCode_mono hk h
theorem xOps.cut (h : xOps E n T rows all os k' ts g l) : xOps E n T rows all os k ts g l := aOps_mono (hk .normal) h
theorem xCond.cut {x y : Code} {v : AV} (h : xCond E n T rows x y k' ts g l v) : xCond E n T rows x y k ts g l v := by
  unfold xCond condK at *
  cases v with
  | v q =>
    cases q with
    | bool b => simp only at h ⊢; split at h <;> rename_i hb <;> simp only [hb, if_true, if_false, Bool.false_eq_true] <;> exact xCode.cut hk h
    | _ => exact h
  | _ => exact h
theorem xOne.cut {o : Oper} (h : xOne E n T rows o all os k' ts g l) : xOne E n T rows o all os k ts g l := aOne_mono (fun _ _ _ hh => xOps.cut hk hh) h
theorem xGuard.cut {d : Nat} {o : Oper} {want : Bool} {v : AV} (h : xGuard E n T rows d o want all os k' ts g l v) : xGuard E n T rows d o want all os k ts g l v := by
  unfold xGuard guardK at *
  cases v with
  | v q =>
    cases q with
    | bool b => simp only at h ⊢; split at h <;> rename_i hb <;> simp only [hb, if_true, if_false] <;> first | exact xOne.cut hk h | exact xOps.cut hk h
    | tuple q => exact xOps.cut hk h
    | _ => exact h
  | _ => exact h
theorem xWait.cut {dst : Option Nat} {f : FuncId} {args : List AV} {σ : List Ent} {m : Nat} (h : xWait E n T rows dst all os k' ts f args σ m) : xWait E n T rows dst all os k ts f args σ m :=
  h.mono fun _ _ hh => xOps.cut hk hh
end
/-- A region that draws its order. -/
theorem xdraw {E : Env} {T : Nat → TI} (hT : TabOK E.P T) {n id : Nat} {rows : List Nat} {ops : Array Oper} {k : Kont} {ts : Ts} {g l : List Ent} (bars : List Nat)
    (hm : E.P.follows .mixedOrders = true) (hord : ordered ops = true) (hbar : barred ops bars = true) (hok : opsOK n ops.toList = true)
    (h : aDraw E T ops bars 0 ops.toList ts g l fun ts' g' l' => xK E n T rows k .normal ts' g' l') : xCode E n T rows (.region id ops true) k ts g l := by
  unfold xCode
  rw [aCode_draw]
  exact awp_draw hT bars hm hord hbar hok h
end Go.Vm

/- The same, where a region draws its order. -/
set_option linter.unusedVariables false
set_option linter.unusedSectionVars false
namespace Go.Vm
open Go.RowKit

section
variable (E : Env) (n : Nat) (T : Nat → TI) (rows bars : List Nat) (i : Nat)
def yDraw (all : Array Oper) (os : List Oper) (k : Kont) (ts : Ts) (g l : List Ent) : Prop := aDraw E T all bars i os ts g l fun ts g l => xK E n T rows k .normal ts g l
def yNext (o : Oper) (all : Array Oper) (os : List Oper) (k : Kont) (ts : Ts) (g l : List Ent) : Prop :=
  aNext bars i E T o ts g l fun r g l => yDraw E n T rows bars (i + 1) all os k (tput ts o.dst r) g l
def yOut (bar : Bool) (dst : Option Nat) (all : Array Oper) (os : List Oper) (k : Kont) (ts : Ts) (g l : List Ent) (o : Out) : Prop :=
  detK bar g l o fun r g l => yDraw E n T rows bars (i + 1) all os k (tput ts dst r) g l
def ySlot (o : Oper) (want : Bool) (all : Array Oper) (os : List Oper) (k : Kont) (ts : Ts) (g l : List Ent) (s : Option Nat) : Prop :=
  slotK s fun d => guardK (tget ts d) want
      (aNext bars i E T o ((d, boolV want) :: ts) g l fun r g l => aDraw E T all bars (i + 1) os (tput ((d, boolV want) :: ts) o.dst r) g l fun ts g l => xK E n T rows k .normal ts g l)
      (aDraw E T all bars (i + 1) os (tput ((d, boolV (!want)) :: ts) o.dst (.v undef)) g l fun ts g l => xK E n T rows k .normal ts g l)
      (aDraw E T all bars (i + 1) os (tput ts o.dst (.v undef)) g l fun ts g l => xK E n T rows k .normal ts g l)
def yGuard (d : Nat) (o : Oper) (want : Bool) (all : Array Oper) (os : List Oper) (k : Kont) (ts : Ts) (g l : List Ent) (v : AV) : Prop :=
  guardK v want (yNext E n T rows bars i o all os k ((d, boolV want) :: ts) g l)
      (yDraw E n T rows bars (i + 1) all os k (tput ((d, boolV (!want)) :: ts) o.dst (.v undef)) g l) (yDraw E n T rows bars (i + 1) all os k (tput ts o.dst (.v undef)) g l)
/-- A call among operations whose order is drawn, that is to be met by its contract. -/
def yWait (dst : Option Nat) (all : Array Oper) (os : List Oper) (k : Kont) (ts : Ts) (f : FuncId) (args : List AV) (g l : List Ent) : Prop :=
  bars.contains i = false ∧ ∃ r, (ACalls E f args (g ++ l) fun r' τ' => r' = r ∧ τ' = g ++ l) ∧ yDraw E n T rows bars (i + 1) all os k (tput ts dst r) g l

variable (all : Array Oper) (os : List Oper) (k : Kont) (ts : Ts) (g l : List Ent)
theorem yDraw_intro : (aDraw E T all bars i os ts g l fun ts g l => xK E n T rows k .normal ts g l) = yDraw E n T rows bars i all os k ts g l := nrfl rfl
theorem yDraw_nil : yDraw E n T rows bars i all [] k ts g l = xK E n T rows k .normal ts g l := nrfl rfl
theorem yDraw_go (dst : Option Nat) (op : Op) (ty : TypeId) (pos : String) (after : Array Edge) :
    yDraw E n T rows bars i all (⟨dst, op, ty, pos, after, none⟩ :: os) k ts g l = yNext E n T rows bars i ⟨dst, op, ty, pos, after, none⟩ all os k ts g l := nrfl rfl
theorem yDraw_if (dst : Option Nat) (op : Op) (ty : TypeId) (pos : String) (after : Array Edge) (j : Nat) (want : Bool) :
    yDraw E n T rows bars i all (⟨dst, op, ty, pos, after, some (j, want)⟩ :: os) k ts g l = ySlot E n T rows bars i ⟨dst, op, ty, pos, after, some (j, want)⟩ want all os k ts g l (gslot all j) := by
  unfold yDraw ySlot
  rw [aDraw_if]
theorem ySlot_some (o : Oper) (want : Bool) (d : Nat) : ySlot E n T rows bars i o want all os k ts g l (some d) = yGuard E n T rows bars i d o want all os k ts g l (tget ts d) := nrfl rfl
theorem yGuard_tt (d : Nat) (o : Oper) : yGuard E n T rows bars i d o true all os k ts g l (.v (.bool true)) = yNext E n T rows bars i o all os k ((d, boolV true) :: ts) g l := nrfl rfl
theorem yGuard_ff (d : Nat) (o : Oper) : yGuard E n T rows bars i d o false all os k ts g l (.v (.bool false)) = yNext E n T rows bars i o all os k ((d, boolV false) :: ts) g l := nrfl rfl
theorem yGuard_tf (d : Nat) (o : Oper) : yGuard E n T rows bars i d o false all os k ts g l (.v (.bool true)) = yDraw E n T rows bars (i + 1) all os k (tput ((d, boolV true) :: ts) o.dst (.v undef)) g l := nrfl rfl
theorem yGuard_ft (d : Nat) (o : Oper) : yGuard E n T rows bars i d o true all os k ts g l (.v (.bool false)) = yDraw E n T rows bars (i + 1) all os k (tput ((d, boolV false) :: ts) o.dst (.v undef)) g l := nrfl rfl
theorem yGuard_un (d : Nat) (o : Oper) (want : Bool) (vs : Array Value) : yGuard E n T rows bars i d o want all os k ts g l (.v (.tuple vs)) = yDraw E n T rows bars (i + 1) all os k (tput ts o.dst (.v undef)) g l := nrfl rfl
theorem yOut_some (bar : Bool) (dst : Option Nat) (p : Prop) (r : AV) (g1 l1 : List Ent) : yOut E n T rows bars i bar dst all os k ts g l (some (p, r, g1, l1)) =
    (p ∧ (if bar = true then g1.length = g.length else g1 = g ∧ l1 = l) ∧ yDraw E n T rows bars (i + 1) all os k (tput ts dst r) g1 l1) := nrfl rfl
theorem yOut_pure (dst : Option Nat) (r : AV) : yOut E n T rows bars i false dst all os k ts g l (some (True, r, g, l)) = yDraw E n T rows bars (i + 1) all os k (tput ts dst r) g l := by
  rw [yOut_some]; simp
theorem yOut_cond (dst : Option Nat) (p : Prop) (r : AV) : yOut E n T rows bars i false dst all os k ts g l (some (p, r, g, l)) = (p ∧ yDraw E n T rows bars (i + 1) all os k (tput ts dst r) g l) := by
  rw [yOut_some]; simp
theorem yNext_det (o : Oper) (h : notCall o.op = true) : yNext E n T rows bars i o all os k ts g l = yOut E n T rows bars i (bars.contains i) o.dst all os k ts g l (aDet T [] o ts g l) := by
  unfold yNext
  rw [aNext_det _ _ _ _ _ _ _ _ _ h]; rfl
theorem yWait_call {dst : Option Nat} {f : FuncId} {as : Array Operand} {tys : Array TypeId} {ty : TypeId} {pos : String} {after : Array Edge} {gd : Option (Nat × Bool)}
    (h : yWait E n T rows bars i dst all os k ts f (as.toList.map (ev ts)) g l) : yNext E n T rows bars i ⟨dst, .call { callee := .value (.func f), args := as, argTypes := tys }, ty, pos, after, gd⟩ all os k ts g l := by
  obtain ⟨h0, r, h1, h2⟩ := h
  exact aNext_call _ _ _ _ _ _ _ _ h0 h1 h2
variable (ix : Nat)
theorem yNext_move (dst : Option Nat) (x : Operand) (ty : TypeId) (pos : String) (after : Array Edge) (gd : Option (Nat × Bool)) :
    yNext E n T rows bars ix ⟨dst, .move x, ty, pos, after, gd⟩ all os k ts g l = yOut E n T rows bars ix (bars.contains ix) dst all os k ts g l (aDet T [] ⟨dst, .move x, ty, pos, after, gd⟩ ts g l) := yNext_det E n T rows bars ix all os k ts g l _ rfl
theorem yNext_assign (dst : Option Nat) (x : Operand) (ty : TypeId) (pos : String) (after : Array Edge) (gd : Option (Nat × Bool)) :
    yNext E n T rows bars ix ⟨dst, .assign x, ty, pos, after, gd⟩ all os k ts g l = yOut E n T rows bars ix (bars.contains ix) dst all os k ts g l (aDet T [] ⟨dst, .assign x, ty, pos, after, gd⟩ ts g l) := yNext_det E n T rows bars ix all os k ts g l _ rfl
theorem yNext_pick (dst : Option Nat) (c a b : Operand) (ty : TypeId) (pos : String) (after : Array Edge) (gd : Option (Nat × Bool)) :
    yNext E n T rows bars ix ⟨dst, .pick c a b, ty, pos, after, gd⟩ all os k ts g l = yOut E n T rows bars ix (bars.contains ix) dst all os k ts g l (aDet T [] ⟨dst, .pick c a b, ty, pos, after, gd⟩ ts g l) := yNext_det E n T rows bars ix all os k ts g l _ rfl
theorem yNext_alloc (dst : Option Nat) (t : TypeId) (ty : TypeId) (pos : String) (after : Array Edge) (gd : Option (Nat × Bool)) :
    yNext E n T rows bars ix ⟨dst, .alloc t, ty, pos, after, gd⟩ all os k ts g l = yOut E n T rows bars ix (bars.contains ix) dst all os k ts g l (aDet T [] ⟨dst, .alloc t, ty, pos, after, gd⟩ ts g l) := yNext_det E n T rows bars ix all os k ts g l _ rfl
theorem yNext_box (dst : Option Nat) (t : TypeId) (v : Operand) (ty : TypeId) (pos : String) (after : Array Edge) (gd : Option (Nat × Bool)) :
    yNext E n T rows bars ix ⟨dst, .box t v, ty, pos, after, gd⟩ all os k ts g l = yOut E n T rows bars ix (bars.contains ix) dst all os k ts g l (aDet T [] ⟨dst, .box t v, ty, pos, after, gd⟩ ts g l) := yNext_det E n T rows bars ix all os k ts g l _ rfl
theorem yNext_build (dst : Option Nat) (t : TypeId) (parts : Array (Nat × Operand)) (ty : TypeId) (pos : String) (after : Array Edge) (gd : Option (Nat × Bool)) :
    yNext E n T rows bars ix ⟨dst, .build t parts, ty, pos, after, gd⟩ all os k ts g l = yOut E n T rows bars ix (bars.contains ix) dst all os k ts g l (aDet T [] ⟨dst, .build t parts, ty, pos, after, gd⟩ ts g l) := yNext_det E n T rows bars ix all os k ts g l _ rfl
theorem yNext_buildSlice (dst : Option Nat) (t : TypeId) (m : Nat) (parts : Array (Nat × Operand)) (ty : TypeId) (pos : String) (after : Array Edge) (gd : Option (Nat × Bool)) :
    yNext E n T rows bars ix ⟨dst, .buildSlice t m parts, ty, pos, after, gd⟩ all os k ts g l = yOut E n T rows bars ix (bars.contains ix) dst all os k ts g l (aDet T [] ⟨dst, .buildSlice t m parts, ty, pos, after, gd⟩ ts g l) := yNext_det E n T rows bars ix all os k ts g l _ rfl
theorem yNext_load (dst : Option Nat) (t : TypeId) (a : Operand) (ty : TypeId) (pos : String) (after : Array Edge) (gd : Option (Nat × Bool)) :
    yNext E n T rows bars ix ⟨dst, .load t a, ty, pos, after, gd⟩ all os k ts g l = yOut E n T rows bars ix (bars.contains ix) dst all os k ts g l (aDet T [] ⟨dst, .load t a, ty, pos, after, gd⟩ ts g l) := yNext_det E n T rows bars ix all os k ts g l _ rfl
theorem yNext_store (dst : Option Nat) (t : TypeId) (a v : Operand) (ty : TypeId) (pos : String) (after : Array Edge) (gd : Option (Nat × Bool)) :
    yNext E n T rows bars ix ⟨dst, .store t a v, ty, pos, after, gd⟩ all os k ts g l = yOut E n T rows bars ix (bars.contains ix) dst all os k ts g l (aDet T [] ⟨dst, .store t a v, ty, pos, after, gd⟩ ts g l) := yNext_det E n T rows bars ix all os k ts g l _ rfl
theorem yNext_nilCheck (dst : Option Nat) (x : Operand) (ty : TypeId) (pos : String) (after : Array Edge) (gd : Option (Nat × Bool)) :
    yNext E n T rows bars ix ⟨dst, .nilCheck x, ty, pos, after, gd⟩ all os k ts g l = yOut E n T rows bars ix (bars.contains ix) dst all os k ts g l (aDet T [] ⟨dst, .nilCheck x, ty, pos, after, gd⟩ ts g l) := yNext_det E n T rows bars ix all os k ts g l _ rfl
theorem yNext_binOp (dst : Option Nat) (op : BinOp) (t : TypeId) (x y : Operand) (u : TypeId) (ty : TypeId) (pos : String) (after : Array Edge) (gd : Option (Nat × Bool)) :
    yNext E n T rows bars ix ⟨dst, .binOp op t x y u, ty, pos, after, gd⟩ all os k ts g l = yOut E n T rows bars ix (bars.contains ix) dst all os k ts g l (aDet T [] ⟨dst, .binOp op t x y u, ty, pos, after, gd⟩ ts g l) := yNext_det E n T rows bars ix all os k ts g l _ rfl
theorem yNext_unOp (dst : Option Nat) (op : UnOp) (t : TypeId) (x : Operand) (ty : TypeId) (pos : String) (after : Array Edge) (gd : Option (Nat × Bool)) :
    yNext E n T rows bars ix ⟨dst, .unOp op t x, ty, pos, after, gd⟩ all os k ts g l = yOut E n T rows bars ix (bars.contains ix) dst all os k ts g l (aDet T [] ⟨dst, .unOp op t x, ty, pos, after, gd⟩ ts g l) := yNext_det E n T rows bars ix all os k ts g l _ rfl
theorem yNext_convert (dst : Option Nat) (s d : TypeId) (x : Operand) (ty : TypeId) (pos : String) (after : Array Edge) (gd : Option (Nat × Bool)) :
    yNext E n T rows bars ix ⟨dst, .convert s d x, ty, pos, after, gd⟩ all os k ts g l = yOut E n T rows bars ix (bars.contains ix) dst all os k ts g l (aDet T [] ⟨dst, .convert s d x, ty, pos, after, gd⟩ ts g l) := yNext_det E n T rows bars ix all os k ts g l _ rfl
theorem yNext_makeInterface (dst : Option Nat) (t : TypeId) (x : Operand) (ty : TypeId) (pos : String) (after : Array Edge) (gd : Option (Nat × Bool)) :
    yNext E n T rows bars ix ⟨dst, .makeInterface t x, ty, pos, after, gd⟩ all os k ts g l = yOut E n T rows bars ix (bars.contains ix) dst all os k ts g l (aDet T [] ⟨dst, .makeInterface t x, ty, pos, after, gd⟩ ts g l) := yNext_det E n T rows bars ix all os k ts g l _ rfl
theorem yNext_makeFunc (dst : Option Nat) (fn : Fn) (first captured : Array Operand) (ty : TypeId) (pos : String) (after : Array Edge) (gd : Option (Nat × Bool)) :
    yNext E n T rows bars ix ⟨dst, .makeFunc fn first captured, ty, pos, after, gd⟩ all os k ts g l = yOut E n T rows bars ix (bars.contains ix) dst all os k ts g l (aDet T [] ⟨dst, .makeFunc fn first captured, ty, pos, after, gd⟩ ts g l) := yNext_det E n T rows bars ix all os k ts g l _ rfl
theorem yNext_makeMap (dst : Option Nat) (t : TypeId) (r : Option Operand) (ty : TypeId) (pos : String) (after : Array Edge) (gd : Option (Nat × Bool)) :
    yNext E n T rows bars ix ⟨dst, .makeMap t r, ty, pos, after, gd⟩ all os k ts g l = yOut E n T rows bars ix (bars.contains ix) dst all os k ts g l (aDet T [] ⟨dst, .makeMap t r, ty, pos, after, gd⟩ ts g l) := yNext_det E n T rows bars ix all os k ts g l _ rfl
theorem yNext_makeSlice (dst : Option Nat) (t : TypeId) (a b : Operand) (ty : TypeId) (pos : String) (after : Array Edge) (gd : Option (Nat × Bool)) :
    yNext E n T rows bars ix ⟨dst, .makeSlice t a b, ty, pos, after, gd⟩ all os k ts g l = yOut E n T rows bars ix (bars.contains ix) dst all os k ts g l (aDet T [] ⟨dst, .makeSlice t a b, ty, pos, after, gd⟩ ts g l) := yNext_det E n T rows bars ix all os k ts g l _ rfl
theorem yNext_slice (dst : Option Nat) (t : TypeId) (x : Operand) (lo hi mx : Option Operand) (ty : TypeId) (pos : String) (after : Array Edge) (gd : Option (Nat × Bool)) :
    yNext E n T rows bars ix ⟨dst, .slice t x lo hi mx, ty, pos, after, gd⟩ all os k ts g l = yOut E n T rows bars ix (bars.contains ix) dst all os k ts g l (aDet T [] ⟨dst, .slice t x lo hi mx, ty, pos, after, gd⟩ ts g l) := yNext_det E n T rows bars ix all os k ts g l _ rfl
theorem yNext_fieldAddr (dst : Option Nat) (t : TypeId) (x : Operand) (f : Nat) (ty : TypeId) (pos : String) (after : Array Edge) (gd : Option (Nat × Bool)) :
    yNext E n T rows bars ix ⟨dst, .fieldAddr t x f, ty, pos, after, gd⟩ all os k ts g l = yOut E n T rows bars ix (bars.contains ix) dst all os k ts g l (aDet T [] ⟨dst, .fieldAddr t x f, ty, pos, after, gd⟩ ts g l) := yNext_det E n T rows bars ix all os k ts g l _ rfl
theorem yNext_field (dst : Option Nat) (t : TypeId) (x : Operand) (f : Nat) (ty : TypeId) (pos : String) (after : Array Edge) (gd : Option (Nat × Bool)) :
    yNext E n T rows bars ix ⟨dst, .field t x f, ty, pos, after, gd⟩ all os k ts g l = yOut E n T rows bars ix (bars.contains ix) dst all os k ts g l (aDet T [] ⟨dst, .field t x f, ty, pos, after, gd⟩ ts g l) := yNext_det E n T rows bars ix all os k ts g l _ rfl
theorem yNext_indexAddr (dst : Option Nat) (t : TypeId) (x i : Operand) (ty : TypeId) (pos : String) (after : Array Edge) (gd : Option (Nat × Bool)) :
    yNext E n T rows bars ix ⟨dst, .indexAddr t x i, ty, pos, after, gd⟩ all os k ts g l = yOut E n T rows bars ix (bars.contains ix) dst all os k ts g l (aDet T [] ⟨dst, .indexAddr t x i, ty, pos, after, gd⟩ ts g l) := yNext_det E n T rows bars ix all os k ts g l _ rfl
theorem yNext_index (dst : Option Nat) (t : TypeId) (x i : Operand) (ty : TypeId) (pos : String) (after : Array Edge) (gd : Option (Nat × Bool)) :
    yNext E n T rows bars ix ⟨dst, .index t x i, ty, pos, after, gd⟩ all os k ts g l = yOut E n T rows bars ix (bars.contains ix) dst all os k ts g l (aDet T [] ⟨dst, .index t x i, ty, pos, after, gd⟩ ts g l) := yNext_det E n T rows bars ix all os k ts g l _ rfl
theorem yNext_lookup (dst : Option Nat) (t : TypeId) (x i : Operand) (ok : Bool) (ty : TypeId) (pos : String) (after : Array Edge) (gd : Option (Nat × Bool)) :
    yNext E n T rows bars ix ⟨dst, .lookup t x i ok, ty, pos, after, gd⟩ all os k ts g l = yOut E n T rows bars ix (bars.contains ix) dst all os k ts g l (aDet T [] ⟨dst, .lookup t x i ok, ty, pos, after, gd⟩ ts g l) := yNext_det E n T rows bars ix all os k ts g l _ rfl
theorem yNext_mapUpdate (dst : Option Nat) (t : TypeId) (m a v : Operand) (ty : TypeId) (pos : String) (after : Array Edge) (gd : Option (Nat × Bool)) :
    yNext E n T rows bars ix ⟨dst, .mapUpdate t m a v, ty, pos, after, gd⟩ all os k ts g l = yOut E n T rows bars ix (bars.contains ix) dst all os k ts g l (aDet T [] ⟨dst, .mapUpdate t m a v, ty, pos, after, gd⟩ ts g l) := yNext_det E n T rows bars ix all os k ts g l _ rfl
theorem yNext_range (dst : Option Nat) (t : TypeId) (x : Operand) (ty : TypeId) (pos : String) (after : Array Edge) (gd : Option (Nat × Bool)) :
    yNext E n T rows bars ix ⟨dst, .range t x, ty, pos, after, gd⟩ all os k ts g l = yOut E n T rows bars ix (bars.contains ix) dst all os k ts g l (aDet T [] ⟨dst, .range t x, ty, pos, after, gd⟩ ts g l) := yNext_det E n T rows bars ix all os k ts g l _ rfl
theorem yNext_next (dst : Option Nat) (i : Operand) (s : Bool) (ty : TypeId) (pos : String) (after : Array Edge) (gd : Option (Nat × Bool)) :
    yNext E n T rows bars ix ⟨dst, .next i s, ty, pos, after, gd⟩ all os k ts g l = yOut E n T rows bars ix (bars.contains ix) dst all os k ts g l (aDet T [] ⟨dst, .next i s, ty, pos, after, gd⟩ ts g l) := yNext_det E n T rows bars ix all os k ts g l _ rfl
theorem yNext_entry (dst : Option Nat) (i : Operand) (ty : TypeId) (pos : String) (after : Array Edge) (gd : Option (Nat × Bool)) :
    yNext E n T rows bars ix ⟨dst, .entry i, ty, pos, after, gd⟩ all os k ts g l = yOut E n T rows bars ix (bars.contains ix) dst all os k ts g l (aDet T [] ⟨dst, .entry i, ty, pos, after, gd⟩ ts g l) := yNext_det E n T rows bars ix all os k ts g l _ rfl
theorem yNext_typeAssert (dst : Option Nat) (x : Operand) (t u : TypeId) (ok : Bool) (ty : TypeId) (pos : String) (after : Array Edge) (gd : Option (Nat × Bool)) :
    yNext E n T rows bars ix ⟨dst, .typeAssert x t u ok, ty, pos, after, gd⟩ all os k ts g l = yOut E n T rows bars ix (bars.contains ix) dst all os k ts g l (aDet T [] ⟨dst, .typeAssert x t u ok, ty, pos, after, gd⟩ ts g l) := yNext_det E n T rows bars ix all os k ts g l _ rfl
theorem yNext_extract (dst : Option Nat) (x : Operand) (i : Nat) (ty : TypeId) (pos : String) (after : Array Edge) (gd : Option (Nat × Bool)) :
    yNext E n T rows bars ix ⟨dst, .extract x i, ty, pos, after, gd⟩ all os k ts g l = yOut E n T rows bars ix (bars.contains ix) dst all os k ts g l (aDet T [] ⟨dst, .extract x i, ty, pos, after, gd⟩ ts g l) := yNext_det E n T rows bars ix all os k ts g l _ rfl
theorem yNext_builtin (dst : Option Nat) (b : Builtin) (as : Array Operand) (tys : Array TypeId) (ty : TypeId) (pos : String) (after : Array Edge) (gd : Option (Nat × Bool)) :
    yNext E n T rows bars ix ⟨dst, .call { callee := .builtin b, args := as, argTypes := tys }, ty, pos, after, gd⟩ all os k ts g l = yOut E n T rows bars ix (bars.contains ix) dst all os k ts g l (aDet T [] ⟨dst, .call { callee := .builtin b, args := as, argTypes := tys }, ty, pos, after, gd⟩ ts g l) := yNext_det E n T rows bars ix all os k ts g l _ rfl
end

/-- A call whose order is drawn, met by its contract. -/
theorem yNext.go {E : Env} {n : Nat} {T : Nat → TI} {rows bars : List Nat} {i : Nat} {all : Array Oper} {os : List Oper} {k : Kont} {ts : Ts} {g l : List Ent}
    {dst : Option Nat} {f : FuncId} {as : Array Operand} {tys : Array TypeId} {ty : TypeId} {pos : String} {after : Array Edge} {gd : Option (Nat × Bool)} {r : AV}
    (h0 : bars.contains i = false) (args : List AV) (ha : as.toList.map (ev ts) = args) (h : ACalls E f args (g ++ l) fun r' τ' => r' = r ∧ τ' = g ++ l)
    (hk : yDraw E n T rows bars (i + 1) all os k (tput ts dst r) g l) :
    yNext E n T rows bars i ⟨dst, .call { callee := .value (.func f), args := as, argTypes := tys }, ty, pos, after, gd⟩ all os k ts g l :=
  yWait_call E n T rows bars i all os k ts g l ⟨h0, r, by rw [ha]; exact h, hk⟩

/-- A region that draws its order. -/
theorem ydraw {E : Env} {T : Nat → TI} (hT : TabOK E.P T) {n id : Nat} {rows : List Nat} {ops : Array Oper} {k : Kont} {ts : Ts} {g l : List Ent} (bars : List Nat)
    (hm : E.P.follows .mixedOrders = true) (hord : ordered ops = true) (hbar : barred ops bars = true) (hok : opsOK n ops.toList = true)
    (h : yDraw E n T rows bars 0 ops ops.toList k ts g l) : xCode E n T rows (.region id ops true) k ts g l :=
  xdraw hT bars hm hord hbar hok h
end Go.Vm
