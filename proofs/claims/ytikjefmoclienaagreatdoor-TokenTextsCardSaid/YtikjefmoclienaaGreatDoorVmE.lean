/- What an operation does hangs on its operands alone. -/
import Derived.Test.YtikjefmoclienaaGreatDoorVmD
import Derived.Orders
set_option linter.unusedVariables false
set_option linter.unusedSimpArgs false
set_option linter.unusedSectionVars false
namespace Go.Vm
open Go.RowKit

section
variable {E : Env} {T : Nat → TI} {ts ts' : Ts} {g l : List Ent}

theorem ev_const (x : Operand) (h : ∀ t, x = .tmp t → tget ts t = tget ts' t) : ev ts x = ev ts' x := by
  cases x <;> simp only [ev]
  exact h _ rfl

theorem fill_congr (flds : List (Nat × Nat × Bool)) : ∀ (ps : List (Nat × Operand)) (cells : List AV), (∀ p ∈ ps, ev ts p.2 = ev ts' p.2) → fill T flds ts cells ps = fill T flds ts' cells ps
  | [], _, _ => rfl
  | (i, x) :: ps, cells, h => by
    have h0 : ev ts x = ev ts' x := h (i, x) (by simp)
    simp only [fill, h0]
    split
    · split
      · exact fill_congr flds ps _ fun p hp => h p (by simp [hp])
      · rfl
    · rfl
theorem lits_congr (sz : Nat) (ag : Bool) : ∀ (ps : List (Nat × Operand)) (i : Nat), (∀ p ∈ ps, ev ts p.2 = ev ts' p.2) → lits ts sz ag i ps = lits ts' sz ag i ps
  | [], _, _ => rfl
  | (j, x) :: ps, i, h => by
    have h0 : ev ts x = ev ts' x := h (j, x) (by simp)
    simp only [lits, h0, lits_congr sz ag ps (i + 1) fun p hp => h p (by simp [hp])]
theorem map_congr' (l : List Operand) (h : ∀ x ∈ l, ev ts x = ev ts' x) : l.map (ev ts) = l.map (ev ts') := List.map_congr_left h

theorem aDet_congr (rows : List Nat) (o : Oper) (h : ∀ x ∈ o.op.operands, ev ts x = ev ts' x) : aDet T rows o ts g l = aDet T rows o ts' g l := by
  obtain ⟨dst, op, type, pos, after, guard⟩ := o
  unfold aDet
  cases op <;> simp only [Op.operands] at h <;> try rfl
  case move x => simp only [h x (by simp)]
  case assign x => simp only [h x (by simp)]
  case pick c a b => simp only [h c (by simp), h a (by simp), h b (by simp)]
  case box t x => simp only [h x (by simp)]
  case build t ps =>
    have h' : ∀ p ∈ ps.toList, ev ts p.2 = ev ts' p.2 := fun p hp => h p.2 (by simp; exact ⟨p.1, by simpa using hp⟩)
    simp only [fill_congr _ _ _ h']
  case buildSlice t n ps =>
    have h' : ∀ p ∈ ps.toList, ev ts p.2 = ev ts' p.2 := fun p hp => h p.2 (by simp; exact ⟨p.1, by simpa using hp⟩)
    simp only [lits_congr _ _ _ _ h']
  case load t x => simp only [h x (by simp)]
  case store t x y => simp only [h x (by simp), h y (by simp)]
  case nilCheck x => simp only [h x (by simp)]
  case binOp op t x y tu => simp only [h x (by simp), h y (by simp)]
  case unOp op t x => simp only [h x (by simp)]
  case convert s d x => simp only [h x (by simp)]
  case makeInterface t x => simp only [h x (by simp)]
  case makeSlice t x y => simp only [h x (by simp), h y (by simp)]
  case makeFunc fn fs cs =>
    cases fn <;> try rfl
    have h1 := map_congr' (ts := ts) (ts' := ts') fs.toList fun x hx => h x (by simp; exact .inl (by simpa using hx))
    have h2 := map_congr' (ts := ts) (ts' := ts') cs.toList fun x hx => h x (by simp; exact .inr (by simpa using hx))
    simp only [h1, h2]
  case slice t x lo hi mx =>
    cases mx with
    | some m => rfl
    | none =>
      have h0 := h x (by simp)
      have h1 : lo.map (ev ts) = lo.map (ev ts') := by cases lo with
        | none => rfl
        | some q => simp [h q (by simp)]
      have h2 : hi.map (ev ts) = hi.map (ev ts') := by cases hi with
        | none => rfl
        | some q => simp [h q (by simp)]
      simp only [h0, h1, h2]
  case fieldAddr t x f => simp only [h x (by simp)]
  case field t x f => simp only [h x (by simp)]
  case indexAddr t x i => simp only [h x (by simp), h i (by simp)]
  case index t x i => simp only [h x (by simp), h i (by simp)]
  case extract x i => simp only [h x (by simp)]
  case call c =>
    obtain ⟨callee, args, argTypes⟩ := c
    simp only [Call.operands] at h
    have ha : ∀ x ∈ args.toList, ev ts x = ev ts' x := fun x hx => h x (by simp; exact .inr (by simpa using hx))
    have hm := map_congr' args.toList ha
    have hg : ∀ {i : Nat} {x : Operand}, args[i]? = some x → ev ts x = ev ts' x := fun {i x} hx => ha x (by simpa using Array.mem_of_getElem? hx)
    cases callee with
    | value f => rfl
    | invoke r m => rfl
    | builtin b =>
      cases b <;> try rfl
      case len =>
        simp only
        split
        · rename_i x t h0 k0; rw [hg h0]
        · rfl
      case append =>
        simp only
        split
        · rename_i x y t h0 h1 k0; rw [hg h0, hg h1]
        · rfl
      case unsafeSliceData => simp only [hm]
      case unsafeString => simp only [hm]
      case copy => simp only [hm]
      case cap => simp only [hm]
      case max => simp only [hm]
      case min => simp only [hm]

theorem aOne_congr' (rows : List Nat) (o : Oper) (K : AV → List Ent → List Ent → Prop) (h : ∀ x ∈ o.op.operands, ev ts x = ev ts' x) : aOne E T rows o ts g l K = aOne E T rows o ts' g l K := by
  have hd := aDet_congr (T := T) (g := g) (l := l) rows o h
  unfold aOne
  split
  · rename_i f as tys ho
    rw [ho] at h
    simp only [Op.operands, Call.operands] at h
    have h0 := h f (by simp)
    have hm := map_congr' (ts := ts) (ts' := ts') as.toList fun x hx => h x (by simp; exact .inr (by simpa using hx))
    rw [h0, hm]
  · rename_i f _ as tys ho
    rw [ho] at h
    simp only [Op.operands, Call.operands] at h
    have h0 := h f (by simp)
    have hm := map_congr' (ts := ts) (ts' := ts') as.toList fun x hx => h x (by simp; exact .inr (by simpa using hx))
    rw [h0, hm]
  · rw [hd]
end
end Go.Vm

/- A region that draws its order, where no operation changes the store: it may be read in the order of the text. -/
set_option linter.unusedVariables false
set_option linter.unusedSimpArgs false
set_option linter.unusedSectionVars false
namespace Go.Vm
open Go.RowKit

/-- The names that an operation looks at: its operands, its guard. -/
def looks (ops : Array Oper) (o : Oper) : List Nat :=
  (o.op.operands.toList.filterMap fun x => match x with | .tmp t => some t | _ => none) ++
  (match o.guard with
   | some (j, _) => ((ops[j]?).bind (·.dst)).toList
   | none => [])

/-- Which operations surely stand before each one. -/
def ancs : List Oper → List (List Nat) → List (List Nat)
  | [], acc => acc
  | o :: os, acc => ancs os (acc ++ [(o.after.toList.filter fun e => Region.binds .any e).flatMap fun e => e.on :: acc.getD e.on []])
def ancOf (ops : Array Oper) : List (List Nat) := ancs ops.toList []

def clash (ops : Array Oper) (x y : Oper) : Bool :=
  match x.dst with
  | some d => (looks ops y).contains d || y.dst == some d
  | none => false

/-- Operations that name one place are in order; each operation stands behind those that it waits for. -/
def ordered (ops : Array Oper) : Bool :=
  (List.range ops.size).all fun j => (ops[j]?).any fun oj =>
    (oj.after.toList.all fun e => !Region.binds .any e || decide (e.on < j)) &&
    (List.range j).all fun i => (ops[i]?).any fun oi => !(clash ops oi oj || clash ops oj oi) || ((ancOf ops).getD j []).contains i

/-- An operation that looks at no store and leaves it as it is. -/
def blind (o : Oper) : Bool := match o.op with
  | .move _ | .assign _ => true
  | _ => false
def freeB (ops : Array Oper) (bars : List Nat) (i : Nat) : Bool := !bars.contains i && (ops[i]?).any blind
/-- These operations stand alone: all before them in the text that look at the store surely stand before, all behind surely behind. -/
def barred (ops : Array Oper) (bars : List Nat) : Bool :=
  bars.all fun j => (List.range j).all (fun i => ((ancOf ops).getD j []).contains i || freeB ops bars i) && (List.range ops.size).all fun k => !decide (j < k) || ((ancOf ops).getD k []).contains j || freeB ops bars k

/-- One operation, told by its value and the store behind it. -/
def aFix (E : Env) (T : Nat → TI) (o : Oper) (ts : Ts) (g l : List Ent) (r : AV) (g1 l1 : List Ent) : Prop :=
  aOne E T [] o ts g l fun r' g' l' => r' = r ∧ g' = g1 ∧ l' = l1

/-- An operation, and what holds behind it. -/
def aNext (bars : List Nat) (k : Nat) (E : Env) (T : Nat → TI) (o : Oper) (ts : Ts) (g l : List Ent) (K : AV → List Ent → List Ent → Prop) : Prop :=
  if bars.contains k = true then ∃ r g1 l1, aFix E T o ts g l r g1 l1 ∧ g1.length = g.length ∧ K r g1 l1 else ∃ r, aFix E T o ts g l r g l ∧ K r g l

def aDraw (E : Env) (T : Nat → TI) (all : Array Oper) (bars : List Nat) : Nat → List Oper → Ts → List Ent → List Ent → (Ts → List Ent → List Ent → Prop) → Prop
  | _, [], ts, g, l, K => K ts g l
  | k, o :: rest, ts, g, l, K =>
    match o.guard with
    | none => aNext bars k E T o ts g l fun r g l => aDraw E T all bars (k + 1) rest (tput ts o.dst r) g l K
    | some (j, want) =>
      match gslot all j with
      | none => False
      | some d =>
        match tget ts d with
        | .v (.bool b) =>
          if b = want then aNext bars k E T o ((d, boolV want) :: ts) g l fun r g l => aDraw E T all bars (k + 1) rest (tput ((d, boolV want) :: ts) o.dst r) g l K
          else aDraw E T all bars (k + 1) rest (tput ((d, boolV (!want)) :: ts) o.dst (.v undef)) g l K
        | .v (.tuple _) => aDraw E T all bars (k + 1) rest (tput ts o.dst (.v undef)) g l K
        | _ => False

def TsEq (a b : Ts) : Prop := ∀ i, tget a i = tget b i
theorem TsEq.refl (a : Ts) : TsEq a a := fun _ => rfl
theorem TsEq.put {a b : Ts} (h : TsEq a b) (d : Option Nat) (r : AV) : TsEq (tput a d r) (tput b d r) := by
  cases d with
  | none => exact h
  | some d => intro i; simp only [tput, tget]; split <;> first | rfl | exact h i
theorem TsEq.tell {a : Ts} {d : Nat} {r : AV} (h : tget a d = r) : TsEq ((d, r) :: a) a := by
  intro i; simp only [tget]; split
  · rename_i hh; subst hh; exact h.symm
  · rfl
theorem TsEq.ev {a b : Ts} (h : TsEq a b) (x : Operand) : ev a x = ev b x := by
  cases x <;> simp only [Vm.ev]; exact h _

/-- What one operation does, in the order of the text. -/
def OpFact (E : Env) (T : Nat → TI) (all : Array Oper) (o : Oper) (ts : Ts) (g l : List Ent) (r : AV) (g1 l1 : List Ent) : Prop :=
  match o.guard with
  | none => aFix E T o ts g l r g1 l1
  | some (j, want) => ∃ d, gslot all j = some d ∧
      ((tget ts d = boolV want ∧ aFix E T o ts g l r g1 l1) ∨ (tget ts d = boolV (!want) ∧ r = .v undef ∧ g1 = g ∧ l1 = l) ∨ (∃ q, tget ts d = .v (.tuple q)) ∧ r = .v undef ∧ g1 = g ∧ l1 = l)

theorem blind_fix {E : Env} {T : Nat → TI} {o : Oper} {ts : Ts} {g l : List Ent} {r : AV} {g1 l1 : List Ent} (hb : blind o = true) (h : aFix E T o ts g l r g1 l1) (g' l' : List Ent) : aFix E T o ts g' l' r g' l' := by
  obtain ⟨dst, op, ty, pos, after, gd⟩ := o
  cases op <;> simp only [blind, Bool.false_eq_true] at hb
  · have h : True ∧ _ ∧ _ ∧ _ := h
    exact ⟨trivial, h.2.1, rfl, rfl⟩
  · have h : True ∧ _ ∧ _ ∧ _ := h
    exact ⟨trivial, h.2.1, rfl, rfl⟩
theorem blind_fact {E : Env} {T : Nat → TI} {all : Array Oper} {o : Oper} {ts : Ts} {g l : List Ent} {r : AV} {g1 l1 : List Ent} (hb : blind o = true) (h : OpFact E T all o ts g l r g1 l1) (g' l' : List Ent) : OpFact E T all o ts g' l' r g' l' := by
  unfold OpFact at h ⊢
  cases hg : o.guard with
  | none => simp only [hg] at h ⊢; exact blind_fix hb h g' l'
  | some jw =>
    obtain ⟨j, want⟩ := jw
    simp only [hg] at h ⊢
    obtain ⟨d, h1, h2⟩ := h
    refine ⟨d, h1, ?_⟩
    rcases h2 with ⟨h2, h3⟩ | ⟨h2, h3, _⟩ | ⟨h2, h3, _⟩
    · exact .inl ⟨h2, blind_fix hb h3 g' l'⟩
    · exact .inr (.inl ⟨h2, h3, by simp⟩)
    · exact .inr (.inr ⟨h2, h3, by simp⟩)

/-- What an operation leaves: its value, the store. -/
structure Tr where
  r : AV
  g : List Ent
  l : List Ent

def tsRun (ts : Ts) : List Oper → List Tr → Ts
  | o :: os, r :: rs => tsRun (tput ts o.dst r.r) os rs
  | _, _ => ts

def Trace (E : Env) (T : Nat → TI) (all : Array Oper) (bars : List Nat) : Nat → Ts → List Ent → List Ent → List Oper → List Tr → Prop
  | _, _, _, _, [], [] => True
  | k, ts, g, l, o :: os, r :: rs => OpFact E T all o ts g l r.r r.g r.l ∧ r.g.length = g.length ∧ (bars.contains k = false → r.g = g ∧ r.l = l) ∧ Trace E T all bars (k + 1) (tput ts o.dst r.r) r.g r.l os rs
  | _, _, _, _, _, _ => False

def endS (g l : List Ent) : List Tr → List Ent × List Ent
  | [] => (g, l)
  | r :: rs => endS r.g r.l rs

theorem aFix_congr {E : Env} {T : Nat → TI} {o : Oper} {ts ts' : Ts} {g l : List Ent} {r : AV} {g1 l1 : List Ent} (h : ∀ x ∈ o.op.operands, ev ts x = ev ts' x) : aFix E T o ts g l r g1 l1 = aFix E T o ts' g l r g1 l1 := by
  unfold aFix; exact aOne_congr' [] o _ h

theorem aDraw_trace {E : Env} {T : Nat → TI} {all : Array Oper} {bars : List Nat} {K : Ts → List Ent → List Ent → Prop} : ∀ (ops : List Oper) (k : Nat) (g l : List Ent) (ts ts1 : Ts), TsEq ts1 ts → aDraw E T all bars k ops ts1 g l K →
    ∃ rs, Trace E T all bars k ts g l ops rs ∧ ∃ tsE, TsEq tsE (tsRun ts ops rs) ∧ K tsE (endS g l rs).1 (endS g l rs).2
  | [], k, g, l, ts, ts1, he, h => ⟨[], trivial, ts1, he, h⟩
  | o :: rest, k, g, l, ts, ts1, he, h => by
    unfold aDraw at h
    have go : ∀ {ts2 : Ts} {r : AV} {g1 l1 : List Ent}, TsEq ts2 ts → OpFact E T all o ts g l r g1 l1 → g1.length = g.length → (bars.contains k = false → g1 = g ∧ l1 = l) → aDraw E T all bars (k + 1) rest (tput ts2 o.dst r) g1 l1 K →
        ∃ rs, Trace E T all bars k ts g l (o :: rest) rs ∧ ∃ tsE, TsEq tsE (tsRun ts (o :: rest) rs) ∧ K tsE (endS g l rs).1 (endS g l rs).2 := by
      intro ts2 r g1 l1 h2 hf hlen hb hd
      obtain ⟨rs, h3, tsE, h4, h5⟩ := aDraw_trace rest (k + 1) g1 l1 (tput ts o.dst r) (tput ts2 o.dst r) (h2.put o.dst r) hd
      exact ⟨⟨r, g1, l1⟩ :: rs, ⟨hf, hlen, hb, h3⟩, tsE, h4, h5⟩
    have go2 : ∀ {ts2 : Ts}, TsEq ts2 ts → (∀ {r : AV} {g1 l1 : List Ent}, aFix E T o ts2 g l r g1 l1 → OpFact E T all o ts g l r g1 l1) → aNext bars k E T o ts2 g l (fun r g l => aDraw E T all bars (k + 1) rest (tput ts2 o.dst r) g l K) →
        ∃ rs, Trace E T all bars k ts g l (o :: rest) rs ∧ ∃ tsE, TsEq tsE (tsRun ts (o :: rest) rs) ∧ K tsE (endS g l rs).1 (endS g l rs).2 := by
      intro ts2 h2 hf hn
      unfold aNext at hn
      split at hn
      · rename_i hb
        obtain ⟨r, g1, l1, h3, h4, h5⟩ := hn
        exact go h2 (hf h3) h4 (fun hh => by rw [hb] at hh; cases hh) h5
      · obtain ⟨r, h3, h5⟩ := hn
        exact go h2 (hf h3) rfl (fun _ => ⟨rfl, rfl⟩) h5
    cases hg : o.guard with
    | none =>
      simp only [hg] at h
      refine go2 he (fun {r g1 l1} h1 => ?_) h
      unfold OpFact; simp only [hg]
      rw [← aFix_congr (ts := ts1) fun x _ => he.ev x]; exact h1
    | some jw =>
      obtain ⟨j, want⟩ := jw
      simp only [hg] at h
      cases hs : gslot all j with
      | none => simp [hs] at h
      | some d =>
        simp only [hs] at h
        split at h
        · rename_i b hb
          have hb2 : tget ts d = .v (.bool b) := by rw [← he d]; exact hb
          split at h
          · rename_i hw
            subst hw
            have ht : TsEq ((d, boolV b) :: ts1) ts := fun i => (TsEq.tell hb i).trans (he i)
            refine go2 ht (fun {r g1 l1} h1 => ?_) h
            unfold OpFact; simp only [hg]
            refine ⟨d, hs, .inl ⟨hb2, ?_⟩⟩
            rw [← aFix_congr (ts := (d, boolV b) :: ts1) fun x _ => ht.ev x]; exact h1
          · rename_i hw
            have hbn : b = !want := by cases b <;> cases want <;> simp_all
            subst hbn
            have ht : TsEq ((d, boolV (!want)) :: ts1) ts := fun i => (TsEq.tell hb i).trans (he i)
            refine go ht ?_ rfl (fun _ => ⟨rfl, rfl⟩) h
            unfold OpFact; simp only [hg]
            exact ⟨d, hs, .inr (.inl ⟨hb2, by simp⟩)⟩
        · rename_i q hb
          refine go he ?_ rfl (fun _ => ⟨rfl, rfl⟩) h
          unfold OpFact; simp only [hg]
          exact ⟨d, hs, .inr (.inr ⟨⟨q, by rw [← he d]; exact hb⟩, by simp⟩)⟩
        · exact h.elim

/-- What a name holds where some operations are through ('D'), the first k of the text looked at. -/
def envD (ops : Array Oper) (rs : List AV) (D : Nat → Bool) (ts : Ts) : Nat → Nat → AV
  | 0, t => tget ts t
  | k + 1, t => if D k = true ∧ (ops[k]?).bind (·.dst) = some t then rs.getD k .un else envD ops rs D ts k t

theorem envD_skip {ops : Array Oper} {rs : List AV} {D : Nat → Bool} {ts : Ts} {t : Nat} : ∀ {n k : Nat}, k ≤ n → (∀ i, k ≤ i → i < n → D i = true → (ops[i]?).bind (·.dst) ≠ some t) → envD ops rs D ts n t = envD ops rs D ts k t
  | 0, k, h, _ => by have : k = 0 := by omega
                     subst this; rfl
  | n + 1, k, h, hh => by
    rcases Nat.lt_or_ge n k with h1 | h1
    · have : k = n + 1 := by omega
      subst this; rfl
    · rw [envD, if_neg (fun hc => hh n h1 (by omega) hc.1 hc.2)]
      exact envD_skip h1 fun i h2 h3 => hh i h2 (by omega)
theorem envD_same {ops : Array Oper} {rs : List AV} {D D' : Nat → Bool} {ts : Ts} {t : Nat} : ∀ {n : Nat}, (∀ i, i < n → (ops[i]?).bind (·.dst) = some t → D i = D' i) → envD ops rs D ts n t = envD ops rs D' ts n t
  | 0, _ => rfl
  | n + 1, hh => by
    rw [envD, envD, envD_same fun i h => hh i (by omega)]
    by_cases hd : (ops[n]?).bind (·.dst) = some t
    · rw [hh n (by omega) hd]
    · rw [if_neg (fun hc => hd hc.2), if_neg (fun hc => hd hc.2)]
end Go.Vm

/- The region that draws, proved. -/
set_option linter.unusedVariables false
set_option linter.unusedSimpArgs false
set_option linter.unusedSectionVars false
namespace Go.Vm
open Go.RowKit

theorem ancs_prefix : ∀ (os : List Oper) (acc : List (List Nat)), ∃ r, ancs os acc = acc ++ r ∧ r.length = os.length
  | [], acc => ⟨[], by simp [ancs], rfl⟩
  | o :: os, acc => by
    obtain ⟨r, h1, h2⟩ := ancs_prefix os (acc ++ [(o.after.toList.filter fun e => Region.binds .any e).flatMap fun e => e.on :: acc.getD e.on []])
    exact ⟨_ :: r, by rw [ancs, h1, List.append_assoc]; rfl, by simp [h2]⟩

theorem ancs_at : ∀ (os : List Oper) (acc : List (List Nat)) (i : Nat) (o : Oper), os[i]? = some o → ∀ k, k ∈ (ancs os acc).getD (acc.length + i) [] →
    ∃ e ∈ o.after.toList, Region.binds .any e = true ∧ (k = e.on ∨ (e.on < acc.length + i ∧ k ∈ (ancs os acc).getD e.on []))
  | [], _, i, o, h, _, _ => by simp at h
  | q :: os, acc, i, o, h, k, hk => by
    obtain ⟨r, h1, h2⟩ := ancs_prefix os (acc ++ [(q.after.toList.filter fun e => Region.binds .any e).flatMap fun e => e.on :: acc.getD e.on []])
    cases i with
    | zero =>
      simp only [List.getElem?_cons_zero, Option.some.injEq] at h
      subst h
      have he : (ancs (q :: os) acc).getD (acc.length + 0) [] = (q.after.toList.filter fun e => Region.binds .any e).flatMap fun e => e.on :: acc.getD e.on [] := by
        rw [ancs, h1]; simp [List.getD]
      rw [he] at hk
      obtain ⟨e, h3, h4⟩ := List.mem_flatMap.1 hk
      obtain ⟨h5, h6⟩ := List.mem_filter.1 h3
      refine ⟨e, h5, h6, ?_⟩
      rcases List.mem_cons.1 h4 with h7 | h7
      · exact .inl h7
      · right
        have hlt : e.on < acc.length := by
          rcases Nat.lt_or_ge e.on acc.length with h8 | h8
          · exact h8
          · simp [List.getD, List.getElem?_eq_none h8] at h7
        refine ⟨by omega, ?_⟩
        rw [ancs, h1]
        simp only [List.getD, List.append_assoc] at h7 ⊢
        rw [List.getElem?_append_left hlt]
        exact h7
    | succ i =>
      simp only [List.getElem?_cons_succ] at h
      have hl : (acc ++ [(q.after.toList.filter fun e => Region.binds .any e).flatMap fun e => e.on :: acc.getD e.on []]).length = acc.length + 1 := by simp
      have := ancs_at os (acc ++ [(q.after.toList.filter fun e => Region.binds .any e).flatMap fun e => e.on :: acc.getD e.on []]) i o h k
      rw [hl] at this
      rw [ancs] at hk ⊢
      rw [show acc.length + (i + 1) = acc.length + 1 + i by omega] at hk ⊢
      exact this hk

/-- Whatever waits for nothing but what is through: all that stands before it is through. -/
theorem anc_through {ops : Array Oper} {D : Nat → Bool} (hD : ∀ (j : Nat) o, ops[j]? = some o → D j = true → ∀ e ∈ o.after.toList, Region.binds .any e = true → D e.on = true) :
    ∀ (j : Nat) o, ops[j]? = some o → (∀ e ∈ o.after.toList, Region.binds .any e = true → D e.on = true) → ∀ k, k ∈ (ancOf ops).getD j [] → D k = true := by
  intro j
  induction j using Nat.strongRecOn with
  | _ j ih =>
    intro o ho hp k hk
    unfold ancOf at hk
    have := ancs_at ops.toList [] j o (by simpa using ho) k
    simp only [List.length_nil, Nat.zero_add] at this
    obtain ⟨e, h1, h2, h3⟩ := this hk
    rcases h3 with rfl | ⟨h3, h4⟩
    · exact hp e h1 h2
    · have hlt : e.on < ops.size := by have := (Array.getElem?_eq_some_iff.1 ho).1; omega
      have he : ops[e.on]? = some ops[e.on] := Array.getElem?_eq_getElem hlt
      exact ih e.on h3 _ he (hD e.on _ he (hp e h1 h2)) k h4

/-- The store behind the first k operations of the text. -/
def stAt (g l : List Ent) (rs : List Tr) : Nat → List Ent × List Ent
  | 0 => (g, l)
  | k + 1 => match rs[k]? with
    | some t => (t.g, t.l)
    | none => (g, l)

theorem tsRun_env {ops : Array Oper} {rs : List Tr} {ts : Ts} {E : Env} {T : Nat → TI} {bars : List Nat} {g l : List Ent} : ∀ (os : List Oper) (qs : List Tr) (k : Nat) (tk : Ts), ops.toList.drop k = os → rs.drop k = qs → k ≤ ops.size →
    (∀ t, tget tk t = envD ops (rs.map Tr.r) (fun _ => true) ts k t) → (stAt g l rs k).1.length = g.length → Trace E T ops bars k tk (stAt g l rs k).1 (stAt g l rs k).2 os qs →
    (∀ t, tget (tsRun tk os qs) t = envD ops (rs.map Tr.r) (fun _ => true) ts ops.size t) ∧ endS (stAt g l rs k).1 (stAt g l rs k).2 qs = stAt g l rs ops.size ∧
    (∀ (j : Nat) o, k ≤ j → ops[j]? = some o → ∃ tj, (∀ t, tget tj t = envD ops (rs.map Tr.r) (fun _ => true) ts j t) ∧
      OpFact E T ops o tj (stAt g l rs j).1 (stAt g l rs j).2 ((rs.map Tr.r).getD j .un) (stAt g l rs (j + 1)).1 (stAt g l rs (j + 1)).2 ∧
      (stAt g l rs j).1.length = g.length ∧ (stAt g l rs (j + 1)).1.length = g.length ∧ (bars.contains j = false → stAt g l rs (j + 1) = stAt g l rs j))
  | [], [], k, tk, h1, h2, hk, h3, _, _ => by
    have : k = ops.size := by have := congrArg List.length h1; simp at this; omega
    subst this
    exact ⟨h3, rfl, fun j o hj ho => by have := (Array.getElem?_eq_some_iff.1 ho).1; omega⟩
  | o :: os, r :: qs, k, tk, h1, h2, hk, h3, hg, h4 => by
    have hlt : k < ops.size := by have := congrArg List.length h1; simp at this; omega
    have ho : ops[k]? = some o := by
      have : ops.toList[k]? = some o := by rw [← List.head?_drop, h1]; rfl
      simpa using this
    have hrk : rs[k]? = some r := by rw [← List.head?_drop, h2]; rfl
    have hr : (rs.map Tr.r).getD k .un = r.r := by simp [List.getD, hrk]
    have hst : stAt g l rs (k + 1) = (r.g, r.l) := by simp [stAt, hrk]
    have h1' : ops.toList.drop (k + 1) = os := by rw [← List.tail_drop, h1]; rfl
    have h2' : rs.drop (k + 1) = qs := by rw [← List.tail_drop, h2]; rfl
    have h3' : ∀ t, tget (tput tk o.dst r.r) t = envD ops (rs.map Tr.r) (fun _ => true) ts (k + 1) t := by
      intro t
      rw [envD, ho]
      simp only [Option.bind_some, true_and]
      cases hd : o.dst with
      | none => simp [tput, h3 t]
      | some d =>
        simp only [tput, tget, Option.some.injEq]
        split
        · exact hr.symm
        · exact h3 t
    obtain ⟨h5, h6, h7, h8⟩ := h4
    obtain ⟨a1, a2, a3⟩ := tsRun_env (bars := bars) (g := g) (l := l) os qs (k + 1) (tput tk o.dst r.r) h1' h2' hlt h3' (by rw [hst]; exact h6.trans hg) (by rw [hst]; exact h8)
    refine ⟨a1, by rw [hst] at a2; exact a2, fun j o' hj ho' => ?_⟩
    rcases Nat.lt_or_ge k j with h9 | h9
    · exact a3 j o' h9 ho'
    · have : j = k := by omega
      subst this
      rw [ho] at ho'; cases ho'
      refine ⟨tk, h3, by rw [hr, hst]; exact h5, hg, by rw [hst]; exact h6.trans hg, fun hb => ?_⟩
      obtain ⟨b1, b2⟩ := h7 hb
      rw [hst, b1, b2]
  | [], _ :: _, _, _, _, _, _, _, _, h => h.elim
  | _ :: _, [], _, _, _, _, _, _, _, h => h.elim

/-- Between two places of the text with no operation that stands alone, the store is one. -/
theorem stAt_same {g l : List Ent} {rs : List Tr} {bars : List Nat} {n : Nat} (h : ∀ j, j < n → bars.contains j = false → stAt g l rs (j + 1) = stAt g l rs j) : ∀ {i k : Nat}, i ≤ k → k ≤ n → (∀ j, i ≤ j → j < k → bars.contains j = false) → stAt g l rs k = stAt g l rs i
  | i, 0, hik, _, _ => by have : i = 0 := by omega
                          subst this; rfl
  | i, k + 1, hik, hk, hb => by
    rcases Nat.lt_or_ge k i with h1 | h1
    · have : i = k + 1 := by omega
      subst this; rfl
    · rw [h k (by omega) (hb k h1 (by omega))]
      exact stAt_same h h1 (by omega) fun j h2 h3 => hb j h2 (by omega)

theorem count_set : ∀ {l : List Bool} {i : Nat}, l[i]? = some false → (l.set i true).countP (fun b => !b) + 1 = l.countP (fun b => !b)
  | [], i, h => by simp at h
  | b :: l, i, h => by
    cases i with
    | zero => simp at h; subst h; simp
    | succ i =>
      simp at h
      have := count_set (l := l) (i := i) (by simpa using h)
      simp only [List.set_cons_succ, List.countP_cons]
      omega
theorem count_zero : ∀ {l : List Bool}, l.countP (fun b => !b) = 0 → ∀ {i : Nat} {b : Bool}, l[i]? = some b → b = true
  | [], _, i, b, h => by simp at h
  | c :: l, hc, i, b, h => by
    simp only [List.countP_cons] at hc
    cases i with
    | zero => simp at h; subst h; cases c <;> simp_all
    | succ i => exact count_zero (l := l) (by omega) (by simpa using h)

theorem tget_map {f : Nat → AV} : ∀ {l : List Nat} {t : Nat}, tget (l.map fun t => (t, f t)) t = if t ∈ l then f t else .un
  | [], t => rfl
  | a :: l, t => by
    simp only [List.map_cons, tget]
    by_cases h : a = t
    · subst h; simp
    · rw [if_neg h, tget_map]
      have : (t ∈ a :: l) ↔ t ∈ l := by simp [Ne.symm h]
      simp only [this]

section
variable {E : Env} {T : Nat → TI} (hT : TabOK E.P T)
include hT

theorem awp_draw {n id : Nat} {ops : Array Oper} {Q : Exit → Ts → List Ent → List Ent → Prop} {ts : Ts} {g l : List Ent} (bars : List Nat) (hm : E.P.follows .mixedOrders = true) (hord : ordered ops = true) (hbar : barred ops bars = true) (hok : opsOK n ops.toList = true)
    (h : aDraw E T ops bars 0 ops.toList ts g l fun ts' g' l' => Q .normal ts' g' l') : AWp E n (.region id ops true) Q ts g l := by
  obtain ⟨trs, htr, tsE, heq, hQ⟩ := aDraw_trace ops.toList 0 g l ts ts (TsEq.refl ts) h
  obtain ⟨hend, hends, hfact⟩ := tsRun_env (ops := ops) (rs := trs) (ts := ts) (bars := bars) (g := g) (l := l) ops.toList trs 0 ts (by simp) (by simp) (Nat.zero_le _) (fun t => rfl) rfl htr
  generalize hrs : trs.map Tr.r = rs at hend hfact
  rw [show endS g l trs = stAt g l trs ops.size from hends] at hQ
  have hsame := fun {i k : Nat} => stAt_same (g := g) (l := l) (rs := trs) (bars := bars) (n := ops.size) (fun j hj hb => by
    obtain ⟨_, _, _, _, _, h1⟩ := hfact j ops[j] (Nat.zero_le _) (Array.getElem?_eq_getElem hj)
    exact h1 hb) (i := i) (k := k)
  unfold barred at hbar
  rw [List.all_eq_true] at hbar
  have hbar1 : ∀ j ∈ bars, ∀ i, i < j → i ∈ (ancOf ops).getD j [] ∨ freeB ops bars i = true := by
    intro j hj i hi
    have := hbar j hj
    simp only [Bool.and_eq_true, List.all_eq_true] at this
    simpa using this.1 i (by simpa using hi)
  have hbar2 : ∀ j ∈ bars, ∀ k, j < k → k < ops.size → j ∈ (ancOf ops).getD k [] ∨ freeB ops bars k = true := by
    intro j hj k hk hk2
    have := hbar j hj
    simp only [Bool.and_eq_true, List.all_eq_true] at this
    have := this.2 k (by simpa using hk2)
    simp only [Bool.or_eq_true, Bool.not_eq_true', decide_eq_false_iff_not] at this
    rcases this with (h1 | h1) | h1
    · exact absurd hk h1
    · left; simpa using h1
    · exact .inr h1
  have hbarf : ∀ j ∈ bars, freeB ops bars j = false := by
    intro j hj
    unfold freeB
    have : bars.contains j = true := by simpa using hj
    rw [this]; rfl
  let InSt : Array Bool → S → Prop := fun listed s => ∃ k, k ≤ ops.size ∧ s.σ = (stAt g l trs k).1 ++ (stAt g l trs k).2 ∧ (stAt g l trs k).1.length = g.length ∧ (∀ j ∈ bars, j < k → listed.getD j false = true) ∧ (∀ j ∈ bars, k ≤ j → listed.getD j false = false)
  unfold ordered at hord
  rw [List.all_eq_true] at hord
  have hpred : ∀ (j : Nat) o, ops[j]? = some o → ∀ e ∈ o.after.toList, Region.binds .any e = true → e.on < j := by
    intro j o ho e he hb
    have hj := hord j (by simpa using (Array.getElem?_eq_some_iff.1 ho).1)
    simp only [ho, Option.any_some, Bool.and_eq_true, List.all_eq_true, Bool.or_eq_true, Bool.not_eq_true', decide_eq_true_eq] at hj
    rcases hj.1 e he with h1 | h1
    · rw [hb] at h1; cases h1
    · exact h1
  have hclash : ∀ (i j : Nat) oi oj, i < j → ops[i]? = some oi → ops[j]? = some oj → (clash ops oi oj = true ∨ clash ops oj oi = true) → i ∈ (ancOf ops).getD j [] := by
    intro i j oi oj hij hi hj hc
    have h1 := hord j (by simpa using (Array.getElem?_eq_some_iff.1 hj).1)
    simp only [hj, Option.any_some, Bool.and_eq_true, List.all_eq_true] at h1
    have h2 := h1.2 i (by simpa using hij)
    simp only [hi, Option.any_some, Bool.or_eq_true, Bool.not_eq_true'] at h2
    rcases h2 with h2 | h2
    · rcases hc with hc | hc <;> simp [hc] at h2
    · simpa using h2
  intro s0 a0 D hs0 hI0 hΓ0 ht0 hn0 hd0
  refine wp_region_any hm ?_
  -- the state behind the draw of the order
  have hbd : Below s0.w.heap.size s0.w { s0.w with drawn := s0.w.drawn + 1 } := (Below.refl _ _).drew
  have key : ∀ (fuel : Nat) (listed : Array Bool) (s : S) (a : Act), listed.size = ops.size → listed.toList.countP (fun b => !b) ≤ fuel →
      (∀ (j : Nat) o, ops[j]? = some o → listed.getD j false = true → ∀ e ∈ o.after.toList, Region.binds .any e = true → listed.getD e.on false = true) →
      InSt listed s → HInv s → Ext s0 s → (∀ t, Rep s (envD ops rs (fun i => listed.getD i false) ts ops.size t) (a.tmps.getD t undef)) → a.tmps.size = n → a.defers = D →
      wpAny E.P .any ops (fun e a' w' => ∃ ts' g' l' s', s'.w = w' ∧ s'.σ = g' ++ l' ∧ g'.length = g.length ∧ HInv s' ∧ Ext s0 s' ∧ TsRep s' ts' a' ∧ a'.tmps.size = n ∧ a'.defers = D ∧ Q e ts' g' l') fuel listed a s.w := by
    intro fuel
    induction fuel with
    | zero =>
      intro listed s a hls hcnt hdown hs hI hE ht hn hd
      have hall : ∀ i, i < ops.size → listed.getD i false = true := by
        intro i hi
        have hi' : i < listed.size := by omega
        have := count_zero (l := listed.toList) (by omega) (i := i) (b := listed[i]) (by simp [hi'])
        simp [hi', this]
      have hs' : s.σ = (stAt g l trs ops.size).1 ++ (stAt g l trs ops.size).2 ∧ (stAt g l trs ops.size).1.length = g.length := by
        obtain ⟨k, hk, h1, h2, h3, h4⟩ := hs
        have : stAt g l trs ops.size = stAt g l trs k := hsame hk (Nat.le_refl _) fun j h5 h6 => by
          cases hb : bars.contains j with
          | false => rfl
          | true =>
            have := h4 j (by simpa using hb) h5
            rw [hall j h6] at this; cases this
        rw [this]; exact ⟨h1, h2⟩
      refine ⟨?_, tsE, _, _, s, rfl, hs'.1, hs'.2, hI, hE, ?_, hn, hd, hQ⟩
      · cases hr : Region.ready .any ops listed with
        | nil => rfl
        | cons j r =>
          have hj : j ∈ Region.ready .any ops listed := by rw [hr]; simp
          obtain ⟨h1, o, h2, _⟩ := mem_ready.1 hj
          have hlt := (Array.getElem?_eq_some_iff.1 h2).1
          have := hall j hlt
          have hj2 : j < listed.size := by omega
          simp [hj2] at h1 this
          rw [h1] at this; cases this
      · intro t
        rw [heq t, hend t]
        have := ht t
        rwa [envD_same (D' := fun _ => true) fun i hi _ => hall i hi] at this
    | succ fuel ih =>
      intro listed s a hls hcnt hdown hs hI hE ht hn hd
      refine ⟨fun hr => ?_, fun j hj => ?_⟩
      · -- nothing is ready: all are through
        have hall : ∀ i, i < ops.size → listed.getD i false = true := by
          intro i
          induction i using Nat.strongRecOn with
          | _ i ihi =>
            intro hi
            have hi' : i < listed.size := by omega
            cases hb : listed[i] with
            | true => simp [hi', hb]
            | false =>
              have hget : ops[i]? = some ops[i] := Array.getElem?_eq_getElem hi
              have : i ∈ Region.ready .any ops listed := mem_ready.2 ⟨by simp [hi', hb], _, hget, fun e he hbind => by
                have := hpred i _ hget e (by simpa using he) hbind
                exact ihi e.on this (by omega)⟩
              rw [hr] at this; cases this
        have hs' : s.σ = (stAt g l trs ops.size).1 ++ (stAt g l trs ops.size).2 ∧ (stAt g l trs ops.size).1.length = g.length := by
          obtain ⟨k, hk, h1, h2, h3, h4⟩ := hs
          have : stAt g l trs ops.size = stAt g l trs k := hsame hk (Nat.le_refl _) fun j h5 h6 => by
            cases hb : bars.contains j with
            | false => rfl
            | true =>
              have := h4 j (by simpa using hb) h5
              rw [hall j h6] at this; cases this
          rw [this]; exact ⟨h1, h2⟩
        refine ⟨tsE, _, _, s, rfl, hs'.1, hs'.2, hI, hE, ?_, hn, hd, hQ⟩
        intro t
        rw [heq t, hend t]
        have := ht t
        rwa [envD_same (D' := fun _ => true) fun i hi _ => hall i hi] at this
      · obtain ⟨hun, o, ho, hpr⟩ := mem_ready.1 hj
        have hjlt := (Array.getElem?_eq_some_iff.1 ho).1
        have hjl : j < listed.size := by omega
        have hjf : listed[j] = false := by simpa [hjl] using hun
        have hpr' : ∀ e ∈ o.after.toList, Region.binds .any e = true → listed.getD e.on false = true := fun e he => hpr e (by simpa using he)
        have hthr := anc_through (D := fun i => listed.getD i false) hdown j o ho hpr'
        -- later operations that clash with this one are not through
        have hlate : ∀ i oi, j < i → ops[i]? = some oi → (clash ops o oi = true ∨ clash ops oi o = true) → listed.getD i false = false := by
          intro i oi hij hi hc
          cases hb : listed.getD i false with
          | false => rfl
          | true =>
            have h1 := hclash j i o oi hij ho hi hc
            have h2 := anc_through (D := fun i => listed.getD i false) hdown i oi hi (hdown i oi hi hb) j h1
            simp [hjl, hjf] at h2
        obtain ⟨tj, htj, hf, hgj, hgj1, hnob⟩ := hfact j o (Nat.zero_le _) ho
        -- the store here is as in the order of the text; what it is behind this operation
        have hsj : freeB ops bars j = false → s.σ = (stAt g l trs j).1 ++ (stAt g l trs j).2 := by
          intro hnf
          obtain ⟨k, hk, h1, h2, h3, h4⟩ := hs
          have : stAt g l trs j = stAt g l trs k := by
            rcases Nat.lt_or_ge j k with hjk | hjk
            · refine (hsame (Nat.le_of_lt hjk) hk fun i h5 h6 => ?_).symm
              cases hb : bars.contains i with
              | false => rfl
              | true =>
                have hbm : i ∈ bars := by simpa using hb
                have hli := h3 i hbm h6
                have hni : i ≠ j := by intro hh; subst hh; simp [hjl, hjf] at hli
                have hlt : i < ops.size := by omega
                have := anc_through (D := fun i => listed.getD i false) hdown i ops[i] (Array.getElem?_eq_getElem hlt) (hdown i _ (Array.getElem?_eq_getElem hlt) hli) j ((hbar1 i hbm j (by omega)).resolve_right (by rw [hnf]; simp))
                simp [hjl, hjf] at this
            · refine hsame hjk (Nat.le_of_lt hjlt) fun i h5 h6 => ?_
              cases hb : bars.contains i with
              | false => rfl
              | true =>
                have hbm : i ∈ bars := by simpa using hb
                have hli := h4 i hbm h5
                have := hthr i ((hbar2 i hbm j h6 hjlt).resolve_right (by rw [hnf]; simp))
                rw [hli] at this; cases this
          rw [this]; exact h1
        have hInNext : freeB ops bars j = false → ∀ s' : S, s'.σ = (stAt g l trs (j + 1)).1 ++ (stAt g l trs (j + 1)).2 → InSt (listed.setIfInBounds j true) s' := by
          intro hnf s' hs'
          have hset : ∀ i, (listed.setIfInBounds j true).getD i false = if i = j then true else listed.getD i false := by
            intro i
            by_cases hij : i = j
            · subst hij; simp [hjl]
            · rw [if_neg hij, getD_set_ne false (fun h => hij h.symm)]
          obtain ⟨k, hk, h1, h2, h3, h4⟩ := hs
          cases hb : bars.contains j with
          | true =>
            have hbm : j ∈ bars := by simpa using hb
            have hkj : k ≤ j := by
              rcases Nat.lt_or_ge j k with h5 | h5
              · have := h3 j hbm h5; simp [hjl, hjf] at this
              · exact h5
            refine ⟨j + 1, hjlt, hs', hgj1, fun i hi hij => ?_, fun i hi hij => ?_⟩
            · rw [hset]
              split
              · rfl
              · exact hthr i ((hbar1 j hbm i (by omega)).resolve_right (by rw [hbarf i hi]; simp))
            · rw [hset, if_neg (by omega)]
              exact h4 i hi (by omega)
          | false =>
            refine ⟨k, hk, ?_, h2, fun i hi hij => ?_, fun i hi hij => ?_⟩
            · rw [hs', hnob hb, ← hsj hnf, h1]
            · rw [hset]; split
              · rfl
              · exact h3 i hi hij
            · rw [hset, if_neg (by intro hh; subst hh; have : bars.contains i = true := by simpa using hi
                                   rw [this] at hb; cases hb)]
              exact h4 i hi hij
        -- the store before and behind, as this operation sees it
        obtain ⟨P0, P1, hsP, hfP, hInP⟩ : ∃ P0 P1 : List Ent × List Ent, s.σ = P0.1 ++ P0.2 ∧ OpFact E T ops o tj P0.1 P0.2 (rs.getD j .un) P1.1 P1.2 ∧
            ∀ s' : S, s'.σ = P1.1 ++ P1.2 → InSt (listed.setIfInBounds j true) s' := by
          cases hfr : freeB ops bars j with
          | false => exact ⟨_, _, hsj hfr, hf, hInNext hfr⟩
          | true =>
            unfold freeB at hfr
            simp only [ho, Option.any_some, Bool.and_eq_true, Bool.not_eq_true'] at hfr
            obtain ⟨k, hk, h1, h2, h3, h4⟩ := hs
            refine ⟨_, _, h1, blind_fact hfr.2 hf _ _, fun s' hs' => ⟨k, hk, hs', h2, fun i hi hij => ?_, fun i hi hij => ?_⟩⟩
            · by_cases hij2 : i = j
              · subst hij2; simp [hjl]
              · rw [getD_set_ne false (fun h => hij2 h.symm)]; exact h3 i hi hij
            · have hij2 : i ≠ j := by
                intro hh; subst hh
                have : bars.contains i = true := by simpa using hi
                rw [this] at hfr; simp at hfr
              rw [getD_set_ne false (fun h => hij2 h.symm)]; exact h4 i hi hij
        clear hInNext hf
        have hf := hfP
        -- what it looks at is as in the order of the text
        have hlook : ∀ t ∈ looks ops o, Rep s (tget tj t) (a.tmps.getD t undef) := by
          intro t htl
          rw [htj t]
          have := ht t
          have e1 : envD ops rs (fun i => listed.getD i false) ts ops.size t = envD ops rs (fun i => listed.getD i false) ts j t := by
            refine envD_skip (by omega) fun i h1 h2 h3 h4 => ?_
            have hi : ops[i]? = some ops[i] := Array.getElem?_eq_getElem h2
            rw [hi] at h4
            simp only [Option.bind_some] at h4
            rcases Nat.lt_or_ge j i with h5 | h5
            · have := hlate i _ h5 hi (.inr (by unfold clash; rw [h4]; simp [htl]))
              rw [this] at h3; cases h3
            · have : i = j := by omega
              subst this; simp [hjl, hjf] at h3
          have e2 : envD ops rs (fun i => listed.getD i false) ts j t = envD ops rs (fun _ => true) ts j t := by
            refine envD_same fun i hi h4 => ?_
            have hi2 : ops[i]? = some ops[i] := Array.getElem?_eq_getElem (by omega)
            rw [hi2] at h4
            simp only [Option.bind_some] at h4
            exact hthr i (hclash i j _ o hi hi2 ho (.inl (by unfold clash; rw [h4]; simp [htl])))
          rw [e1, e2] at this
          exact this
        have hdst := opsOK_dst hok (i := j) (o := o) (by simpa using ho)
        -- the step, and what holds behind it
        have hnext : ∀ (v : Value) (s' : S), s'.σ = P1.1 ++ P1.2 → HInv s' → Ext s s' → Rep s' (rs.getD j .un) v →
            wpAny E.P .any ops (fun e a' w' => ∃ ts' g' l' s', s'.w = w' ∧ s'.σ = g' ++ l' ∧ g'.length = g.length ∧ HInv s' ∧ Ext s0 s' ∧ TsRep s' ts' a' ∧ a'.tmps.size = n ∧ a'.defers = D ∧ Q e ts' g' l') fuel (listed.setIfInBounds j true) (a.put o.dst v) s'.w := by
          intro v s' hs' hI' hE' hr'
          have hset : ∀ i, (listed.setIfInBounds j true).getD i false = if i = j then true else listed.getD i false := by
            intro i
            by_cases hij : i = j
            · subst hij; simp [hjl]
            · rw [if_neg hij, getD_set_ne false (fun h => hij h.symm)]
          refine ih _ s' _ (by simp [hls]) ?_ ?_ (hInP s' hs') hI' (hE.trans hE') ?_ (by rw [put_size]; exact hn) (by rw [put_defers]; exact hd)
          · have := count_set (l := listed.toList) (i := j) (by simp [hjl, hjf])
            simp only [Array.toList_setIfInBounds]
            omega
          · intro i oi hi hli e he hb
            rw [hset] at hli ⊢
            by_cases hij : i = j
            · subst hij
              rw [ho] at hi; cases hi
              split
              · rfl
              · exact hpr' e he hb
            · rw [if_neg hij] at hli
              split
              · rfl
              · exact hdown i oi hi hli e he hb
          · intro t
            have hold := Rep.ext hE' (ht t)
            by_cases hdt : o.dst = some t
            · have hval : envD ops rs (fun i => (listed.setIfInBounds j true).getD i false) ts ops.size t = rs.getD j .un := by
                rw [envD_skip (k := j + 1) (by omega) fun i h1 h2 h3 h4 => ?_]
                · rw [envD, ho, if_pos ⟨by simp [hset], by simpa using hdt⟩]
                · have hi : ops[i]? = some ops[i] := Array.getElem?_eq_getElem h2
                  rw [hi] at h4
                  simp only [Option.bind_some] at h4
                  have hne : i ≠ j := by omega
                  simp only [hset, if_neg hne] at h3
                  have := hlate i _ (by omega) hi (.inl (by unfold clash; rw [hdt]; simp [h4]))
                  rw [this] at h3; cases h3
              rw [hval, hdt]
              show Rep s' _ ((a.tmps.setIfInBounds t v).getD t undef)
              rw [getD_set, if_pos ⟨rfl, by rw [hn]; exact hdst t hdt⟩]
              exact hr'
            · have hval : envD ops rs (fun i => (listed.setIfInBounds j true).getD i false) ts ops.size t = envD ops rs (fun i => listed.getD i false) ts ops.size t := by
                refine envD_same fun i hi h4 => ?_
                rw [hset]
                by_cases hij : i = j
                · subst hij; rw [ho] at h4; exact absurd h4 hdt
                · rw [if_neg hij]
              rw [hval]
              have hput : (a.put o.dst v).tmps.getD t undef = a.tmps.getD t undef := by
                cases hd2 : o.dst with
                | none => rfl
                | some d =>
                  show (a.tmps.setIfInBounds d v).getD t undef = _
                  rw [getD_set, if_neg (fun hh => hdt (by rw [hd2, hh.1]))]
              rw [hput]; exact hold
        have hΓ : E.Γ s.B s.w := hE.B ▸ E.stable _ _ _ hE.below hΓ0
        have hrun : aFix E T o tj P0.1 P0.2 (rs.getD j .un) P1.1 P1.2 → o.wp E.P a s.w (wpAny E.P .any ops (fun e a' w' => ∃ ts' g' l' s', s'.w = w' ∧ s'.σ = g' ++ l' ∧ g'.length = g.length ∧ HInv s' ∧ Ext s0 s' ∧ TsRep s' ts' a' ∧ a'.tmps.size = n ∧ a'.defers = D ∧ Q e ts' g' l') fuel (listed.setIfInBounds j true))
            (fun e a' w' => ∃ ts' g' l' s', s'.w = w' ∧ s'.σ = g' ++ l' ∧ g'.length = g.length ∧ HInv s' ∧ Ext s0 s' ∧ TsRep s' ts' a' ∧ a'.tmps.size = n ∧ a'.defers = D ∧ Q e ts' g' l') := by
          intro hfix
          have hR : TsRep s ((looks ops o).map fun t => (t, tget tj t)) a := by
            intro t
            rw [tget_map]
            split
            · rename_i hm; exact hlook t hm
            · unfold Rep; trivial
          have hcong : aFix E T o ((looks ops o).map fun t => (t, tget tj t)) P0.1 P0.2 (rs.getD j .un) P1.1 P1.2 := by
            rw [aFix_congr (ts' := tj) fun x hx => ?_]
            · exact hfix
            · refine ev_const x fun t htx => ?_
              rw [tget_map, if_pos]
              unfold looks
              refine List.mem_append_left _ (List.mem_filterMap.2 ⟨x, by simpa using hx, by rw [htx]⟩)
          refine aOne_sound hT hcong hsP hI hΓ hR fun v r g' l' s' h1 h2 h3 h4 h5 h6 => ?_
          obtain ⟨rfl, rfl, rfl⟩ := h6
          exact hnext v s' h1 h3 h4 h5
        unfold wpOp
        simp only [ho]
        unfold OpFact at hf
        cases hg : o.guard with
        | none =>
          simp only [hg] at hf
          have hw : Region.wanted o (yielded ops a.tmps) = true := by simp [Region.wanted, hg]
          rw [if_pos hw]
          exact .inl (hrun hf)
        | some jw =>
          obtain ⟨k, want⟩ := jw
          simp only [hg] at hf
          obtain ⟨d, hsl, hcase⟩ := hf
          unfold gslot at hsl
          have hmem : d ∈ looks ops o := by unfold looks; simp [hg, hsl]
          have hrep := hlook d hmem
          rcases hcase with ⟨hb, hfix⟩ | ⟨hb, hr, hg1, hl1⟩ | ⟨⟨q, hb⟩, hr, hg1, hl1⟩
          · rw [hb] at hrep
            simp only [boolV] at hrep
            unfold Rep at hrep
            have hy : yielded ops a.tmps k = some want := by unfold yielded; rw [hsl]; simp [getD_bool hT hrep]
            have hw : Region.wanted o (yielded ops a.tmps) = true := by simp [Region.wanted, hg, hy]
            rw [if_pos hw]
            exact .inl (hrun hfix)
          · rw [hb] at hrep
            simp only [boolV] at hrep
            unfold Rep at hrep
            have hy : yielded ops a.tmps k = some (!want) := by unfold yielded; rw [hsl]; simp [getD_bool hT hrep]
            have hw : ¬ Region.wanted o (yielded ops a.tmps) = true := by simp [Region.wanted, hg, hy]
            rw [if_neg hw]
            exact hnext undef s (by rw [hg1, hl1]; exact hsP) hI (Ext.refl s) (by rw [hr]; unfold Rep; rfl)
          · rw [hb] at hrep
            unfold Rep at hrep
            have hy : yielded ops a.tmps k = none := by
              unfold yielded; rw [hsl]
              simp only [Option.bind_some]
              rw [Array.getD_eq_getD_getElem?] at hrep
              cases hh : a.tmps[d]? with
              | none => rfl
              | some x => rw [hh] at hrep; simp at hrep; rw [hrep]
            have hw : ¬ Region.wanted o (yielded ops a.tmps) = true := by simp [Region.wanted, hg, hy]
            rw [if_neg hw]
            exact hnext undef s (by rw [hg1, hl1]; exact hsP) hI (Ext.refl s) (by rw [hr]; unfold Rep; rfl)
  have hE1 : Ext s0 { s0 with w := { s0.w with drawn := s0.w.drawn + 1 } } := Ext.of_below hI0 hbd
  have hfalse : ∀ i, (Array.replicate ops.size false).getD i false = false := by
    intro i
    rw [Array.getD_eq_getD_getElem?]
    by_cases hi : i < ops.size <;> simp [hi]
  refine key ops.size (Array.replicate ops.size false) { s0 with w := { s0.w with drawn := s0.w.drawn + 1 } } a0 (by simp) (by simp [Array.toList_replicate, List.countP_replicate]) (fun j o ho hj => by rw [hfalse] at hj; cases hj) ⟨0, Nat.zero_le _, hs0, rfl, fun j _ hj => by omega, fun j _ _ => hfalse j⟩ (hI0.of_below hbd) hE1 ?_ hn0 hd0
  intro t
  rw [envD_skip (k := 0) (Nat.zero_le _) fun i _ _ h3 => by rw [hfalse] at h3; cases h3]
  exact Rep.ext hE1 (ht0 t)
end
end Go.Vm
