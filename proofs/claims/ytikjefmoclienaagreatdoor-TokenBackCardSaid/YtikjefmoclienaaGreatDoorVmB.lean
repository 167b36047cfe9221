/- The operations that leave memory alone do what 'aDet' says. -/
import Derived.Test.YtikjefmoclienaaGreatDoorVmA
import Derived.Deep.AppendSrc
import Derived.Laws.Strings2
import Derived.Laws.Slices
import Derived.Laws.Small
import Derived.Laws.Cover1
import Derived.Laws.Unary
set_option linter.unusedVariables false
set_option linter.unusedSimpArgs false
namespace Go.Vm
open Go.RowKit

/-- A zero value, told. -/
def zcell : AV → Value → Bool
  | .v (.bool a), .bool b => a == b
  | .v (.int k n), .int k' m => decide (k = k') && decide (n = m)
  | .str l, .string s => decide (l = s.data.toList)
  | .v (.pointer none), .pointer none => true
  | .v (.slice none 0 0), .slice none 0 0 => true
  | .v (.map none), .map none => true
  | .v .nilFunc, .nilFunc => true
  | .v .nilIface, .nilIface => true
  | _, _ => false
def zcells : List AV → List Value → Bool
  | [], [] => true
  | a :: r, x :: q => zcell a x && zcells r q
  | _, _ => false
def zval : AV → Value → Bool
  | .agg cs, .agg vs => zcells cs vs.toList
  | a, x => zcell a x

theorem zcell_rep (s : S) {a : AV} {x : Value} (h : zcell a x = true) : Rep s a x := by
  unfold zcell at h
  split at h <;> first
    | (simp at h; done)
    | (unfold Rep; simp_all; done)
    | (unfold Rep; simp only [decide_eq_true_eq] at h; rw [h])
theorem zcells_rep (s : S) : ∀ {l : List AV} {m : List Value}, zcells l m = true → RepL s l m
  | [], [], _ => by unfold RepL; rfl
  | a :: r, x :: q, h => by
    simp only [zcells, Bool.and_eq_true] at h
    unfold RepL
    exact ⟨x, q, rfl, zcell_rep s h.1, zcells_rep s h.2⟩
  | [], _ :: _, h => by simp [zcells] at h
  | _ :: _, [], h => by simp [zcells] at h
theorem zval_rep (s : S) {a : AV} {x : Value} (h : zval a x = true) : Rep s a x := by
  unfold zval at h
  split at h
  · unfold Rep; exact ⟨_, rfl, zcells_rep s h⟩
  · exact zcell_rep s h

def aggD : TypeDesc → Bool
  | .struct _ => true
  | .array _ _ => true
  | _ => false

/-- What is told of a type is so. -/
structure TyOK (P : Program) (t : Nat) (i : TI) : Prop where
  und : P.underlying t = some i.desc
  info : ∃ inf z, P.info? t = some inf ∧ inf.size = i.size ∧ inf.bytes = i.bytes ∧ inf.zero = some z ∧ zval i.zero z = true
  agg : i.isAgg = aggD i.desc
  flds : ∀ fs, i.desc = .struct fs → ∃ l : List (Nat × Nat × Bool), i.flds = l ∧ l.length = fs.size ∧ ∀ (j : Nat) off sz ag, l[j]? = some (off, sz, ag) →
    ∃ f inf d, fs[j]? = some f ∧ f.offset = off ∧ P.info? f.type = some inf ∧ inf.size = sz ∧ P.underlying f.type = some d ∧ ag = aggD d ∧ 0 < sz ∧ (ag = false → sz = 1)
  noflds : (∀ fs, i.desc ≠ .struct fs) → i.flds = []
  elem : ∀ e, i.desc = .slice e → i.elem = e
  one : i.isAgg = false → i.size = 1
  zsize : i.zero.cells.length = i.size
  zcell : i.zero.cells.all (·.isCell) = true
def TabOK (P : Program) (T : Nat → TI) : Prop := ∀ t, (T t).ok = true → TyOK P t (T t)

theorem ofC1_rep (s : S) (x : Value) : Rep s (ofC1 x) x := by
  unfold ofC1
  split <;> (unfold Rep; rfl)
theorem map_ofC1_rep (s : S) : ∀ l : List Value, RepL s (l.map ofC1) l
  | [] => by simp only [List.map_nil]; unfold RepL; rfl
  | x :: r => by simp only [List.map_cons]; unfold RepL; exact ⟨x, r, rfl, ofC1_rep s x, map_ofC1_rep s r⟩
theorem ofC_rep (s : S) (x : Value) : Rep s (ofC x) x := by
  unfold ofC
  split
  · unfold Rep; exact ⟨_, rfl, map_ofC1_rep s _⟩
  · unfold Rep; rfl
  · unfold Rep; rfl
theorem ev_rep {s : S} {ts : Ts} {a : Act} (h : TsRep s ts a) (x : Operand) : Rep s (ev ts x) (a.eval x) := by
  cases x with
  | tmp t => exact h t
  | const v => exact ofC_rep s v
  | global g => simp only [ev]; unfold Rep; trivial
  | func f =>
    simp only [ev, Act.eval]
    unfold Rep
    exact ⟨#[], #[], rfl, by unfold RepL; rfl, by unfold RepL; rfl⟩
theorem evs_rep {s : S} {ts : Ts} {a : Act} (h : TsRep s ts a) : ∀ l : List Operand, RepL s (l.map (ev ts)) (l.map a.eval)
  | [] => by simp only [List.map_nil]; unfold RepL; rfl
  | x :: r => by simp only [List.map_cons]; unfold RepL; exact ⟨_, _, rfl, ev_rep h x, evs_rep h r⟩

theorem RepL.length {s : S} : ∀ {l : List AV} {m : List Value}, RepL s l m → m.length = l.length
  | [], m, h => by unfold RepL at h; subst h; rfl
  | _ :: _, m, h => by unfold RepL at h; obtain ⟨v, vs, rfl, _, h2⟩ := h; simp [RepL.length h2]
theorem RepL.get {s : S} : ∀ {l : List AV} {m : List Value}, RepL s l m → ∀ {i : Nat} {c : AV}, l[i]? = some c → ∃ y, m[i]? = some y ∧ Rep s c y
  | [], _, _, i, c, hi => by simp at hi
  | x :: l, m, h, i, c, hi => by
    unfold RepL at h
    obtain ⟨v, vs, rfl, h1, h2⟩ := h
    cases i with
    | zero => simp at hi; subst hi; exact ⟨v, rfl, h1⟩
    | succ i => simp at hi; simpa using RepL.get h2 hi
theorem RepL.mk {s : S} : ∀ {l : List AV} {m : List Value}, m.length = l.length → (∀ (i : Nat) c y, l[i]? = some c → m[i]? = some y → Rep s c y) → RepL s l m
  | [], m, h, _ => by unfold RepL; simpa using h
  | x :: l, [], h, _ => by simp at h
  | x :: l, y :: m, h, hh => by
    unfold RepL
    exact ⟨y, m, rfl, hh 0 x y rfl rfl, RepL.mk (by simpa using h) fun i c z h1 h2 => hh (i + 1) c z (by simpa using h1) (by simpa using h2)⟩
theorem RepL.append {s : S} : ∀ {l : List AV} {m : List Value} {l' : List AV} {m' : List Value}, RepL s l m → RepL s l' m' → RepL s (l ++ l') (m ++ m')
  | [], m, l', m', h, h' => by unfold RepL at h; subst h; exact h'
  | x :: l, m, l', m', h, h' => by
    unfold RepL at h
    obtain ⟨v, vs, rfl, h1, h2⟩ := h
    simp only [List.cons_append]
    unfold RepL
    exact ⟨v, vs ++ m', rfl, h1, RepL.append h2 h'⟩

/-- One operation's step. -/
def StepOK (E : Env) (o : Oper) (s : S) (a : Act) (g : List Ent) (r : AV) (g' l' : List Ent) : Prop :=
  ∃ nx v s', (execOp a.eval o).run E.P s.w = .ok nx s'.w ∧ (nx = .value v ∨ (nx = .skip ∧ v = undef)) ∧ s'.σ = g' ++ l' ∧ g'.length = g.length ∧
    s'.B = s.B ∧ HInv s' ∧ Ext s s' ∧ Rep s' r v

theorem StepOK.pure {E : Env} {o : Oper} {s : S} {a : Act} {g l : List Ent} {r : AV} {v : Value} (hs : s.σ = g ++ l) (hI : HInv s)
    (hrun : (execOp a.eval o).run E.P s.w = .ok (.value v) s.w) (hr : Rep s r v) : StepOK E o s a g r g l :=
  ⟨_, v, s, hrun, .inl rfl, hs, rfl, rfl, hI, Ext.refl s, hr⟩

theorem run_v {E : Env} {x : Sem Value} {w w' : World} {v : Value} (h : x.run E.P w = .ok v w') : (do pure (Next.value (← x)) : Sem Next).run E.P w = .ok (.value v) w' := by
  simp [h]

theorem bnd_some {s : S} {ts : Ts} {a : Act} (h : TsRep s ts a) {x : Operand} {d n : Int} (hb : bnd d (some (ev ts x)) = some n) : ∃ k, a.eval x = .int k n := by
  have := ev_rep h x
  unfold bnd at hb
  split at hb
  · rename_i hh; cases hh
  · rename_i k m hh
    cases hb
    injection hh with hh
    rw [hh] at this
    unfold Rep at this
    exact ⟨_, this⟩
  · cases hb

theorem bytesLess_irrefl : ∀ a : List UInt8, Op.bytesLess a a = false
  | [] => rfl
  | x :: r => by simp [Op.bytesLess, bytesLess_irrefl r]
theorem bytesLess_asymm_total : ∀ a b : List UInt8, Op.bytesLess b a = !(Op.bytesLess a b || a == b)
  | [], [] => rfl
  | [], _ :: _ => by simp [Op.bytesLess]
  | _ :: _, [] => by simp [Op.bytesLess]
  | x :: r, y :: q => by
    have ih := bytesLess_asymm_total r q
    simp only [Op.bytesLess, ih]
    rcases Nat.lt_trichotomy x.toNat y.toNat with h | h | h
    · have h1 : x < y := h
      have h2 : ¬ y < x := by simp only [UInt8.lt_iff_toNat_lt]; omega
      have h3 : (y == x) = false := by simp; intro e; subst e; omega
      simp [h1, h2, h3]
    · have h0 : x = y := UInt8.toNat_inj.1 h
      subst h0
      have h2 : ¬ x < x := by simp only [UInt8.lt_iff_toNat_lt]; omega
      simp [h2]
    · have h1 : y < x := h
      have h2 : ¬ x < y := by simp only [UInt8.lt_iff_toNat_lt]; omega
      have h3 : (x == y) = false := by simp; intro e; subst e; omega
      simp [h1, h2, h3]

theorem str_eq (a b : List UInt8) : ((ByteArray.mk ⟨a⟩).toList == (ByteArray.mk ⟨b⟩).toList) = decide (a = b) := by
  have h : ∀ l : List UInt8, (ByteArray.mk ⟨l⟩).toList = l := fun l => by simp
  rw [h, h]
  by_cases hab : a = b <;> simp [hab]

theorem bin_sound {E : Env} {w : World} {isBool : Bool} {op : BinOp} {t : TypeId} {x y : AV} {u v : Value} (px py : Operand) {s : S} {p : Prop} {r : AV} (hB : isBool = true → E.P.underlying t = some .bool) (h : abin isBool op x y = some (p, r)) (hp : p)
    (hx : Rep s x u) (hy : Rep s y v) : ∃ z, (do eqGuard op t px py u v; binOp op t u v : Sem Value).run E.P w = .ok z w ∧ Rep s r z := by
  unfold abin at h
  split at h
  · rename_i k a k' b
    unfold Rep at hx hy
    subst hx hy
    cases op <;> simp only [Option.some.injEq, Prod.mk.injEq, reduceCtorEq] at h <;> obtain ⟨rfl, rfl⟩ := h
    case quo => obtain ⟨rfl, hb⟩ := hp; exact ⟨.int k (k.wrap (a.tdiv b)), by simp [eqGuard, binOp, Op.intDiv, hb], by simp only [intV]; unfold Rep; rfl⟩
    case rem => obtain ⟨rfl, hb⟩ := hp; exact ⟨.int k (a.tmod b), by simp [eqGuard, binOp, Op.intDiv, hb], by simp only [intV]; unfold Rep; rfl⟩
    all_goals subst hp
    case add => exact ⟨.int k (k.wrap (a + b)), by simp [eqGuard, binOp, Op.intArith], by simp only [intV]; unfold Rep; rfl⟩
    case sub => exact ⟨.int k (k.wrap (a - b)), by simp [eqGuard, binOp, Op.intArith], by simp only [intV]; unfold Rep; rfl⟩
    case mul => exact ⟨.int k (k.wrap (a * b)), by simp [eqGuard, binOp, Op.intArith], by simp only [intV]; unfold Rep; rfl⟩
    case eql => exact ⟨.bool (decide (a = b)), by simp [eqGuard, binOp, Op.intCmp, BEq.beq], by simp only [boolV]; unfold Rep; rfl⟩
    case neq => exact ⟨.bool (!decide (a = b)), by simp [eqGuard, binOp, Op.intCmp, bne, BEq.beq], by simp only [boolV]; unfold Rep; rfl⟩
    case lss => exact ⟨.bool (decide (a < b)), by simp [eqGuard, binOp, Op.intCmp], by simp only [boolV]; unfold Rep; rfl⟩
    case leq => exact ⟨.bool (decide (a ≤ b)), by simp [eqGuard, binOp, Op.intCmp], by simp only [boolV]; unfold Rep; rfl⟩
    case gtr => exact ⟨.bool (decide (b < a)), by simp [eqGuard, binOp, Op.intCmp], by simp only [boolV]; unfold Rep; rfl⟩
    case geq => exact ⟨.bool (decide (b ≤ a)), by simp [eqGuard, binOp, Op.intCmp], by simp only [boolV]; unfold Rep; rfl⟩
  · rename_i a b
    unfold Rep at hx hy
    subst hx hy
    cases op <;> simp only [Option.some.injEq, Prod.mk.injEq, reduceCtorEq] at h <;> obtain ⟨rfl, rfl⟩ := h
    case add =>
      have hp' : ¬ (9223372036854775807 < ((a.length : Int) + (b.length : Int))) := by omega
      refine ⟨.string ⟨⟨a ++ b⟩⟩, ?_, by unfold Rep; rfl⟩
      simp [eqGuard, binOp, Op.stringOp, ByteArray.size, hp']
      apply ByteArray.ext
      simp
    case eql => exact ⟨.bool (decide (a = b)), by simp only [eqGuard, binOp, Op.stringOp, str_eq]; simp, by simp only [boolV]; unfold Rep; rfl⟩
    case neq => exact ⟨.bool (!decide (a = b)), by simp only [eqGuard, binOp, Op.stringOp, str_eq]; simp, by simp only [boolV]; unfold Rep; rfl⟩
    case lss => exact ⟨.bool (Op.bytesLess a b), by simp [eqGuard, binOp, Op.stringOp], by simp only [boolV]; unfold Rep; rfl⟩
    case geq => exact ⟨.bool (!Op.bytesLess a b), by simp [eqGuard, binOp, Op.stringOp], by simp only [boolV]; unfold Rep; rfl⟩
    case leq => exact ⟨.bool (!Op.bytesLess b a), by simp [eqGuard, binOp, Op.stringOp, bytesLess_asymm_total a b], by simp only [boolV]; unfold Rep; rfl⟩
    case gtr => exact ⟨.bool (Op.bytesLess b a), by simp [eqGuard, binOp, Op.stringOp, bytesLess_asymm_total a b], by simp only [boolV]; unfold Rep; rfl⟩
  · rename_i a b
    unfold Rep at hx hy
    subst hx hy
    cases op <;> simp only [Option.some.injEq, Prod.mk.injEq, reduceCtorEq] at h <;> obtain ⟨rfl, rfl⟩ := h
    case eql => exact ⟨.bool (a == b), by simp [eqGuard, run_eql_bool _ t a b (hB hp)], by simp only [boolV]; unfold Rep; rfl⟩
    case neq => exact ⟨.bool (!(a == b)), by simp [eqGuard, run_neq_bool _ t a b (hB hp)], by simp only [boolV]; unfold Rep; rfl⟩
  · cases h

theorem un_sound {E : Env} {w : World} {op : UnOp} {x : AV} {u : Value} {s : S} {r : AV} (h : aun op x = some r) (hx : Rep s x u) : ∃ z, (Op.unary op u).run E.P w = .ok z w ∧ Rep s r z := by
  unfold aun at h
  split at h
  · cases h; unfold Rep at hx; subst hx; exact ⟨_, by simp [Op.unary]; rfl, by simp only [boolV]; unfold Rep; rfl⟩
  · rename_i k n
    cases h; unfold Rep at hx; subst hx; exact ⟨.int k (k.wrap (0 - n)), by simp [Op.unary, Op.intArith], by simp only [intV]; unfold Rep; rfl⟩
  · cases h

theorem extract_mk (l : List UInt8) (a b : Nat) : (ByteArray.mk ⟨l⟩).extract a b = ⟨⟨(l.drop a).take (b - a)⟩⟩ := by
  apply ByteArray.ext
  apply Array.ext'
  simp [List.extract_eq_take_drop]

theorem LoadsAt.cell {s : S} {k blk off : Nat} {y : Value} (h : LoadsAt s false k blk off y) : k = 1 ∧ s.w.cell? ⟨blk, off, none⟩ = some y ∧ Imm s blk off := by
  unfold LoadsAt at h; simpa using h
theorem LoadsAt.agg {s : S} {k blk off : Nat} {y : Value} (h : LoadsAt s true k blk off y) : ∃ vs : Array Value, y = .agg vs ∧ vs.size = k ∧ ∀ (i : Nat) x, vs[i]? = some x → s.w.cell? ⟨blk, off + i, none⟩ = some x ∧ Imm s blk (off + i) := by
  unfold LoadsAt at h; simpa using h

theorem RepAt.mk {s : S} {blk : Nat} : ∀ {off : Nat} {cs : List AV}, (∀ (j : Nat) c, cs[j]? = some c → ∃ y, s.w.cell? ⟨blk, off + j, none⟩ = some y ∧ Imm s blk (off + j) ∧ Rep s c y) → RepAt s blk off cs
  | _, [], _ => by unfold RepAt; trivial
  | off, c :: cs, h => by
    unfold RepAt
    exact ⟨h 0 c rfl, RepAt.mk fun j d hj => by have := h (j + 1) d (by simpa using hj); rwa [show off + (j + 1) = off + 1 + j by omega] at this⟩
theorem RepAt.get {s : S} {blk : Nat} : ∀ {off : Nat} {cs : List AV}, RepAt s blk off cs → ∀ {j : Nat} {c : AV}, cs[j]? = some c → ∃ y, s.w.cell? ⟨blk, off + j, none⟩ = some y ∧ Imm s blk (off + j) ∧ Rep s c y
  | _, [], _, j, c, hj => by simp at hj
  | off, d :: cs, h, j, c, hj => by
    unfold RepAt at h
    cases j with
    | zero => simp at hj; subst hj; exact h.1
    | succ j => simp at hj; have := RepAt.get h.2 hj; rwa [show off + 1 + j = off + (j + 1) by omega] at this
theorem RepAt.drop {s : S} {blk : Nat} {off n : Nat} {cs : List AV} (h : RepAt s blk off cs) : RepAt s blk (off + n) (cs.drop n) := by
  refine RepAt.mk fun j c hj => ?_
  rw [List.getElem?_drop] at hj
  have := h.get hj
  rwa [show off + (n + j) = off + n + j by omega] at this

theorem RepRow.get {s : S} {k blk : Nat} : ∀ {off : Nat} {es : List AV}, RepRow s k blk off es → ∀ {i : Nat} {e : AV}, es[i]? = some e → ∃ y, LoadsAt s e.isAgg k blk (off + i * k) y ∧ Rep s e y
  | _, [], _, i, e, hi => by simp at hi
  | off, d :: es, h, i, e, hi => by
    unfold RepRow at h
    cases i with
    | zero => simp at hi; subst hi; simpa using h.1
    | succ i =>
      simp at hi
      have := RepRow.get h.2 hi
      rwa [show off + k + i * k = off + (i + 1) * k by rw [Nat.succ_mul]; omega] at this
theorem RepRow.mk {s : S} {k blk : Nat} : ∀ {off : Nat} {es : List AV}, (∀ (i : Nat) e, es[i]? = some e → ∃ y, LoadsAt s e.isAgg k blk (off + i * k) y ∧ Rep s e y) → RepRow s k blk off es
  | _, [], _ => by unfold RepRow; trivial
  | off, d :: es, h => by
    unfold RepRow
    refine ⟨by simpa using h 0 d rfl, RepRow.mk fun i e hi => ?_⟩
    have := h (i + 1) e (by simpa using hi)
    rwa [show off + (i + 1) * k = off + k + i * k by rw [Nat.succ_mul]; omega] at this

/-- An element's cells, at its place. -/
theorem LoadsAt.repAt {s : S} {k blk off : Nat} {y : Value} {e : AV} (h : LoadsAt s e.isAgg k blk off y) (hr : Rep s e y) : e.cells.length = k ∧ RepAt s blk off e.cells := by
  cases e with
  | agg cs =>
    obtain ⟨vs, rfl, hk, hh⟩ := LoadsAt.agg h
    unfold Rep at hr
    obtain ⟨vs', h1, h2⟩ := hr
    cases h1
    refine ⟨by have := h2.length; simp only [AV.cells]; rw [← this]; simpa using hk, RepAt.mk fun j c hj => ?_⟩
    obtain ⟨x, h3, h4⟩ := h2.get hj
    have h5 := hh j x (by simpa using h3)
    exact ⟨x, h5.1, h5.2, h4⟩
  | _ =>
    all_goals
      obtain ⟨rfl, h1, h2⟩ := LoadsAt.cell h
      refine ⟨rfl, ?_⟩
      simp only [AV.cells]
      unfold RepAt
      exact ⟨⟨_, h1, h2, hr⟩, by unfold RepAt; trivial⟩
end Go.Vm

/- Each operation that leaves memory alone. -/
set_option linter.unusedVariables false
set_option linter.unusedSimpArgs false
set_option linter.unusedSectionVars false
namespace Go.Vm
open Go.RowKit

theorem Rep.ptr {s : S} {id ver off : Nat} {y : Value} (h : Rep s (.ref id ver off) y) : ∃ a, y = .pointer (some a) := by
  unfold Rep at h; obtain ⟨_, _, _, _, _, a, rfl, _⟩ := h; exact ⟨a, rfl⟩

section
variable {E : Env} {T : Nat → TI} (hT : TabOK E.P T) {s : S} {a : Act} {ts : Ts} {g l : List Ent} (hs : s.σ = g ++ l) (hI : HInv s) (ht : TsRep s ts a)
include hs hI ht

theorem st_move {o : Oper} {x : Operand} (ho : o.op = .move x) : StepOK E o s a g (ev ts x) g l :=
  .pure hs hI (v := a.eval x) (by simp [execOp, ho]) (ev_rep ht x)
theorem st_assign {o : Oper} {x : Operand} (ho : o.op = .assign x) : StepOK E o s a g (ev ts x) g l :=
  .pure hs hI (v := a.eval x) (by simp [execOp, ho]) (ev_rep ht x)

theorem rep_v {x : Operand} {z : Value} (h : ev ts x = .v z) : a.eval x = z := by
  have := ev_rep ht x
  rw [h] at this
  unfold Rep at this
  exact this

theorem st_pick {o : Oper} {c x y : Operand} (ho : o.op = .pick c x y) {b : Bool} (hc : ev ts c = .v (.bool b)) : StepOK E o s a g (ev ts (if b then x else y)) g l := by
  have h := rep_v hs hI ht hc
  cases b
  · exact .pure hs hI (v := a.eval y) (by simp [execOp, ho, h, asBool]) (ev_rep ht y)
  · exact .pure hs hI (v := a.eval x) (by simp [execOp, ho, h, asBool]) (ev_rep ht x)

theorem st_binOp {o : Oper} {op : BinOp} {t tu : TypeId} {x y : Operand} (ho : o.op = .binOp op t x y tu) {p : Prop} {r : AV}
    (hB : ((T t).ok && isBoolD (T t).desc) = true → E.P.underlying t = some .bool)
    (h : abin ((T t).ok && isBoolD (T t).desc) op (ev ts x) (ev ts y) = some (p, r)) (hp : p) : StepOK E o s a g r g l := by
  obtain ⟨z, h1, h2⟩ := bin_sound (E := E) (w := s.w) (t := t) x y hB h hp (ev_rep ht x) (ev_rep ht y)
  exact .pure hs hI (v := z) (by simp only [execOp, ho]; exact run_v (E := E) h1) h2

theorem st_unOp {o : Oper} {op : UnOp} {t : TypeId} {x : Operand} (ho : o.op = .unOp op t x) {r : AV} (h : aun op (ev ts x) = some r) : StepOK E o s a g r g l := by
  obtain ⟨z, h1, h2⟩ := un_sound (E := E) (w := s.w) h (ev_rep ht x)
  exact .pure hs hI (v := z) (by simp only [execOp, ho]; exact run_v (E := E) h1) h2

theorem st_extract {o : Oper} {x : Operand} {i : Nat} (ho : o.op = .extract x i) {cs : List AV} {c : AV} (hx : ev ts x = .tup cs) (hc : cs[i]? = some c) : StepOK E o s a g c g l := by
  have h := ev_rep ht x
  rw [hx] at h
  unfold Rep at h
  obtain ⟨vs, hv, h1⟩ := h
  obtain ⟨y, h2, h3⟩ := h1.get hc
  exact .pure hs hI (v := y) (by have h2' : vs[i]? = some y := by simpa using h2
                                 simp [execOp, ho, Instr.extract, hv, h2']) h3

theorem st_makeFunc {o : Oper} {f : FuncId} {fs cs : Array Operand} (ho : o.op = .makeFunc (.func f) fs cs) :
    StepOK E o s a g (.fn f (fs.toList.map (ev ts)) (cs.toList.map (ev ts))) g l := by
  refine .pure hs hI (v := .func (.func f) (fs.map a.eval) (cs.map a.eval)) (by simp [execOp, ho, Instr.makeFunc]) ?_
  unfold Rep
  exact ⟨_, _, rfl, by simpa using evs_rep ht fs.toList, by simpa using evs_rep ht cs.toList⟩

theorem st_nilCheck {o : Oper} {x : Operand} (ho : o.op = .nilCheck x) (h : (∃ i j k, ev ts x = .ref i j k) ∨ (∃ cs, ev ts x = .iptr cs) ∨ (∃ f p q, ev ts x = .fn f p q)) : StepOK E o s a g (ev ts x) g l := by
  have hr := ev_rep ht x
  refine .pure hs hI (v := a.eval x) ?_ hr
  rcases h with ⟨i, j, k, h⟩ | ⟨cs, h⟩ | ⟨f, p, q, h⟩ <;> rw [h] at hr
  · obtain ⟨ad, hh⟩ := hr.ptr; simp [execOp, ho, hh]
  · unfold Rep at hr; obtain ⟨b, o', hh, _⟩ := hr; simp [execOp, ho, hh]
  · unfold Rep at hr; obtain ⟨vs, us, hh, _⟩ := hr; simp [execOp, ho, hh]

include hT
theorem st_convert_int {o : Oper} {src dst : TypeId} {x : Operand} (ho : o.op = .convert src dst x) (h1 : (T src).ok = true) (h2 : (T dst).ok = true) {k j : IntKind} {n : Int}
    (hd : (T dst).desc = .int k) (hx : ev ts x = .v (.int j n)) : StepOK E o s a g (intV k (k.wrap n)) g l := by
  have hu := (hT src h1).und
  have hv := (hT dst h2).und
  rw [hd] at hv
  have h := rep_v hs hI ht hx
  exact .pure hs hI (v := .int k (k.wrap n)) (by simp [execOp, ho, convert, h, run_underlying hu, run_underlying hv, Conv.intToInt]) (by simp only [intV]; unfold Rep; rfl)

theorem st_convert_str {o : Oper} {src dst : TypeId} {x : Operand} (ho : o.op = .convert src dst x) (h1 : (T src).ok = true) (h2 : (T dst).ok = true)
    (hsd : (T src).desc = .string) (hd : (T dst).desc = .string) {m : List UInt8} (hx : ev ts x = .str m) : StepOK E o s a g (.str m) g l := by
  have hu := (hT src h1).und
  have hv := (hT dst h2).und
  rw [hsd] at hu
  rw [hd] at hv
  have h := ev_rep ht x
  rw [hx] at h
  refine .pure hs hI (v := a.eval x) ?_ h
  unfold Rep at h
  simp [execOp, ho, convert, h, run_underlying hu, run_underlying hv]

theorem fieldPlace_run {t : TypeId} {i : TI} (hi : TyOK E.P t i) {f : Nat} {off sz : Nat} {ag : Bool} (hf : i.flds[f]? = some (off, sz, ag)) :
    ∃ fs fl, i.desc = .struct fs ∧ fs[f]? = some fl ∧ fl.offset = off ∧ (∃ inf d, E.P.info? fl.type = some inf ∧ inf.size = sz ∧ E.P.underlying fl.type = some d ∧ ag = aggD d ∧ 0 < sz ∧ (ag = false → sz = 1)) := by
  cases hd : i.desc with
  | struct fs =>
    obtain ⟨l, hl, _, h⟩ := hi.flds fs hd
    obtain ⟨fl, inf, d, h1, h2, h3, h4, h5, h6⟩ := h f off sz ag (by rw [← hl]; exact hf)
    exact ⟨fs, fl, rfl, h1, h2, inf, d, h3, h4, h5, h6⟩
  | _ => all_goals (have := hi.noflds (by rw [hd]; simp); rw [this] at hf; simp at hf)
end
end Go.Vm

/- Addresses, parts, cuts, loads. -/
set_option linter.unusedVariables false
set_option linter.unusedSimpArgs false
set_option linter.unusedSectionVars false
namespace Go.Vm
open Go.RowKit

theorem run_isAgg {P : Program} {t : TypeId} {d : TypeDesc} (h : P.underlying t = some d) (w : World) : (isAgg t).run P w = .ok (aggD d) w := by
  unfold isAgg
  simp only [Sem.run_bind, run_underlying h, Result.andThen_ok]
  cases d <;> rfl
theorem run_sizeOf' {P : Program} {t : TypeId} {i : TypeInfo} (h : P.info? t = some i) (w : World) : (sizeOf t).run P w = .ok i.size w := by
  simp [sizeOf, typeInfo, h]

theorem RepL.drop {s : S} : ∀ {n : Nat} {l : List AV} {m : List Value}, RepL s l m → RepL s (l.drop n) (m.drop n)
  | 0, _, _, h => h
  | n + 1, [], m, h => by unfold RepL at h; subst h; simp; unfold RepL; rfl
  | n + 1, x :: l, m, h => by unfold RepL at h; obtain ⟨v, vs, rfl, _, h2⟩ := h; simpa using RepL.drop (n := n) h2
theorem RepL.take {s : S} : ∀ {n : Nat} {l : List AV} {m : List Value}, RepL s l m → RepL s (l.take n) (m.take n)
  | 0, _, _, h => by simp; unfold RepL; rfl
  | n + 1, [], m, h => by unfold RepL at h; subst h; simp; unfold RepL; rfl
  | n + 1, x :: l, m, h => by
    unfold RepL at h
    obtain ⟨v, vs, rfl, h1, h2⟩ := h
    simp only [List.take_succ_cons]
    unfold RepL
    exact ⟨v, vs.take n, rfl, h1, RepL.take (n := n) h2⟩

section
variable {E : Env} {T : Nat → TI} (hT : TabOK E.P T) {s : S} {a : Act} {ts : Ts} {g l : List Ent} (hs : s.σ = g ++ l) (hI : HInv s) (ht : TsRep s ts a)
include hT hs hI ht

theorem st_fieldAddr_ref {o : Oper} {t : TypeId} {x : Operand} {f : Nat} (ho : o.op = .fieldAddr t x f) (h1 : (T t).ok = true) {off sz : Nat} {ag : Bool} (hf : (T t).flds[f]? = some (off, sz, ag))
    {id ver o' : Nat} (hx : ev ts x = .ref id ver o') : StepOK E o s a g (.ref id ver (o' + off)) g l := by
  obtain ⟨fs, fl, hd, hfl, rfl, inf, d, hi, rfl, hu, rfl, hpos, _⟩ := fieldPlace_run hT hs hI ht (hT t h1) hf
  have hun := (hT t h1).und
  rw [hd] at hun
  have h := ev_rep ht x
  rw [hx] at h
  unfold Rep at h
  obtain ⟨e, b, he, hb, hv, ad, hh, hadd⟩ := h
  refine .pure hs hI (v := .pointer (some (ad.add fl.offset))) ?_ ?_
  · have hne : inf.size ≠ 0 := by omega
    simp [execOp, ho, Instr.fieldAt, run_underlying hun, hfl, hh, Instr.sureAddr, fieldPlace, run_sizeOf' hi, hne]
  · unfold Rep
    refine ⟨e, b, he, hb, hv, _, rfl, fun hver => ?_⟩
    rw [hadd hver, Addr.add_lit, Nat.add_assoc]

theorem st_fieldAddr_iptr {o : Oper} {t : TypeId} {x : Operand} {f : Nat} (ho : o.op = .fieldAddr t x f) (h1 : (T t).ok = true) {off sz : Nat} {ag : Bool} (hf : (T t).flds[f]? = some (off, sz, ag))
    {cs : List AV} (hx : ev ts x = .iptr cs) : StepOK E o s a g (.iptr (cs.drop off)) g l := by
  obtain ⟨fs, fl, hd, hfl, rfl, inf, d, hi, rfl, hu, rfl, hpos, _⟩ := fieldPlace_run hT hs hI ht (hT t h1) hf
  have hun := (hT t h1).und
  rw [hd] at hun
  have h := ev_rep ht x
  rw [hx] at h
  unfold Rep at h
  obtain ⟨blk, off, hh, hc⟩ := h
  refine .pure hs hI (v := .pointer (some ⟨blk, off + fl.offset, none⟩)) ?_ ?_
  · have hne : inf.size ≠ 0 := by omega
    simp [execOp, ho, Instr.fieldAt, run_underlying hun, hfl, hh, Instr.sureAddr, fieldPlace, run_sizeOf' hi, hne, Addr.add_lit]
  · unfold Rep
    exact ⟨blk, _, rfl, hc.drop⟩

theorem st_field_agg {o : Oper} {t : TypeId} {x : Operand} {f : Nat} (ho : o.op = .field t x f) (h1 : (T t).ok = true) {off sz : Nat} (hf : (T t).flds[f]? = some (off, sz, true))
    {cs : List AV} (hx : ev ts x = .agg cs) (hl : off + sz ≤ cs.length) : StepOK E o s a g (.agg ((cs.drop off).take sz)) g l := by
  obtain ⟨fs, fl, hd, hfl, rfl, inf, d, hi, rfl, hu, hag, hpos, _⟩ := fieldPlace_run hT hs hI ht (hT t h1) hf
  have hun := (hT t h1).und
  rw [hd] at hun
  have h := ev_rep ht x
  rw [hx] at h
  unfold Rep at h
  obtain ⟨vs, hh, hc⟩ := h
  refine .pure hs hI (v := .agg (vs.extract fl.offset (fl.offset + inf.size))) ?_ ?_
  · simp [execOp, ho, Instr.field, run_underlying hun, hfl, hh, asAgg, part, run_isAgg hu, ← hag, run_sizeOf' hi]
  · unfold Rep
    refine ⟨_, rfl, ?_⟩
    rw [Array.toList_extract, List.extract_eq_take_drop, Nat.add_sub_cancel_left]
    exact hc.drop.take

theorem st_field_one {o : Oper} {t : TypeId} {x : Operand} {f : Nat} (ho : o.op = .field t x f) (h1 : (T t).ok = true) {off sz : Nat} (hf : (T t).flds[f]? = some (off, sz, false))
    {cs : List AV} (hx : ev ts x = .agg cs) {c : AV} (hc : cs[off]? = some c) : StepOK E o s a g c g l := by
  obtain ⟨fs, fl, hd, hfl, rfl, inf, d, hi, rfl, hu, hag, hpos, _⟩ := fieldPlace_run hT hs hI ht (hT t h1) hf
  have hun := (hT t h1).und
  rw [hd] at hun
  have h := ev_rep ht x
  rw [hx] at h
  unfold Rep at h
  obtain ⟨vs, hh, hcs⟩ := h
  obtain ⟨y, h2, h3⟩ := hcs.get hc
  have h2' : vs[fl.offset]? = some y := by simpa using h2
  exact .pure hs hI (v := y) (by simp [execOp, ho, Instr.field, run_underlying hun, hfl, hh, asAgg, part, run_isAgg hu, ← hag, h2']) h3

theorem st_index {o : Oper} {t : TypeId} {x i : Operand} (ho : o.op = .index t x i) (h1 : (T t).ok = true) (hd : (T t).desc = .string) {m : List UInt8} (hx : ev ts x = .str m) {k : IntKind} {n : Int}
    (hi : ev ts i = .v (.int k n)) (h0 : 0 ≤ n) (hn : n < m.length) : StepOK E o s a g (intV .u8 (m.getD n.toNat 0).toNat) g l := by
  have hun := (hT t h1).und
  rw [hd] at hun
  have h := ev_rep ht x
  rw [hx] at h
  unfold Rep at h
  have hk := rep_v hs hI ht hi
  have hlt : n.toNat < m.length := by omega
  refine .pure hs hI (v := .int .u8 (m.getD n.toNat 0).toNat) ?_ (by simp only [intV]; unfold Rep; rfl)
  have hget : (ByteArray.mk ⟨m⟩)[n.toNat]? = some (m.getD n.toNat 0) := by
    have : n.toNat < (ByteArray.mk ⟨m⟩).size := by simpa [ByteArray.size] using hlt
    rw [getElem?_pos (ByteArray.mk ⟨m⟩) n.toNat this]
    simp [List.getD, hlt]
    rfl
  simp [execOp, ho, Instr.index, h, hk, asIntOf, run_underlying hun, h0, hget]

theorem st_indexAddr_sl {o : Oper} {t : TypeId} {x i : Operand} (ho : o.op = .indexAddr t x i) (h1 : (T t).ok = true) {e : TypeId} (hd : (T t).desc = .slice e) (h2 : (T e).ok = true)
    {es : List AV} (hx : ev ts x = .sl es) {k : IntKind} {n : Int} (hi : ev ts i = .v (.int k n)) (h0 : 0 ≤ n) (hn : n < es.length) (hel : isEl (T e).size (T e).isAgg (es.getD n.toNat .un) = true) :
    StepOK E o s a g (.iptr (es.getD n.toNat .un).cells) g l := by
  have hun := (hT t h1).und
  rw [hd] at hun
  obtain ⟨inf, z, hinf, hsz, _⟩ := (hT e h2).info
  have h := ev_rep ht x
  rw [hx] at h
  unfold Rep at h
  obtain ⟨ao, cap, hv, _, hrow⟩ := h
  have hk := rep_v hs hI ht hi
  have hlt : n.toNat < es.length := by omega
  rcases hrow with rfl | ⟨blk, off, kk, rfl, hpos, hrow⟩
  · simp at hlt
  have hg : es[n.toNat]? = some (es.getD n.toNat .un) := by simp [List.getD, hlt]
  obtain ⟨y, h3, h4⟩ := hrow.get hg
  obtain ⟨h5, h6⟩ := h3.repAt h4
  have hkk : kk = (T e).size := by
    unfold isEl at hel
    simp only [Bool.and_eq_true, beq_iff_eq] at hel
    rw [← h5]; exact hel.1.2
  refine .pure hs hI (v := .pointer (some ⟨blk, off + n.toNat * kk, none⟩)) ?_ ?_
  · simp [execOp, ho, Instr.indexAt, hv, hk, asIntOf, run_underlying hun, h0, hn, run_sizeOf' hinf, hsz, Addr.add_lit, hkk]
  · unfold Rep; exact ⟨_, _, rfl, h6⟩

theorem st_indexAddr_rsl {o : Oper} {t : TypeId} {x i : Operand} (ho : o.op = .indexAddr t x i) (h1 : (T t).ok = true) {e : TypeId} (hd : (T t).desc = .slice e) (h2 : (T e).ok = true)
    {id ver off m sz : Nat} (hx : ev ts x = .rsl id ver off m sz) {k : IntKind} {n : Int} (hi : ev ts i = .v (.int k n)) (h0 : 0 ≤ n) (hn : n < m) (hsz' : sz = (T e).size) :
    StepOK E o s a g (.ref id ver (off + n.toNat * sz)) g l := by
  have hun := (hT t h1).und
  rw [hd] at hun
  obtain ⟨inf, z, hinf, hsz, _⟩ := (hT e h2).info
  have h := ev_rep ht x
  rw [hx] at h
  unfold Rep at h
  obtain ⟨en, b, he, hb, hv, ab, ao, cap, hh, hadd⟩ := h
  have hk := rep_v hs hI ht hi
  refine .pure hs hI (v := .pointer (some ⟨ab, ao + n.toNat * sz, none⟩)) ?_ ?_
  · simp [execOp, ho, Instr.indexAt, hh, hk, asIntOf, run_underlying hun, h0, hn, run_sizeOf' hinf, hsz, hsz', Addr.add_lit]
  · unfold Rep
    refine ⟨en, b, he, hb, hv, _, rfl, fun hver => ?_⟩
    have h3 := hadd hver
    obtain ⟨rfl, rfl⟩ := h3.1 (by omega)
    rw [Nat.add_assoc]
end
end Go.Vm

/- Cuts, lengths, loads. -/
set_option linter.unusedVariables false
set_option linter.unusedSimpArgs false
set_option linter.unusedSectionVars false
namespace Go.Vm
open Go.RowKit

section
variable {E : Env} {T : Nat → TI} (hT : TabOK E.P T) {s : S} {a : Act} {ts : Ts} {g l : List Ent} (hs : s.σ = g ++ l) (hI : HInv s) (ht : TsRep s ts a)
include hs hI ht

theorem run_bounds {isSlice : Bool} {len cap : Nat} {lo hi : Option Operand} {x y : Int} (hx : bnd 0 (lo.map (ev ts)) = some x) (hy : bnd len (hi.map (ev ts)) = some y)
    (h0 : 0 ≤ x) (hxy : x ≤ y) (hyc : y ≤ cap) (w : World) :
    (Instr.sliceBounds isSlice len cap (lo.map a.eval) (hi.map a.eval) none).run E.P w = .ok (x.toNat, y.toNat, cap) w := by
  have b1 : ∀ (o : Operand) (d z : Int) (m : Nat) (c : BoundsCode), bnd d (some (ev ts o)) = some z → 0 ≤ z → z ≤ m → (Instr.sliceBound (a.eval o) m c).run E.P w = .ok z.toNat w := by
    intro o d z m c hb h0 hm
    obtain ⟨k, hk⟩ := bnd_some ht hb
    have : bnd d (some (ev ts o)) = some z := hb
    unfold bnd at hb
    split at hb
    · rename_i hh; cases hh
    · rename_i k' n hh
      cases hb
      injection hh with hh
      have := rep_v hs hI ht hh
      simp [Instr.sliceBound, this, asIntOf, h0, hm]
    · cases hb
  cases lo with
  | none =>
    have hx' : x = 0 := by simp [bnd] at hx; exact hx.symm
    subst hx'
    cases hi with
    | none =>
      have hy' : y = len := by simp [bnd] at hy; exact hy.symm
      subst hy'
      simp [Instr.sliceBounds]
    | some o =>
      have := b1 o len y cap (if isSlice then .sliceAcap else .sliceAlen) hy (by omega) hyc
      simp [Instr.sliceBounds, this]
  | some q =>
    cases hi with
    | none =>
      have hy' : y = len := by simp [bnd] at hy; exact hy.symm
      subst hy'
      have := b1 q 0 x len .sliceB hx h0 (by omega)
      simp [Instr.sliceBounds, this]
    | some o =>
      have h2 := b1 o len y cap (if isSlice then .sliceAcap else .sliceAlen) hy (by omega) hyc
      have h3 := b1 q 0 x y.toNat .sliceB hx h0 (by omega)
      simp [Instr.sliceBounds, h2, h3]

include hT
theorem st_slice_str {o : Oper} {t : TypeId} {x : Operand} {lo hi : Option Operand} (ho : o.op = .slice t x lo hi none) (h1 : (T t).ok = true) (hd : (T t).desc = .string) {m : List UInt8} (hx : ev ts x = .str m)
    {p q : Int} (hp : bnd 0 (lo.map (ev ts)) = some p) (hq : bnd m.length (hi.map (ev ts)) = some q) (h0 : 0 ≤ p) (hpq : p ≤ q) (hql : q ≤ m.length) :
    StepOK E o s a g (.str ((m.drop p.toNat).take (q.toNat - p.toNat))) g l := by
  have hun := (hT t h1).und
  rw [hd] at hun
  have h := ev_rep ht x
  rw [hx] at h
  unfold Rep at h
  have hsz : (ByteArray.mk ⟨m⟩).size = m.length := by simp [ByteArray.size]
  have hb := run_bounds hs hI ht (E := E) (isSlice := false) (len := m.length) (cap := m.length) hp hq h0 hpq hql s.w
  refine .pure hs hI (v := .string ⟨⟨(m.drop p.toNat).take (q.toNat - p.toNat)⟩⟩) ?_ (by unfold Rep; rfl)
  simp [execOp, ho, Instr.sliceAt, Instr.slice, h, run_underlying hun, hsz, hb, extract_mk]

theorem st_slice_nil {o : Oper} {t : TypeId} {x : Operand} {lo hi : Option Operand} (ho : o.op = .slice t x lo hi none) (h1 : (T t).ok = true) {e : TypeId} (hd : (T t).desc = .slice e) (h2 : (T e).ok = true)
    (hx : ev ts x = .v (.slice none 0 0)) {p q : Int} (hp : bnd 0 (lo.map (ev ts)) = some p) (hq : bnd 0 (hi.map (ev ts)) = some q) (h0 : p = 0) (hq0 : q = 0) :
    StepOK E o s a g (.v (.slice none 0 0)) g l := by
  have hun := (hT t h1).und
  rw [hd] at hun
  obtain ⟨inf, z, hinf, hsz, _⟩ := (hT e h2).info
  have h := rep_v hs hI ht hx
  subst h0 hq0
  have hb := run_bounds hs hI ht (E := E) (isSlice := true) (len := 0) (cap := 0) hp hq (by omega) (by omega) (by omega) s.w
  refine .pure hs hI (v := .slice none 0 0) ?_ (by unfold Rep; rfl)
  simp [execOp, ho, Instr.sliceAt, Instr.slice, h, run_underlying hun, hb, run_sizeOf' hinf]

theorem st_slice_sl {o : Oper} {t : TypeId} {x : Operand} {lo hi : Option Operand} (ho : o.op = .slice t x lo hi none) (h1 : (T t).ok = true) {e : TypeId} (hd : (T t).desc = .slice e) (h2 : (T e).ok = true)
    {es : List AV} (hx : ev ts x = .sl es) {p q : Int} (hp : bnd 0 (lo.map (ev ts)) = some p) (hq : bnd es.length (hi.map (ev ts)) = some q) (h0 : 0 ≤ p) (hpq : p ≤ q) (hql : q ≤ es.length)
    (hel : ∀ e' ∈ es, isEl (T e).size (T e).isAgg e' = true) : StepOK E o s a g (.sl ((es.drop p.toNat).take (q.toNat - p.toNat))) g l := by
  have hun := (hT t h1).und
  rw [hd] at hun
  obtain ⟨inf, z, hinf, hsz, _⟩ := (hT e h2).info
  have h := ev_rep ht x
  rw [hx] at h
  unfold Rep at h
  obtain ⟨ao, cap, hv, hc, hrow⟩ := h
  have hb := run_bounds hs hI ht (E := E) (isSlice := true) (len := es.length) (cap := cap) hp hq h0 hpq (by omega) s.w
  have hlen : ((es.drop p.toNat).take (q.toNat - p.toNat)).length = q.toNat - p.toNat := by simp; omega
  refine .pure hs hI (v := .slice (if cap = p.toNat then ao else ao.map (·.add (p.toNat * (T e).size))) (q.toNat - p.toNat) (cap - p.toNat)) ?_ ?_
  · simp [execOp, ho, Instr.sliceAt, Instr.slice, hv, run_underlying hun, hb, run_sizeOf' hinf, hsz]
  · unfold Rep
    refine ⟨_, _, by rw [hlen], by rw [hlen]; omega, ?_⟩
    by_cases hz : q.toNat - p.toNat = 0
    · left; rw [hz]; simp
    · right
      rcases hrow with rfl | ⟨blk, off, k, rfl, hpos, hrow⟩
      · simp at hql; omega
      have hne : cap ≠ p.toNat := by omega
      have hk : k = (T e).size := by
        have hlt : 0 < es.length := by omega
        have hg : es[0]? = some es[0] := List.getElem?_eq_getElem hlt
        obtain ⟨y, h3, h4⟩ := hrow.get hg
        obtain ⟨h5, _⟩ := h3.repAt h4
        have := hel _ (List.getElem_mem hlt)
        unfold isEl at this
        simp only [Bool.and_eq_true, beq_iff_eq] at this
        rw [← h5]; exact this.1.2
      refine ⟨blk, off + p.toNat * k, k, by simp [hne, Addr.add_lit, hk], hpos, RepRow.mk fun i e' hi => ?_⟩
      have hi2 : es[p.toNat + i]? = some e' := by
        rw [List.getElem?_take] at hi
        split at hi
        · rwa [List.getElem?_drop] at hi
        · cases hi
      obtain ⟨y, h3, h4⟩ := hrow.get hi2
      exact ⟨y, by rwa [Nat.add_mul, ← Nat.add_assoc] at h3, h4⟩

theorem st_slice_rsl {o : Oper} {t : TypeId} {x : Operand} {lo hi : Option Operand} (ho : o.op = .slice t x lo hi none) (h1 : (T t).ok = true) {e : TypeId} (hd : (T t).desc = .slice e) (h2 : (T e).ok = true)
    {id ver off n sz : Nat} (hx : ev ts x = .rsl id ver off n sz) {p q : Int} (hp : bnd 0 (lo.map (ev ts)) = some p) (hq : bnd n (hi.map (ev ts)) = some q) (h0 : 0 ≤ p) (hpq : p ≤ q) (hql : q ≤ n)
    (hsz' : sz = (T e).size) {en : Ent} (hent : s.σ[id]? = some en) (hver : ver = en.ver) : StepOK E o s a g (.rsl id ver (off + p.toNat * sz) (q.toNat - p.toNat) sz) g l := by
  have hun := (hT t h1).und
  rw [hd] at hun
  obtain ⟨inf, z, hinf, hsz, _⟩ := (hT e h2).info
  have h := ev_rep ht x
  rw [hx] at h
  unfold Rep at h
  obtain ⟨en', b, he, hb', hv, ab, ao, cap, hh, hadd⟩ := h
  rw [hent] at he; cases he
  obtain ⟨hada, hnc, hext⟩ := hadd hver
  have hb := run_bounds hs hI ht (E := E) (isSlice := true) (len := n) (cap := cap) hp hq h0 hpq (by omega) s.w
  refine .pure hs hI (v := .slice (some ⟨ab, if cap = p.toNat then ao else ao + p.toNat * sz, none⟩) (q.toNat - p.toNat) (cap - p.toNat)) ?_ ?_
  · simp [execOp, ho, Instr.sliceAt, Instr.slice, hh, run_underlying hun, hb, run_sizeOf' hinf, hsz, hsz']
    split <;> simp [Addr.add_lit]
  · unfold Rep
    have hcs : off + p.toNat * sz + (cap - p.toNat) * sz = b.ext := by
      rw [← hext, Nat.sub_mul]
      have : p.toNat * sz ≤ cap * sz := Nat.mul_le_mul_right _ (by omega)
      omega
    by_cases hne : cap = p.toNat
    · refine ⟨en, b, hent, hb', by omega, ab, _, _, by rw [if_pos hne], fun _ => ⟨fun hpos => by omega, by omega, hcs⟩⟩
    · refine ⟨en, b, hent, hb', by omega, ab, _, _, by rw [if_neg hne], fun _ => ⟨fun hpos => ?_, by omega, hcs⟩⟩
      obtain ⟨rfl, rfl⟩ := hada (by omega)
      exact ⟨rfl, by rw [Nat.add_assoc]⟩

theorem st_len {o : Oper} {x : Operand} {c : Call} {t : TypeId} (ho : o.op = .call c) (hc : c.callee = .builtin .len) (hargs : c.args[0]? = some x) (htys : c.argTypes[0]? = some t) (h1 : (T t).ok = true)
    {n : Int} (hn : alen (T t).desc (ev ts x) = some n) : StepOK E o s a g (intV .i64 n) g l := by
  have hun := (hT t h1).und
  have h := ev_rep ht x
  have ha : (c.args.map a.eval)[0]? = some (a.eval x) := by simp [hargs]
  have key : (Builtin.len_ c.argTypes o.type (c.args.map a.eval)).run E.P s.w = .ok (.int .i64 n) s.w := by
    unfold alen at hn
    split at hn
    · rename_i m hd hm
      cases hn
      rw [hm] at h; rw [hd] at hun
      unfold Rep at h
      have hsz : (ByteArray.mk ⟨m⟩).size = m.length := by simp [ByteArray.size]
      simp [Builtin.len_, htys, ha, h, run_underlying hun, goInt, hsz]
    · rename_i e es hd hm
      cases hn
      rw [hm] at h; rw [hd] at hun
      unfold Rep at h
      obtain ⟨_, _, hh, _⟩ := h
      simp [Builtin.len_, htys, ha, hh, run_underlying hun, goInt]
    · rename_i e _ _ _ _ _ hd hm
      cases hn
      rw [hm] at h; rw [hd] at hun
      unfold Rep at h
      obtain ⟨_, _, _, _, _, _, _, _, hh, _⟩ := h
      simp [Builtin.len_, htys, ha, hh, run_underlying hun, goInt]
    · rename_i e hd hm
      cases hn
      have h := rep_v hs hI ht hm
      rw [hd] at hun
      simp [Builtin.len_, htys, ha, h, run_underlying hun, goInt]
    · cases hn
  exact .pure hs hI (v := .int .i64 n) (by simp [execOp, ho, resolve, hc, invoke, builtin, key]) (by simp only [intV]; unfold Rep; rfl)

omit hT
theorem st_max {o : Oper} {c : Call} (ho : o.op = .call c) (hc : c.callee = .builtin .max) {k j : IntKind} {m n : Int} (hargs : c.args.toList.map (ev ts) = [.v (.int k m), .v (.int j n)]) :
    StepOK E o s a g (intV k (max m n)) g l := by
  have h := evs_rep ht c.args.toList
  rw [hargs] at h
  unfold RepL RepL RepL Rep at h
  obtain ⟨v, vs, h1, rfl, v2, vs2, rfl, rfl, rfl⟩ := h
  refine .pure hs hI (v := .int k (max m n)) ?_ (by simp only [intV]; unfold Rep; rfl)
  have : (Builtin.max_ c.argTypes o.type (c.args.map a.eval)).run E.P s.w = .ok (.int k (max m n)) s.w := by
    simp only [Builtin.max_, Array.toList_map, h1]
    simp [Builtin.max2]
    rw [Int.max_def]; split <;> split <;> first | rfl | omega
  simp [execOp, ho, resolve, hc, invoke, builtin, this]
theorem st_min {o : Oper} {c : Call} (ho : o.op = .call c) (hc : c.callee = .builtin .min) {k j : IntKind} {m n : Int} (hargs : c.args.toList.map (ev ts) = [.v (.int k m), .v (.int j n)]) :
    StepOK E o s a g (intV k (min m n)) g l := by
  have h := evs_rep ht c.args.toList
  rw [hargs] at h
  unfold RepL RepL RepL Rep at h
  obtain ⟨v, vs, h1, rfl, v2, vs2, rfl, rfl, rfl⟩ := h
  refine .pure hs hI (v := .int k (min m n)) ?_ (by simp only [intV]; unfold Rep; rfl)
  have : (Builtin.min_ c.argTypes o.type (c.args.map a.eval)).run E.P s.w = .ok (.int k (min m n)) s.w := by
    simp only [Builtin.min_, Array.toList_map, h1]
    simp [Builtin.min2]
    rw [Int.min_def]; split <;> split <;> first | rfl | omega
  simp [execOp, ho, resolve, hc, invoke, builtin, this]
end
end Go.Vm
