/- The library's contracts, as contracts over values. -/
import Derived.Test.YtikjefmoclienaaGreatDoorVmG
import Derived.Lib.Builder
import Derived.Laws.Externs
import Derived.Test.YtikjefmoclienaaGreatDoorVmD
import Derived.KernelRfl
import Derived.ChangeSame
import Derived.Deep.DeepHandedRow
import Derived.Lib.LaidTab
import Derived.Lay
import Derived.WideKeyArgs
import Derived.Stop.Joined
import Derived.MakeChecks
set_option linter.unusedVariables false
set_option linter.unusedSimpArgs false
set_option linter.unusedSectionVars false
namespace Go.Vm
open Go.RowKit

theorem storeLow_refl (n : Nat) (g : List Ent) : StoreLow n g g = True := eq_true (StoreLow.refl n g)
theorem sub_nil (ts : Ts) : Sub ts [] = True := eq_true fun _ h => by cases h
theorem sub_cons (ts : Ts) (i : Nat) (x : AV) (r : Ts) : Sub ts ((i, x) :: r) = (tget ts i = x ∧ Sub ts r) := by
  apply propext
  constructor
  · intro h; exact ⟨h (i, x) (by simp), fun p hp => h p (by simp [hp])⟩
  · rintro ⟨h1, h2⟩ p hp
    rcases List.mem_cons.1 hp with rfl | hp
    · exact h1
    · exact h2 p hp
theorem take_drop_all {α : Type} (l : List α) (i : Nat) : List.take (l.length - i) (List.drop i l) = List.drop i l := List.take_of_length_le (by simp)
theorem nat_add_one (n : Nat) : (n : Int) + 1 = ((n + 1 : Nat) : Int) := by simp
theorem nat_add_two (n : Nat) : (n : Int) + 2 = ((n + 2 : Nat) : Int) := by simp
theorem wrapI64 {x : Int} (h0 : -9223372036854775808 ≤ x) (h1 : x ≤ 9223372036854775807) : IntKind.i64.wrap x = x := by
  have hb : IntKind.i64.bits = 64 := rfl
  have hs : IntKind.i64.signed = true := rfl
  simp only [IntKind.wrap, hb, hs, Bool.true_and, ge_iff_le, decide_eq_true_eq]
  split <;> omega

theorem acalls_lib' {E : Env} {f : FuncId} {args : List AV} {σ : List Ent} {R : AV → Prop} (hb : HasBody E f)
    (h : ∀ (s : S) (vs : List Value), HInv s → E.Γ s.B s.w → RepL s args vs →
      Calls E.P f vs.toArray s.w fun e w' => ∃ v r, e = .returned v ∧ Below s.w.heap.size s.w w' ∧ Rep { s with w := w' } r v ∧ R r) : ACalls E f args σ fun r' τ => R r' ∧ τ = σ :=
  .inl ⟨hb, fun s vs hs hI hΓ hr => (h s vs hI hΓ hr).mono fun _ w' ⟨v, r, h1, h2, h3, h4⟩ =>
    ⟨v, r, { s with w := w' }, h1, rfl, hI.of_below h2, Ext.of_below hI h2, h3, h4, hs⟩⟩

theorem acalls_lib {E : Env} {f : FuncId} {args : List AV} {σ : List Ent} {r : AV} (hb : HasBody E f)
    (h : ∀ (s : S) (vs : List Value), HInv s → E.Γ s.B s.w → RepL s args vs →
      Calls E.P f vs.toArray s.w fun e w' => ∃ v, e = .returned v ∧ Below s.w.heap.size s.w w' ∧ Rep { s with w := w' } r v) : ACalls E f args σ fun r' τ => r' = r ∧ τ = σ :=
  acalls_lib' hb fun s vs h1 h2 h3 => (h s vs h1 h2 h3).mono fun _ w' ⟨v, h4, h5, h6⟩ => ⟨v, r, h4, h5, h6, rfl⟩

theorem acalls_noEscape {E : Env} {f : FuncId} {fn : Func} {x : AV} {σ : List Ent} (hf : E.P.funcs[f]? = some fn) (hname : (fn.name == "runtime.NumGoroutine") = false)
    (hb : fn.body.isNone = true) (hn : Extern.findNext fn = none) (he : Extern.find fn = some Extern.AbiNoEscape.same) : ACalls E f [x] σ fun r' τ => r' = x ∧ τ = σ := by
  refine .inr fun s vs hs hI hΓ hr => ?_
  unfold RepL RepL at hr
  obtain ⟨v, vs', rfl, hv, rfl⟩ := hr
  refine ⟨v, x, s, ?_, hI, Ext.refl s, hv, rfl, hs⟩
  rw [run_callFunc_extern hf hname hb hn he, Lib.run_noEscape]
  rfl

theorem repL1 {s : S} {x : AV} {vs : List Value} (h : RepL s [x] vs) : ∃ v, vs = [v] ∧ Rep s x v := by
  unfold RepL RepL at h
  obtain ⟨v, vs', rfl, hv, rfl⟩ := h
  exact ⟨v, rfl, hv⟩
theorem repL2 {s : S} {x y : AV} {vs : List Value} (h : RepL s [x, y] vs) : ∃ v w, vs = [v, w] ∧ Rep s x v ∧ Rep s y w := by
  unfold RepL at h
  obtain ⟨v, vs', rfl, hv, h⟩ := h
  obtain ⟨w, rfl, hw⟩ := repL1 h
  exact ⟨v, w, rfl, hv, hw⟩
theorem repL3 {s : S} {x y z : AV} {vs : List Value} (h : RepL s [x, y, z] vs) : ∃ v w u, vs = [v, w, u] ∧ Rep s x v ∧ Rep s y w ∧ Rep s z u := by
  unfold RepL at h
  obtain ⟨v, vs', rfl, hv, h⟩ := h
  obtain ⟨w, u, rfl, hw, hu⟩ := repL2 h
  exact ⟨v, w, u, rfl, hv, hw, hu⟩
theorem rep_v' {s : S} {x y : Value} (h : Rep s (.v x) y) : y = x := by unfold Rep at h; exact h
theorem rep_str {s : S} {l : List UInt8} {y : Value} (h : Rep s (.str l) y) : y = .string ⟨⟨l⟩⟩ := by unfold Rep at h; exact h
theorem rep_mk_v (s : S) (x : Value) : Rep s (.v x) x := by unfold Rep; rfl
theorem rep_mk_str (s : S) (l : List UInt8) : Rep s (.str l) (.string ⟨⟨l⟩⟩) := by unfold Rep; rfl
theorem rep_mk_tup2 {s : S} {x y : AV} {a b : Value} (h1 : Rep s x a) (h2 : Rep s y b) : Rep s (.tup [x, y]) (.tuple #[a, b]) := by
  unfold Rep RepL RepL RepL
  exact ⟨_, rfl, a, [b], rfl, h1, b, [], rfl, h2, rfl⟩

/-- A new block is never written. -/
theorem imm_new {s : S} (hI : HInv s) {w' : World} {blk : Nat} (h1 : s.w.heap.size ≤ blk) (h2 : blk < w'.heap.size) (off : Nat) : Imm { s with w := w' } blk off := by
  refine ⟨h2, fun id e b he hb hbb => ?_⟩
  have := (hI.slot id b hb).2
  omega

/-- A new block of texts, as a slice. -/
theorem rep_mk_strs {s : S} (hI : HInv s) (ss : List (List UInt8)) (t : TypeId) :
    Rep { s with w := s.w.alloc (.cells (ss.map fun l => Value.string ⟨⟨l⟩⟩).toArray t) } (.sl (ss.map .str)) (.slice (some ⟨s.w.heap.size, 0, none⟩) ss.length ss.length) := by
  unfold Rep
  refine ⟨_, _, by rw [List.length_map], by simp, .inr ⟨_, _, 1, rfl, by omega, RepRow.mk fun i e hi => ?_⟩⟩
  simp only [List.getElem?_map, Option.map_eq_some_iff] at hi
  obtain ⟨l, hl, rfl⟩ := hi
  refine ⟨.string ⟨⟨l⟩⟩, ?_, rep_mk_str _ l⟩
  unfold LoadsAt
  simp only [AV.isAgg, Bool.false_eq_true, if_false]
  refine ⟨by first | rfl | trivial, ?_, imm_new hI (Nat.le_refl _) (by show s.w.heap.size < (s.w.heap.push _).size; simp) _⟩
  rw [World.cell?_alloc_new]
  simp [hl]

/-- What a slice of texts is. -/
theorem strs_at {s : S} {ss : List (List UInt8)} {v : Value} (h : Rep s (.sl (ss.map .str)) v) :
    ∃ a cap, v = .slice a ss.length cap ∧ ss.length ≤ cap ∧ (ss = [] ∨ ∃ blk off, a = some ⟨blk, off, none⟩ ∧ ∀ j l, ss[j]? = some l → s.w.cell? ⟨blk, off + j, none⟩ = some (.string ⟨⟨l⟩⟩)) := by
  unfold Rep at h
  obtain ⟨a, cap, rfl, hc, hh⟩ := h
  rw [List.length_map] at *
  refine ⟨a, cap, rfl, hc, ?_⟩
  rcases hh with hh | ⟨blk, off, k, rfl, hk, hrow⟩
  · left; simpa using hh
  · right
    refine ⟨blk, off, rfl, fun j l hj => ?_⟩
    obtain ⟨y, h1, h2⟩ := hrow.get (i := j) (e := .str l) (by simp [hj])
    have h3 := h1.cell
    have := rep_str h2
    subst this
    obtain ⟨rfl, h4, _⟩ := h3
    simpa using h4
/-! Entries by their numbers: those behind a store's known part. -/
theorem sget_g0 (σ : List Ent) (e : Ent) (r l : List Ent) : sget (σ ++ e :: r) l σ.length = some e := by simp [sget]
theorem sget_g1 (σ : List Ent) (e f : Ent) (r l : List Ent) : sget (σ ++ e :: f :: r) l (σ.length + 1) = some f := by simp [sget]
theorem ssetG_g0 (σ : List Ent) (e e' : Ent) (r : List Ent) : ssetG (σ ++ e :: r) σ.length e' = σ ++ e' :: r := by simp [ssetG]
theorem ssetG_g1 (σ : List Ent) (e f e' : Ent) (r : List Ent) : ssetG (σ ++ e :: f :: r) (σ.length + 1) e' = σ ++ e :: e' :: r := by simp [ssetG, List.set_append]
theorem ssetL_g0 (σ : List Ent) (e e' : Ent) (r l : List Ent) : ssetL (σ ++ e :: r) l σ.length e' = l := by simp [ssetL]
theorem ssetL_g1 (σ : List Ent) (e f e' : Ent) (r l : List Ent) : ssetL (σ ++ e :: f :: r) l (σ.length + 1) e' = l := by simp [ssetL]
theorem sget_l0 (g : List Ent) (e : Ent) (r : List Ent) : sget g (e :: r) g.length = some e := by simp [sget]
theorem sget_l1 (g : List Ent) (e f : Ent) (r : List Ent) : sget g (e :: f :: r) (g.length + 1) = some f := by simp [sget]
theorem sget_l2 (g : List Ent) (e f h : Ent) (r : List Ent) : sget g (e :: f :: h :: r) (g.length + 2) = some h := by simp [sget]
theorem ssetG_l0 (g : List Ent) (e : Ent) : ssetG g g.length e = g := by simp [ssetG]
theorem ssetG_l1 (g : List Ent) (n : Nat) (e : Ent) : ssetG g (g.length + n) e = g := by unfold ssetG; rw [if_neg (by omega)]
theorem ssetL_l0 (g : List Ent) (e e' : Ent) (r : List Ent) : ssetL g (e :: r) g.length e' = e' :: r := by simp [ssetL]
theorem ssetL_l1 (g : List Ent) (e f e' : Ent) (r : List Ent) : ssetL g (e :: f :: r) (g.length + 1) e' = e :: e' :: r := by unfold ssetL; rw [if_neg (by omega), Nat.add_sub_cancel_left]; rfl
theorem ssetL_l2 (g : List Ent) (e f h e' : Ent) (r : List Ent) : ssetL g (e :: f :: h :: r) (g.length + 2) e' = e :: f :: e' :: r := by unfold ssetL; rw [if_neg (by omega), Nat.add_sub_cancel_left]; rfl
theorem take_a1 (σ : List Ent) (e : Ent) (r : List Ent) : (σ ++ e :: r).take (σ.length + 1) = σ ++ [e] := by simp [List.take_append, List.take_of_length_le]
theorem drop_a1 (σ : List Ent) (e : Ent) (r : List Ent) : (σ ++ e :: r).drop (σ.length + 1) = r := by simp [List.drop_append]
theorem take_a2 (σ : List Ent) (e f : Ent) (r : List Ent) : (σ ++ e :: f :: r).take (σ.length + 2) = σ ++ [e, f] := by simp [List.take_append, List.take_of_length_le]
theorem drop_a2 (σ : List Ent) (e f : Ent) (r : List Ent) : (σ ++ e :: f :: r).drop (σ.length + 2) = r := by simp [List.drop_append]
theorem sget_l (g l : List Ent) (n : Nat) : sget g l (g.length + n) = l[n]? := by unfold sget; rw [if_neg (by omega), Nat.add_sub_cancel_left]
theorem ssetL_l (g l : List Ent) (n : Nat) (e : Ent) : ssetL g l (g.length + n) e = l.set n e := by unfold ssetL; rw [if_neg (by omega), Nat.add_sub_cancel_left]
theorem get_end (l : List Ent) (e : Ent) (r : List Ent) : (l ++ e :: r)[l.length]? = some e := by simp
theorem set_end (l : List Ent) (e e' : Ent) (r : List Ent) : (l ++ e :: r).set l.length e' = l ++ e' :: r := by simp
theorem get_end1 (l : List Ent) (e f : Ent) (r : List Ent) : (l ++ e :: f :: r)[l.length + 1]? = some f := by simp
theorem set_end1 (l : List Ent) (e f e' : Ent) (r : List Ent) : (l ++ e :: f :: r).set (l.length + 1) e' = l ++ e :: e' :: r := by simp [List.set_append]
end Go.Vm

/- How a type's row of the table is shown to be so. -/
set_option linter.unusedVariables false
namespace Go.Vm

def fldsB (P : Program) : List Field → List (Nat × Nat × Bool) → Bool
  | [], [] => true
  | f :: fs, (off, sz, ag) :: l =>
    (match P.info? f.type, P.underlying f.type with
      | some inf, some d => f.offset == off && inf.size == sz && aggD d == ag && decide (0 < sz) && (ag || sz == 1)
      | _, _ => false) && fldsB P fs l
  | _, _ => false
def tyB (P : Program) (inf : TypeInfo) (z : Value) (i : TI) : Bool :=
  inf.size == i.size && inf.bytes == i.bytes && zval i.zero z && i.isAgg == aggD i.desc && i.zero.cells.length == i.size && i.zero.cells.all (·.isCell) && (i.isAgg || i.size == 1) &&
    (match i.desc with
      | .struct fs => fldsB P fs.toList i.flds
      | .slice e => i.elem == e && i.flds.isEmpty
      | _ => i.flds.isEmpty)

theorem fldsB_spec {P : Program} : ∀ {fs : List Field} {l : List (Nat × Nat × Bool)}, fldsB P fs l = true → l.length = fs.length ∧ ∀ (j : Nat) off sz ag, l[j]? = some (off, sz, ag) →
    ∃ f inf d, fs[j]? = some f ∧ f.offset = off ∧ P.info? f.type = some inf ∧ inf.size = sz ∧ P.underlying f.type = some d ∧ ag = aggD d ∧ 0 < sz ∧ (ag = false → sz = 1)
  | [], [], _ => ⟨rfl, fun j _ _ _ h => by simp at h⟩
  | [], _ :: _, h => by simp [fldsB] at h
  | _ :: _, [], h => by simp [fldsB] at h
  | f :: fs, (o, z, a) :: l, h => by
    simp only [fldsB, Bool.and_eq_true] at h
    obtain ⟨h1, h2⟩ := h
    obtain ⟨h3, h4⟩ := fldsB_spec h2
    refine ⟨by simp [h3], fun j off sz ag hj => ?_⟩
    cases j with
    | zero =>
      simp only [List.getElem?_cons_zero, Option.some.injEq, Prod.mk.injEq] at hj
      obtain ⟨rfl, rfl, rfl⟩ := hj
      split at h1
      · rename_i inf d hi hu
        simp only [Bool.and_eq_true, beq_iff_eq, decide_eq_true_eq, Bool.or_eq_true] at h1
        refine ⟨f, inf, d, rfl, h1.1.1.1.1, hi, h1.1.1.1.2, hu, h1.1.1.2.symm, h1.1.2, fun hh => ?_⟩
        rcases h1.2 with h5 | h5
        · rw [hh] at h5; cases h5
        · exact h5
      · cases h1
    | succ j =>
      simp only [List.getElem?_cons_succ] at hj ⊢
      exact h4 j off sz ag hj

theorem TyOK.of {P : Program} {t : Nat} {i : TI} {inf : TypeInfo} {z : Value} (hu : P.underlying t = some i.desc) (hi : P.info? t = some inf) (hz : inf.zero = some z) (h : tyB P inf z i = true) : TyOK P t i := by
  simp only [tyB, Bool.and_eq_true, beq_iff_eq, Bool.or_eq_true] at h
  obtain ⟨⟨⟨⟨⟨⟨⟨h1, h2⟩, h3⟩, h4⟩, h5⟩, h6⟩, h7⟩, h8⟩ := h
  refine ⟨hu, ⟨inf, z, hi, h1, h2, hz, h3⟩, h4, fun fs hd => ?_, fun hd => ?_, fun e hd => ?_, fun hh => ?_, h5, h6⟩
  · rw [hd] at h8
    obtain ⟨h9, h10⟩ := fldsB_spec h8
    refine ⟨i.flds, rfl, by simpa using h9, fun j off sz ag hj => ?_⟩
    obtain ⟨f, inf', d, a1, a2⟩ := h10 j off sz ag hj
    exact ⟨f, inf', d, by simpa using a1, a2⟩
  · split at h8
    · rename_i fs hd2; exact absurd hd2 (hd fs)
    · simp only [Bool.and_eq_true, List.isEmpty_iff] at h8; exact h8.2
    · simpa using h8
  · rw [hd] at h8
    simp only [Bool.and_eq_true, beq_iff_eq] at h8
    exact h8.1
  · rcases h7 with h7 | h7
    · rw [hh] at h7; cases h7
    · exact h7
theorem TyOK.of' {P : Program} {t : Nat} {i : TI} {inf : TypeInfo} (hu : P.underlying t = some i.desc) (hi : P.info? t = some inf) (h : (match inf.zero with | some z => tyB P inf z i | none => false) = true) : TyOK P t i := by
  cases hz : inf.zero with
  | none => rw [hz] at h; cases h
  | some z => rw [hz] at h; exact TyOK.of hu hi hz h

/-- All rows of a table are so. -/
def AllOK (P : Program) : List (Nat × TI) → Prop
  | [] => True
  | p :: r => TyOK P p.1 p.2 ∧ AllOK P r
theorem AllOK.mem {P : Program} : ∀ {l : List (Nat × TI)}, AllOK P l → ∀ p ∈ l, TyOK P p.1 p.2
  | [], _, p, h => by cases h
  | q :: r, h, p, hm => by
    rcases List.mem_cons.1 hm with e | hm
    · rw [e]; exact h.1
    · exact AllOK.mem h.2 p hm
def tabOf (l : List (Nat × TI)) (t : Nat) : TI := match l with
  | [] => {}
  | p :: r => if p.1 = t then p.2 else tabOf r t
theorem tabOf_mem : ∀ (l : List (Nat × TI)) (t : Nat), (tabOf l t).ok = true → (t, tabOf l t) ∈ l
  | [], t, h => by simp [tabOf] at h
  | p :: r, t, h => by
    unfold tabOf at h ⊢
    by_cases e : p.1 = t
    · rw [if_pos e] at h ⊢
      rw [← e]; exact List.mem_cons_self
    · rw [if_neg e] at h ⊢
      exact List.mem_cons_of_mem _ (tabOf_mem r t h)
theorem TabOK.of_list {P : Program} {l : List (Nat × TI)} (h : AllOK P l) : TabOK P (tabOf l) := fun t ht => h.mem _ (tabOf_mem l t ht)
end Go.Vm

/- From a function's contract to what a row asks of a call. -/
set_option linter.unusedVariables false
namespace Go.Vm
open Go.RowKit Go.ChangeShapes Go.WideShapes

theorem calls_top {E : Env} {f : FuncId} {args : List AV} {R : AV → List Ent → Prop}
    (h : HasBody E f ∧ ∀ (s : S) (vs : List Value), s.σ = [] → HInv s → E.Γ s.B s.w → RepL s args vs →
      Calls E.P f vs.toArray s.w fun e w' => ∃ v r s', e = .returned v ∧ s'.w = w' ∧ HInv s' ∧ Ext s s' ∧ Rep s' r v ∧ R r s'.σ)
    (hR : ∀ r τ, R r τ → r = boolV true) (W : World) (vs : List Value) (hΓ : E.Γ W.heap.size W) (hr : RepL ⟨[], [], W, W.heap.size⟩ args vs) :
    Calls E.P f vs.toArray W fun e w' => e = .returned (.bool true) ∧ Below W.heap.size W w' := by
  have hI : HInv ⟨[], [], W, W.heap.size⟩ := ⟨rfl, Nat.le_refl _, fun id b h => by simp at h, fun i j b c h => by simp at h, fun id e b h => by simp at h, fun id e b h => by simp at h⟩
  refine (h.2 ⟨[], [], W, W.heap.size⟩ vs rfl hI hΓ hr).mono ?_
  rintro e w' ⟨v, r, s', rfl, rfl, h1, h2, h3, h4⟩
  refine ⟨?_, h2.below⟩
  rw [hR _ _ h4] at h3
  unfold boolV at h3
  unfold Rep at h3
  rw [h3]

/-- A change's sentence of a call that writes nothing that was there. -/
theorem post_of_below {H : Type} {enc : TypeId × Value → H} {P : Program} {f : Func} {s : ChangeSpec} {apart fresh handsOn again : Bool} {W W' : World} {args : Array Value} {v : Value} {ds gs : List (DataW H)} {before pa pv : List MemPlace}
    (hW : DataW.Whole enc P f.params.toList s.vars apart W args.toList ds gs before)
    (hres : ∀ (b : Nat) (sp : Nat → Bool) (hd : Bool), DataW.TrodAll enc P W' b sp hd f.resultTypes.toList (v.resultList f.resultTypes.size) (s.fn H (ds ++ gs)).results [])
    (hargs : ∀ sp : Nat → Bool, (∀ p ∈ before, sp p.block = true) → DataW.TrodAll enc P W' 0 sp true f.params.toList args.toList (s.fn H (ds ++ gs)).args pa)
    (hvars : ∀ sp : Nat → Bool, (∀ p ∈ before, sp p.block = true) → DataW.TrodVars enc P W' sp s.vars (s.fn H (ds ++ gs)).vars pv)
    (hps : before = pa ++ pv) (hb : Below W.heap.size W W')
    (hok : ∀ (j : Nat) (t : TypeId) (r : Value), f.resultTypes[j]? = some t → (v.resultList f.resultTypes.size)[j]? = some r → Value.okWide P W' .any 0 t r) :
    s.post enc P f apart fresh handsOn again W args v W' := by
  have hold : ∀ p ∈ before, (fun b => decide (b < W.heap.size)) p.block = true := fun p hp => by simpa using hW.lt p hp
  have hlt := hW.lt
  refine ⟨ds, gs, before, [], pa, pv, hW, hres _ _ _, hargs _ hold, hvars _ hold, World.keptBut_mono (fun p hp => ⟨hp, ?_⟩) (hb.frame (· ∈ before)), fun _ => ?_⟩
  · rw [hps, List.mem_append] at hp
    exact Or.inr hp
  · obtain ⟨_, _, _, _, _, hz, hn⟩ := hW
    refine ⟨hok, _, _, ([] ++ pa) ++ pv, ⟨[] ++ pa, pv, trodAll_append (hargs _ (fun _ _ => rfl)) (hres _ _ _), hvars _ (fun _ _ => rfl), rfl, ?_, ?_⟩, ?_⟩
    · intro b off hp
      have hp' : MemPlace.cell b off ∈ before := by rw [hps]; simpa using hp
      rw [hb.frozen (p := ⟨b, off, none⟩) (hlt _ hp')]
      exact hz b off hp'
    · intro ha
      have := hn ha
      rw [hps] at this
      simpa using this
    · intro p hp _
      rw [hps]
      simpa using hp

/-- What a list of variables gives for one of them. -/
theorem laid_mem {P : Program} {w : World} : ∀ {l : List (String × DataW Unit)} {ps : List MemPlace}, DataW.LaidVars P w l ps → ∀ n d, (n, d) ∈ l →
    ∃ g t cs fuel p, P.globalNamed n = some g ∧ (P.globals[g]?).map (·.type) = some t ∧ w.var? P n = some cs ∧ DataW.trod (fun _ => ()) P w 0 (fun _ => true) false fuel t cs.toList = some (d, p)
  | [], _, _, n, d, h => by cases h
  | (n', d') :: r, ps, h, n, d, hm => by
    obtain ⟨g, t, cs, fuel, p, q, h1, h2, h3, h4, h5, _⟩ := h
    rcases List.mem_cons.1 hm with hm | hm
    · injection hm with e1 e2
      subst e1; subst e2
      exact ⟨g, t, cs, fuel, p, h1, h2, h3, h4⟩
    · exact laid_mem h5 n d hm
theorem trod_iface {H : Type} {enc : TypeId × Value → H} {P : Program} {w : World} {base : Nat} {sp : Nat → Bool} {held : Bool} {fuel : Nat} {t : TypeId} {cs : List Value} {n : String} {d : DataW H} {p : List MemPlace} {ms}
    (ht : P.underlying t = some (.interface ms)) (h : DataW.trod enc P w base sp held fuel t cs = some (.iface n d, p)) : ∃ u v, cs = [.iface u v] := by
  cases fuel with
  | zero => simp [DataW.trod] at h
  | succ fuel =>
    unfold DataW.trod at h
    rw [ht] at h
    split at h <;> simp_all
/-- An error that is listed. -/
theorem laid_iface {P : Program} {w : World} {l : List (String × DataW Unit)} (h : laidMet P l w) {n : String} {s : String} {d : DataW Unit} (hm : (n, .iface s d) ∈ l) {g : Nat} {t : TypeId} {ms}
    (hg : P.globalNamed n = some g) (hty : (P.globals[g]?).map (·.type) = some t) (ht : P.underlying t = some (.interface ms)) : ∃ u v, w.cell? ⟨g, 0, none⟩ = some (.iface u v) := by
  obtain ⟨ps, h, _⟩ := h
  obtain ⟨g', t', cs, fuel, p, h1, h2, h3, h4⟩ := laid_mem h _ _ hm
  obtain rfl := Option.some.inj (hg.symm.trans h1)
  obtain rfl := Option.some.inj (hty.symm.trans h2)
  obtain ⟨u, v, e⟩ := trod_iface ht h4
  refine ⟨u, v, ?_⟩
  rw [World.var?_cell hg h3 0]
  have : cs.toList[0]? = some (.iface u v) := by rw [e]; rfl
  simpa using this
/-- A table that is listed. -/
theorem laid_tab {P : Program} {w : World} {l : List (String × DataW Unit)} (h : laidMet P l w) {n : String} {k : IntKind} {zs : List Int} (hm : (n, Lib.tabData k zs) ∈ l) {g : Nat} {t e : TypeId} {m : Nat}
    (hg : P.globalNamed n = some g) (hty : (P.globals[g]?).map (·.type) = some t) (ht : P.underlying t = some (.array m e)) (he : P.underlying e = some (.int k)) (hce : P.cellsOf e = 1) (hct : P.cellsOf t = m) : Lib.TabIs P w n k zs := by
  obtain ⟨ps, h, _⟩ := h
  obtain ⟨g', t', cs, fuel, p, h1, h2, h3, h4⟩ := laid_mem h _ _ hm
  obtain rfl := Option.some.inj (hg.symm.trans h1)
  obtain rfl := Option.some.inj (hty.symm.trans h2)
  unfold Lib.TabIs
  rw [h3, ← Lib.cells_of_tab ht he hce hct h4]
/-- A variable of one integer, of which nothing is listed. -/
theorem shape_int {P : Program} {w : World} {g : Nat} {t : TypeId} {k : IntKind} {zero : Array Value} (h : w.ShapedOpen P) (hg : g < P.globals.size)
    (h0 : ((begin P (fun _ _ => 0) default).world.heap[g]?).bind Obj.row? = some (zero, t)) (hz : zero.size = 1)
    (hb : P.buildable t = true) (hc : P.cellTypes P.depth t = some [t]) (hu : P.underlying t = some (.int k)) : ∃ n, w.cell? ⟨g, 0, none⟩ = some (.int k n) := by
  obtain ⟨cs, hh, hs, hr⟩ := h.1 g zero t hg h0
  obtain ⟨ts, hts, _, hall⟩ := hr hb
  rw [hc] at hts
  cases hts
  have h1 : 0 < cs.size := by omega
  obtain ⟨u, hu', hok⟩ := hall 0 cs[0] (by simp [h1])
  have : u = t := by simpa using hu'.symm
  subst this
  have hcell : w.cell? ⟨g, 0, none⟩ = some cs[0] := by simp [World.cell?, hh, h1]
  rw [hcell]
  unfold Cell.ok at hok
  rw [hu] at hok
  cases hv : cs[0] <;> rw [hv] at hok <;> simp at hok
  obtain ⟨rfl, _⟩ := hok
  exact ⟨_, rfl⟩
theorem block_lt {w : World} {a : Addr} {v : Value} (h : w.cell? a = some v) : a.block < w.heap.size := by
  unfold World.cell? at h
  split at h
  · rename_i hb; exact (Array.getElem?_eq_some_iff.1 hb).1
  · cases h

/-- There is an input that fits, at a world that is shaped. -/
theorem witness_row {H : Type} {enc : TypeId × Value → H} {C : Checked} {os : Os} {f : FuncId} {fn : Func} {s : OpenSpec} {conds : List PathCond} {apart : Bool} {laid : List (String × DataW Unit)} (w0 : World) (args : Array Value) (hos : w0.os = os)
    (hsh : (w0.forCall (fun _ _ => 0) ⟨#[], args, []⟩).Shaped C.prog)
    (hok : Input.okWideB C.prog (w0.forCall (fun _ _ => 0) ⟨#[], args, []⟩) f ⟨#[], args, []⟩ = true)
    (hrow : s.preRow enc C.prog fn conds apart laid (w0.forCall (fun _ _ => 0) ⟨#[], args, []⟩).memory args) :
    ∃ (w : World) (tape : Tape) (i : Input), w.os = os ∧ (w.forCall tape i).Shaped C.prog ∧ i.vars = [] ∧ Input.okWide C.prog (w.forCall tape i) .any w.heap.size f i ∧
      s.preRow enc C.prog fn conds apart laid (w.forCall tape i).memory i.args ∧ ({} : Assume).holds C.prog (lone (Frame.enter C.prog f i.args .normal) [] (w.forCall tape i)) :=
  ⟨w0, fun _ _ => 0, ⟨#[], args, []⟩, hos, hsh, (Input.okWide_of_okWideB (base := 0) hok).1, (Input.okWide_of_okWideB hok).2, hrow, by
    simp only [Assume.holds]
    exact ⟨by simp, by simp, by simp, by simp, by simp⟩⟩

/-- The arguments read as they did. -/
theorem args_stay {H : Type} {enc : TypeId × Value → H} {P : Program} (hl : laidOutB P = true) {W W' : World} (hb : Below W.heap.size W W') {sp : Nat → Bool} : ∀ {ts : List TypeId} {vs : List Value} {ds : List (DataW H)} {ps : List MemPlace},
    (∀ t ∈ ts, P.readableRec t = true ∧ t < P.types.size) → DataW.TrodAll enc P W 0 (fun _ => true) true ts vs ds ps → (∀ p ∈ ps, sp p.block = true) → DataW.TrodAll enc P W' 0 sp true ts vs ds ps
  | [], _, _, _, _, h, _ => by
    obtain ⟨rfl, rfl, rfl⟩ := trodAll_nil h
    exact rfl
  | t :: ts, vs, ds, ps, ht, h, hs => by
    have hlt := DataW.TrodAll.lt h
    obtain ⟨v, vs', d, ds', p, q, rfl, rfl, rfl, h1, h2⟩ := trodAll_cons h
    obtain ⟨r1, r2⟩ := ht t (by simp)
    refine ⟨p, q, ?_, args_stay hl hb (fun u hu => ht u (by simp [hu])) h2 (fun x hx => hs x (by simp [hx])), rfl⟩
    refine WideElems.Trod_stays hl r1 r2 h1 (fun x hx => ?_) (fun x hx => hs x (by simp [hx]))
    have hx' := hlt x (by simp [hx])
    cases x with
    | cell b off => exact hb.cell (p := ⟨b, off, none⟩) hx'
    | map b => exact hb.block b hx'
end Go.Vm

/- The theorems by which the reading of code goes on, as three. -/
set_option linter.defProp false
namespace Go.Vm
open Go Go.RowKit
theorem natCast_add_r (a b : Nat) : (a : Int) + (b : Int) = ((a + b : Nat) : Int) := (Int.natCast_add a b).symm
def vm1 := And.intro (And.intro (And.intro (And.intro (And.intro (And.intro (@xCode_skip) (@xCode_region)) (And.intro (@xCode_seq) (@xCode_cond))) (And.intro (And.intro (@xCode_block) (@xCode_exit)) (And.intro (@xCode_ret) (@xCond_t)))) (And.intro (And.intro (And.intro (@xCond_f) (@xK_done)) (And.intro (@xK_next_n) (@xK_next_r))) (And.intro (And.intro (@xK_next_e) (@xK_seq_n)) (And.intro (@xK_seq_r) (And.intro (@xK_seq_e) (@xK_block_n)))))) (And.intro (And.intro (And.intro (And.intro (@xK_block_r) (@xK_block_e)) (And.intro (@xOps_nil) (@xOps_go))) (And.intro (And.intro (@xOps_if) (@xSlot_some)) (And.intro (@xGuard_tt) (And.intro (@xGuard_ff) (@xGuard_tf))))) (And.intro (And.intro (And.intro (@xGuard_ft) (@xGuard_un)) (And.intro (@xOne_move) (@xOne_assign))) (And.intro (And.intro (@xOne_pick) (@xOne_alloc)) (And.intro (@xOne_box) (And.intro (@xOne_build) (@xOne_buildSlice))))))) (And.intro (And.intro (And.intro (And.intro (And.intro (@xOne_load) (@xOne_store)) (And.intro (@xOne_nilCheck) (@xOne_binOp))) (And.intro (And.intro (@xOne_unOp) (@xOne_convert)) (And.intro (@xOne_makeInterface) (@xOne_makeFunc)))) (And.intro (And.intro (And.intro (@xOne_makeMap) (@xOne_makeSlice)) (And.intro (@xOne_slice) (@xOne_fieldAddr))) (And.intro (And.intro (@xOne_field) (@xOne_indexAddr)) (And.intro (@xOne_index) (And.intro (@xOne_lookup) (@xOne_mapUpdate)))))) (And.intro (And.intro (And.intro (And.intro (@xOne_range) (@xOne_next)) (And.intro (@xOne_entry) (@xOne_typeAssert))) (And.intro (And.intro (@xOne_extract) (@xOne_builtin)) (And.intro (@xOne_call) (And.intro (@xOne_invoke) (@xInv_ifc))))) (And.intro (And.intro (And.intro (@xCall_fn) (@xOut_pure)) (And.intro (@xOut_some) (@xOut_none))) (And.intro (And.intro (@if_true.{0}) (@if_true.{1})) (And.intro (@if_false.{0}) (And.intro (@if_false.{1}) (@true_and)))))))
def vm2 := And.intro (And.intro (And.intro (And.intro (And.intro (And.intro (@and_true) (@Option.map_some.{0,0})) (And.intro (@Option.map_none.{0,0}) (@List.getElem?_cons_zero.{0}))) (And.intro (And.intro (@List.getElem?_cons_succ.{0}) (@List.getElem?_toArray.{0})) (And.intro (@Option.bind_some.{0,0}) (@Option.bind_none.{0,0})))) (And.intro (And.intro (And.intro (@decide_true) (@decide_false)) (And.intro (@Bool.and_true) (@Bool.true_and))) (And.intro (And.intro (@Bool.and_false) (@Bool.false_and)) (And.intro (@Bool.or_true) (And.intro (@Bool.true_or) (@Bool.or_false)))))) (And.intro (And.intro (And.intro (And.intro (@Bool.false_or) (@Bool.false_eq_true)) (And.intro (@Bool.not_true) (@Bool.not_false))) (And.intro (And.intro (@Nat.zero_add) (@List.map_cons.{0,0})) (And.intro (@List.map_nil.{0,0}) (And.intro (@List.nil_append.{0}) (@List.append_nil.{0}))))) (And.intro (And.intro (And.intro (@List.cons_append.{0}) (@List.take_left.{0})) (And.intro (@List.drop_left.{0}) (@List.take_length.{0}))) (And.intro (And.intro (@List.drop_length.{0}) (@List.all_cons.{0})) (And.intro (@List.all_nil.{0}) (And.intro (@Nat.add_zero) (@Int.cast_ofNat_Int))))))) (And.intro (And.intro (And.intro (And.intro (And.intro (@List.length_nil.{0}) (@List.length_cons.{0})) (And.intro (@avBytes_map) (@storeLow_refl))) (And.intro (And.intro (@sub_nil) (@sub_cons)) (And.intro (@Bool.or_self) (@Bool.and_self)))) (And.intro (And.intro (And.intro (@Bool.not_not) (@and_self)) (And.intro (@Int.toNat_natCast) (@Int.natCast_nonneg))) (And.intro (And.intro (@Int.le_refl) (@Nat.le_refl)) (And.intro (@take_drop_all) (And.intro (@List.drop_zero.{0}) (@Nat.sub_zero)))))) (And.intro (And.intro (And.intro (And.intro (@natCast_add_r) (@nat_add_one)) (And.intro (@nat_add_two) (@sget_g0))) (And.intro (And.intro (@sget_g1) (@ssetG_g0)) (And.intro (@ssetG_g1) (And.intro (@ssetL_g0) (@ssetL_g1))))) (And.intro (And.intro (And.intro (@sget_l0) (@sget_l1)) (And.intro (@sget_l2) (@ssetG_l0))) (And.intro (And.intro (@ssetG_l1) (@ssetL_l0)) (And.intro (@ssetL_l1) (And.intro (@ssetL_l2) (@Int.zero_add)))))))
def vm3 := And.intro (And.intro (And.intro (And.intro (And.intro (And.intro (@Int.add_zero) (@List.contains_nil.{0})) (And.intro (@List.elem_nil.{0}) (@yDraw_nil))) (And.intro (And.intro (@yDraw_go) (@yDraw_if)) (And.intro (@ySlot_some) (@yGuard_tt)))) (And.intro (And.intro (And.intro (@yGuard_ff) (@yGuard_tf)) (And.intro (@yGuard_ft) (@yGuard_un))) (And.intro (And.intro (@yOut_pure) (@yOut_cond)) (And.intro (@yOut_some) (And.intro (@yNext_move) (@yNext_assign)))))) (And.intro (And.intro (And.intro (And.intro (@yNext_pick) (@yNext_alloc)) (And.intro (@yNext_box) (@yNext_build))) (And.intro (And.intro (@yNext_buildSlice) (@yNext_load)) (And.intro (@yNext_store) (And.intro (@yNext_nilCheck) (@yNext_binOp))))) (And.intro (And.intro (And.intro (@yNext_unOp) (@yNext_convert)) (And.intro (@yNext_makeInterface) (@yNext_makeFunc))) (And.intro (And.intro (@yNext_makeMap) (@yNext_makeSlice)) (And.intro (@yNext_slice) (And.intro (@yNext_fieldAddr) (@yNext_field))))))) (And.intro (And.intro (And.intro (And.intro (And.intro (@yNext_indexAddr) (@yNext_index)) (And.intro (@yNext_lookup) (@yNext_mapUpdate))) (And.intro (And.intro (@yNext_range) (@yNext_next)) (And.intro (@yNext_entry) (@yNext_typeAssert)))) (And.intro (And.intro (And.intro (@yNext_extract) (@yNext_builtin)) (And.intro (@List.length_append.{0}) (@List.append_assoc.{0}))) (And.intro (And.intro (@take_a1) (@drop_a1)) (And.intro (@take_a2) (And.intro (@drop_a2) (@List.set_cons_zero.{0})))))) (And.intro (And.intro (And.intro (And.intro (@List.set_cons_succ.{0}) (@List.size_toArray.{0})) (And.intro (@beq_self_eq_true.{0}) (@List.flatMap_cons.{0,0}))) (And.intro (And.intro (@List.flatMap_nil.{0,0}) (@Option.any_some.{0})) (And.intro (@List.mem_singleton.{0}) (And.intro (@forall_eq.{1}) (@List.length_map.{0,0}))))) (And.intro (And.intro (And.intro (@Nat.mul_one) (@List.contains_cons.{0})) (And.intro (@List.isEmpty_cons.{0}) (@List.isEmpty_nil.{0}))) (And.intro (And.intro (@List.take_succ_cons.{0}) (@List.take_zero.{0})) (And.intro (@Nat.add_sub_cancel_left) (And.intro (@sget_l) (@ssetL_l)))))))
def vm4 := And.intro (And.intro (@get_end) (@set_end)) (And.intro (@get_end1) (And.intro (@set_end1) (@List.drop_succ_cons.{0})))
end Go.Vm
