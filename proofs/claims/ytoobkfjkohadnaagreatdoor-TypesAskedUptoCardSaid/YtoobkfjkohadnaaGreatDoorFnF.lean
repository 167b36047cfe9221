/- What the program collects and asks of a type. -/
import Derived.Test.YtoobkfjkohadnaaGreatDoorFnE
import Derived.Test.YtoobkfjkohadnaaGreatDoorFnB
import Derived.Test.YtoobkfjkohadnaaGreatDoorVmF
import Derived.Test.YtoobkfjkohadnaaGreatDoorFnC
import Derived.Test.YtoobkfjkohadnaaGreatDoorFnA
set_option linter.unusedVariables false
set_option linter.unusedSectionVars false
set_option linter.unusedSimpArgs false
set_option linter.unnecessarySimpa false
set_option maxRecDepth 100000
namespace Go.D
open Go Go.Vm Go.Proofs Go.RowKit Go.Sort

/-! ### Whether no type in a type is of some kinds -/
def stepN (ks : List (List UInt8)) (ok : Bool) (u : Tr) : Bool := ok && !decide (u.d ∈ ks)
mutual
theorem none_fold (ks : List (List UInt8)) : ∀ (t : Tr) (ok : Bool), foldT (stepN ks) t ok = (ok && noneB ks t)
  | .mk d n us, ok => by
    simp only [foldT, stepN, Tr.d, noneB]; rw [none_folds ks us, Bool.and_assoc]
    first | done | rfl | (congr 2)
theorem none_folds (ks : List (List UInt8)) : ∀ (l : List Tr) (ok : Bool), foldTs (stepN ks) l ok = (ok && noneBs ks l)
  | [], ok => by simp only [foldTs, noneBs, Bool.and_true]
  | t :: ts, ok => by simp only [foldTs, noneBs]; rw [none_fold ks t, none_folds ks ts, Bool.and_assoc]
end
def StN (b c : Nat) (ks : List (List UInt8)) (ok : Bool) (w : Nat) (τ : List Ent) : Prop :=
  c < τ.length ∧ w = c ∧ b < τ.length ∧ b ≠ c ∧ τ[c]? = some (.arr 4 [boolV ok] 0 0) ∧ τ[b]? = some (.arr 29 [.sl (strsV ks)] 0 0)
theorem stN_push {b c w : Nat} {ks : List (List UInt8)} {ok : Bool} {τ : List Ent} (h : StN b c ks ok w τ) (l : List Ent) : StN b c ks ok w (τ ++ l) := by
  obtain ⟨h1, h2, h3, h4, h5, h6⟩ := h
  exact ⟨by rw [List.length_append]; omega, h2, by rw [List.length_append]; omega, h4, get_olds h5 l, get_olds h6 l⟩
set_option maxHeartbeats 4000000 in
theorem none1_ok (b c : Nat) (ks : List (List UInt8)) (hk : ks.length ≤ 100) : StepF c (StN b c ks) (stepN ks) okT 105 [.ref c 0 0, .ref b 0 0] := by
  intro ok w u τ hP hst
  have hst0 := hst
  obtain ⟨h1, rfl, h3, h4, h5, h6⟩ := hst
  have gc : ∀ r, sget τ r w = some (.arr 4 [boolV ok] 0 0) := fun r => by unfold sget; rw [if_pos h1, h5]
  have gb : ∀ r, sget τ r b = some (.arr 29 [.sl (strsV ks)] 0 0) := fun r => by unfold sget; rw [if_pos h3, h6]
  have sG0 : ∀ e, ssetG τ w e = τ.set w e := fun e => by unfold ssetG; rw [if_pos h1]
  have sL0 : ∀ e l, ssetL τ l w e = l := fun e l => by unfold ssetL; rw [if_pos h1]
  refine xacalls T0 .stay [] Tryz.func105 rfl (by kernel_rfl) (by kernel_rfl) (by simp [Tryz.ntmps105]) ?_
  have fin : ∀ (v : Bool) (x : Ent), StN b w ks v w (τ.set w (.arr 4 [boolV v] 0 0) ++ [x]) ∧ Mv w w τ (τ.set w (.arr 4 [boolV v] 0 0) ++ [x]) w := fun v x => by
    refine ⟨stN_push ⟨by simpa using h1, rfl, by simpa using h3, h4, by rw [get_set_self h5], by rw [get_set_ne (Ne.symm h4)]; exact h6⟩ _, .inl rfl, by simp, fun id q1 q2 q3 => ?_⟩
    rw [List.getElem?_append_left (by simpa using q1), get_set_ne (Ne.symm q2)]
  rcases u with ⟨d, n, us⟩
  simp only [stepN, Tr.d]
  have hco := fun σ' => slicesContains_ok ks d σ' (by omega)
  cases ok
  · (simp only [tyV, gc, sG0, sL0, (vmA), Nat.reduceEqDiff, reduceIte, Nat.reduceAdd, Int.reduceToNat, Int.reduceLE, Int.reduceLT, Int.reduceEq, Int.reduceNe, Int.reduceAdd, Int.reduceSub, Int.reduceNeg, Nat.reduceLT, Nat.reduceLeDiff, Nat.reduceBEq, undef, (stA), Nat.reduceMul]; try simp (disch := omega) only [(vmp)])
    exact ⟨w, fin _ _⟩
  · (simp only [tyV, gc, gb, sG0, sL0, (vmA), Nat.reduceEqDiff, reduceIte, Nat.reduceAdd, Int.reduceToNat, Int.reduceLE, Int.reduceLT, Int.reduceEq, Int.reduceNe, Int.reduceAdd, Int.reduceSub, Int.reduceNeg, Nat.reduceLT, Nat.reduceLeDiff, Nat.reduceBEq, undef, (stA), Nat.reduceMul]; try simp (disch := omega) only [(vmp)])
    refine xWait.go (hco _) ?_
    (simp only [gc, gb, sG0, sL0, (vmA), Nat.reduceEqDiff, reduceIte, Nat.reduceAdd, Int.reduceToNat, Int.reduceLE, Int.reduceLT, Int.reduceEq, Int.reduceNe, Int.reduceAdd, Int.reduceSub, Int.reduceNeg, Nat.reduceLT, Nat.reduceLeDiff, Nat.reduceBEq, undef, (stA), Nat.reduceMul]; try simp (disch := omega) only [(vmp)])
    exact ⟨w, fin _ _⟩
set_option maxHeartbeats 4000000 in
theorem none_ok (ks : List (List UInt8)) (hk : ks.length ≤ 100) (t : Tr) (hl : lenT t) (σ : List Ent) : ACalls E 75 [tyV t, .sl (strsV ks)] σ fun r τ => r = (if validT conB t = true then .tup [boolV (noneB ks t), i64 0] else .tup [boolV false, i64 40]) ∧ τ = σ := by
  refine xacalls T0 .drop [] Tryz.func75 rfl (by kernel_rfl) (by kernel_rfl) (by simp [Tryz.ntmps75]) ?_
  have c1 := fun σ' => ValidType_ok t hl σ'
  cases hv : validT conB t
  · simp only [Bool.false_eq_true, if_false]
    rcases t with ⟨d, n, us⟩
    simp only [tyV, hv] at c1
    (simp only [tyV, (vmA), Nat.reduceEqDiff, reduceIte, Nat.reduceAdd, Int.reduceToNat, Int.reduceLE, Int.reduceLT, Int.reduceEq, Int.reduceNe, Int.reduceAdd, Int.reduceSub, Int.reduceNeg, Nat.reduceLT, Nat.reduceLeDiff, Nat.reduceBEq, undef, (stA), Nat.reduceMul]; try simp (disch := omega) only [(vmp)])
    refine xWait.go (c1 _) ?_
    (simp only [(vmA), Nat.reduceEqDiff, reduceIte, Nat.reduceAdd, Int.reduceToNat, Int.reduceLE, Int.reduceLT, Int.reduceEq, Int.reduceNe, Int.reduceAdd, Int.reduceSub, Int.reduceNeg, Nat.reduceLT, Nat.reduceLeDiff, Nat.reduceBEq, undef, (stA), Nat.reduceMul]; try simp (disch := omega) only [(vmp)])
  · simp only [if_true]
    have he := each_ok (σ.length + 2) 105 [.ref (σ.length + 2) 0 0, .ref (σ.length + 1) 0 0] (StN (σ.length + 1) (σ.length + 2) ks) (stepN ks) (fun a w τ l h => stN_push h l) (fun a w τ h => ⟨h.1, by have := h.2.1; have := h.1; omega⟩) okT (none1_ok _ _ ks hk) okT_down _ t (Nat.le_refl _) ⟨hl, valid_typ hv⟩
    have hh := he true (σ.length + 2) (σ ++ [.arr 24 (tyV t).cells 0 0, .arr 29 [.sl (strsV ks)] 0 0, .arr 4 [boolV true] 0 0])
      ⟨by simp, rfl, by simp, by omega, by rw [List.getElem?_append_right (by omega), Nat.add_sub_cancel_left]; rfl, by rw [List.getElem?_append_right (by omega), Nat.add_sub_cancel_left]; rfl⟩
    rw [none_fold, Bool.true_and] at hh
    generalize noneB ks t = B at *
    rcases t with ⟨d, n, us⟩
    simp only [tyV, AV.cells] at hh
    simp only [tyV, hv] at c1
    (simp only [tyV, (vmA), Nat.reduceEqDiff, reduceIte, Nat.reduceAdd, Int.reduceToNat, Int.reduceLE, Int.reduceLT, Int.reduceEq, Int.reduceNe, Int.reduceAdd, Int.reduceSub, Int.reduceNeg, Nat.reduceLT, Nat.reduceLeDiff, Nat.reduceBEq, undef, (stA), Nat.reduceMul]; try simp (disch := omega) only [(vmp)])
    refine xWait.go (c1 _) ?_
    (simp only [(vmA), Nat.reduceEqDiff, reduceIte, Nat.reduceAdd, Int.reduceToNat, Int.reduceLE, Int.reduceLT, Int.reduceEq, Int.reduceNe, Int.reduceAdd, Int.reduceSub, Int.reduceNeg, Nat.reduceLT, Nat.reduceLeDiff, Nat.reduceBEq, undef, (stA), Nat.reduceMul]; try simp (disch := omega) only [(vmp)])
    refine xWait.of hh ?_
    rintro r τ1 ⟨rfl, w, h1, h2⟩
    obtain ⟨a1, a2, a3, a4, a5, a6⟩ := h1
    have hG : List.take σ.length τ1 = σ := by
      apply List.ext_getElem?
      intro i
      rw [List.getElem?_take]
      by_cases hi : i < σ.length
      · rw [if_pos hi, h2.old i (by simp; omega) (by omega) (by omega), List.getElem?_append_left hi]
      · rw [if_neg hi, List.getElem?_eq_none (by omega)]
    generalize hL : List.drop σ.length τ1 = L
    have hGL : τ1 = σ ++ L := by rw [← hL]; exact (List.take_append_drop σ.length τ1).symm.trans (by rw [hG])
    subst hGL
    clear hG hL
    have hcell : L[2]? = some (.arr 4 [boolV B] 0 0) := by
      rw [List.getElem?_append_right (by omega), Nat.add_sub_cancel_left] at a5; exact a5
    rw [List.take_left]
    have gs : sget σ L (σ.length + 2) = some (.arr 4 [boolV B] 0 0) := by rw [sget_l]; exact hcell
    (simp only [gs, (vmA), Nat.reduceEqDiff, reduceIte, Nat.reduceAdd, Int.reduceToNat, Int.reduceLE, Int.reduceLT, Int.reduceEq, Int.reduceNe, Int.reduceAdd, Int.reduceSub, Int.reduceNeg, Nat.reduceLT, Nat.reduceLeDiff, Nat.reduceBEq, undef, (stA), Nat.reduceMul]; try simp (disch := omega) only [(vmp)])
theorem Closed_ok (t : Tr) (hl : lenT t) (σ : List Ent) : ACalls E 35 [tyV t] σ fun r τ => r = (if validT conB t = true then .tup [boolV (noneB [kiVar] t), i64 0] else .tup [boolV false, i64 40]) ∧ τ = σ := by
  refine xacalls T0 .drop [] Tryz.func35 rfl (by kernel_rfl) (by kernel_rfl) (by simp [Tryz.ntmps35]) ?_
  have c1 := fun σ' => none_ok [kiVar] (by simp) t hl σ'
  have e : ∀ b : Bool, (if b = true then AV.tup [boolV (noneB [kiVar] t), i64 0] else .tup [boolV false, i64 40]) = .tup [boolV (b && noneB [kiVar] t), i64 (if b = true then 0 else 40)] := fun b => by cases b <;> rfl
  rw [e] at c1 ⊢
  rcases t with ⟨d, n, us⟩
  simp only [tyV, strsV, List.map_cons, List.map_nil, kiVar] at c1
  (simp only [tyV, (vmA), Nat.reduceEqDiff, reduceIte, Nat.reduceAdd, Int.reduceToNat, Int.reduceLE, Int.reduceLT, Int.reduceEq, Int.reduceNe, Int.reduceAdd, Int.reduceSub, Int.reduceNeg, Nat.reduceLT, Nat.reduceLeDiff, Nat.reduceBEq, undef, (stA), Nat.reduceMul]; try simp (disch := omega) only [(vmp)])
  refine xWait.go (c1 _) ?_
  (simp only [(vmA), Nat.reduceEqDiff, reduceIte, Nat.reduceAdd, Int.reduceToNat, Int.reduceLE, Int.reduceLT, Int.reduceEq, Int.reduceNe, Int.reduceAdd, Int.reduceSub, Int.reduceNeg, Nat.reduceLT, Nat.reduceLeDiff, Nat.reduceBEq, undef, (stA), Nat.reduceMul]; try simp (disch := omega) only [(vmp)])
theorem Plain_ok (t : Tr) (hl : lenT t) (σ : List Ent) : ACalls E 37 [tyV t] σ fun r τ => r = (if validT conB t = true then .tup [boolV (noneB kPlain t), i64 0] else .tup [boolV false, i64 40]) ∧ τ = σ := by
  refine xacalls T0 .drop [] Tryz.func37 rfl (by kernel_rfl) (by kernel_rfl) (by simp [Tryz.ntmps37]) ?_
  have c1 := fun σ' => none_ok kPlain (by simp [kPlain]) t hl σ'
  have e : ∀ b : Bool, (if b = true then AV.tup [boolV (noneB kPlain t), i64 0] else .tup [boolV false, i64 40]) = .tup [boolV (b && noneB kPlain t), i64 (if b = true then 0 else 40)] := fun b => by cases b <;> rfl
  rw [e] at c1 ⊢
  generalize noneB kPlain t = B at *
  rcases t with ⟨d, n, us⟩
  simp only [tyV, strsV, kPlain, List.map_cons, List.map_nil, kiVar, kiFn, kiArray] at c1
  (simp only [tyV, (vmA), Nat.reduceEqDiff, reduceIte, Nat.reduceAdd, Int.reduceToNat, Int.reduceLE, Int.reduceLT, Int.reduceEq, Int.reduceNe, Int.reduceAdd, Int.reduceSub, Int.reduceNeg, Nat.reduceLT, Nat.reduceLeDiff, Nat.reduceBEq, undef, (stA), Nat.reduceMul]; try simp (disch := omega) only [(vmp)])
  refine xWait.go (c1 _) ?_
  (simp only [(vmA), Nat.reduceEqDiff, reduceIte, Nat.reduceAdd, Int.reduceToNat, Int.reduceLE, Int.reduceLT, Int.reduceEq, Int.reduceNe, Int.reduceAdd, Int.reduceSub, Int.reduceNeg, Nat.reduceLT, Nat.reduceLeDiff, Nat.reduceBEq, undef, (stA), Nat.reduceMul]; try simp (disch := omega) only [(vmp)])
theorem Depth_ok (t : Tr) (hl : lenT t) (σ : List Ent) : ACalls E 32 [tyV t] σ fun r τ => r = (if validT conB t = true then .tup [i64 (ofT t).2, i64 0] else .tup [i64 0, i64 40]) ∧ τ = σ := by
  refine xacalls T0 .drop [] Tryz.func32 rfl (by kernel_rfl) (by kernel_rfl) (by simp [Tryz.ntmps32]) ?_
  have c1 := fun σ' => ValidType_ok t hl σ'
  have c2 := fun σ' ho => OfType_ok _ t (Nat.le_refl _) σ' ho
  cases hv : validT conB t
  · simp only [Bool.false_eq_true, if_false]
    rcases t with ⟨d, n, us⟩
    simp only [tyV, hv] at c1
    (simp only [tyV, (vmA), Nat.reduceEqDiff, reduceIte, Nat.reduceAdd, Int.reduceToNat, Int.reduceLE, Int.reduceLT, Int.reduceEq, Int.reduceNe, Int.reduceAdd, Int.reduceSub, Int.reduceNeg, Nat.reduceLT, Nat.reduceLeDiff, Nat.reduceBEq, undef, (stA), Nat.reduceMul]; try simp (disch := omega) only [(vmp)])
    refine xWait.go (c1 _) ?_
    (simp only [(vmA), Nat.reduceEqDiff, reduceIte, Nat.reduceAdd, Int.reduceToNat, Int.reduceLE, Int.reduceLT, Int.reduceEq, Int.reduceNe, Int.reduceAdd, Int.reduceSub, Int.reduceNeg, Nat.reduceLT, Nat.reduceLeDiff, Nat.reduceBEq, undef, (stA), Nat.reduceMul]; try simp (disch := omega) only [(vmp)])
  · have c3 := fun σ' => c2 σ' ⟨hl, valid_typ hv⟩
    generalize ofT t = z at *
    simp only [if_true]
    rcases t with ⟨d, n, us⟩
    simp only [tyV, hv, szV] at c1 c3
    (simp only [tyV, (vmA), Nat.reduceEqDiff, reduceIte, Nat.reduceAdd, Int.reduceToNat, Int.reduceLE, Int.reduceLT, Int.reduceEq, Int.reduceNe, Int.reduceAdd, Int.reduceSub, Int.reduceNeg, Nat.reduceLT, Nat.reduceLeDiff, Nat.reduceBEq, undef, (stA), Nat.reduceMul]; try simp (disch := omega) only [(vmp)])
    refine xWait.go (c1 _) ?_
    (simp only [(vmA), Nat.reduceEqDiff, reduceIte, Nat.reduceAdd, Int.reduceToNat, Int.reduceLE, Int.reduceLT, Int.reduceEq, Int.reduceNe, Int.reduceAdd, Int.reduceSub, Int.reduceNeg, Nat.reduceLT, Nat.reduceLeDiff, Nat.reduceBEq, undef, (stA), Nat.reduceMul]; try simp (disch := omega) only [(vmp)])
    refine xWait.go (c3 _) ?_
    (simp only [(vmA), Nat.reduceEqDiff, reduceIte, Nat.reduceAdd, Int.reduceToNat, Int.reduceLE, Int.reduceLT, Int.reduceEq, Int.reduceNe, Int.reduceAdd, Int.reduceSub, Int.reduceNeg, Nat.reduceLT, Nat.reduceLeDiff, Nat.reduceBEq, undef, (stA), Nat.reduceMul]; try simp (disch := omega) only [(vmp)])

/-! ### The datatypes -/
def StepB (c : Nat) (St : List (List UInt8) → Nat → List Ent → Prop) (step : List (List UInt8) → Tr → List (List UInt8)) (P : Tr → Prop) (f : FuncId) (caps : List AV) : Prop :=
  ∀ (a : List (List UInt8)) (w : Nat) (u : Tr) (τ : List Ent), P u → a.length < 2097152 → St a w τ → ACalls E f (tyV u :: caps) τ fun r τ' => r = .tup [] ∧ ∃ w', St (step a u) w' τ' ∧ Mv c w τ τ' w'
def ETB (c : Nat) (f : FuncId) (caps : List AV) (St : List (List UInt8) → Nat → List Ent → Prop) (step : List (List UInt8) → Tr → List (List UInt8)) (t : Tr) : Prop :=
  ∀ (a : List (List UInt8)) (w : Nat) (τ : List Ent), a.length + cntT t ≤ 2097152 → St a w τ → ACalls E 67 [tyV t, .fn f [] caps] τ fun r τ' => r = .tup [] ∧ ∃ w', St (foldT step t a) w' τ' ∧ Mv c w τ τ' w'
section
variable (step : List (List UInt8) → Tr → List (List UInt8)) (hstep : ∀ a u, (step a u).length ≤ a.length + 1)
include hstep
mutual
theorem foldT_len : ∀ (t : Tr) (a : List (List UInt8)), (foldT step t a).length ≤ a.length + cntT t
  | .mk d n us, a => by
    simp only [foldT, cntT]
    have := foldTs_len us (step a (.mk d n us))
    have := hstep a (.mk d n us)
    omega
theorem foldTs_len : ∀ (l : List Tr) (a : List (List UInt8)), (foldTs step l a).length ≤ a.length + cntTs l
  | [], a => by simp [foldTs]
  | t :: ts, a => by
    simp only [foldTs, cntTs]
    have := foldT_len t a
    have := foldTs_len ts (foldT step t a)
    omega
end
end
set_option maxHeartbeats 4000000 in
theorem each_stepB (c : Nat) (f : FuncId) (caps : List AV) (St : List (List UInt8) → Nat → List Ent → Prop) (step : List (List UInt8) → Tr → List (List UInt8)) (hstep : ∀ a u, (step a u).length ≤ a.length + 1) (hL : ∀ a w τ l, St a w τ → St a w (τ ++ l)) (hlt : ∀ a w τ, St a w τ → c < τ.length ∧ w < τ.length) (P : Tr → Prop)
    (hf : StepB c St step P f caps) (d n : List UInt8) (us : List Tr) (hus : us.length ≤ 2) (hP : P (.mk d n us)) (ih : ∀ u ∈ us, ETB c f caps St step u) : ETB c f caps St step (.mk d n us) := by
  intro a w τ hB ha
  simp only [cntT] at hB
  have hs1 := hstep a (.mk d n us)
  refine xacalls T0 .stay [] Tryz.func67 rfl (by kernel_rfl) (by kernel_rfl) (by simp [Tryz.ntmps67]) ?_
  (simp only [tyV, tysV_len, (vmA), Nat.reduceEqDiff, reduceIte, Nat.reduceAdd, Int.reduceToNat, Int.reduceLE, Int.reduceLT, Int.reduceEq, Int.reduceNe, Int.reduceAdd, Int.reduceSub, Int.reduceNeg, Nat.reduceLT, Nat.reduceLeDiff, Nat.reduceBEq, undef, (stA), Nat.reduceMul]; try simp (disch := omega) only [(vmp)])
  have hc := fun L => hf a w _ (τ ++ L) hP (by omega) (hL _ _ _ L ha)
  simp only [tyV] at hc
  refine xWait.of (hc _) ?_
  rintro r τ1 ⟨rfl, w1, h1, h2⟩
  obtain ⟨hc0, hw0⟩ := hlt _ _ _ ha
  have hbox : τ1[τ.length]? = some (.arr 24 [.str d, .str n, .sl (tysV us)] 0 0) := by
    rw [h2.old _ (by simp) (by omega) (by omega), List.getElem?_append_right (Nat.le_refl _), Nat.sub_self]; rfl
  have h3 := h2.push
  have hlen := h3.len
  generalize hG : List.take τ.length τ1 = G
  generalize hLL : List.drop τ.length τ1 = L
  have hGL : τ1 = G ++ L := by rw [← hG, ← hLL, List.take_append_drop]
  have hGn : τ.length = G.length := by rw [← hG, List.length_take]; omega
  subst hGL
  rw [hGn, List.getElem?_append_right (Nat.le_refl _), Nat.sub_self] at hbox
  rw [hGn]
  obtain ⟨L', rfl⟩ : ∃ L', L = .arr 24 [.str d, .str n, .sl (tysV us)] 0 0 :: L' := by
    cases L with
    | nil => cases hbox
    | cons x r => simp at hbox; exact ⟨r, by rw [hbox]⟩
  clear hG hLL
  (simp only [tysV_len, (vmA), Nat.reduceEqDiff, reduceIte, Nat.reduceAdd, Int.reduceToNat, Int.reduceLE, Int.reduceLT, Int.reduceEq, Int.reduceNe, Int.reduceAdd, Int.reduceSub, Int.reduceNeg, Nat.reduceLT, Nat.reduceLeDiff, Nat.reduceBEq, undef, (stA), Nat.reduceMul]; try simp (disch := omega) only [(vmp)])
  have hst : foldT step (.mk d n us) a = foldTs step us (step a (.mk d n us)) := by simp only [foldT]
  rw [hst]
  generalize step a (.mk d n us) = a1 at *
  refine xloop (α := Nat × Nat × List Ent × List Ent) T0 (fun x => [(1, .fn f [] caps), (10, .sl (tysV us)), (11, i64 us.length), (12, i64 x.1)]) (fun x => x.2.2.1) (fun x => x.2.2.2)
    (fun x => x.1 ≤ us.length ∧ St (foldTs step (us.take x.1) a1) x.2.1 (x.2.2.1 ++ x.2.2.2) ∧ Mv c w τ (x.2.2.1 ++ x.2.2.2) x.2.1 ∧ τ.length = x.2.2.1.length) (fun x => us.length - x.1) (by kernel_rfl)
    ⟨(0, w1, G, _), ⟨by simp, by simpa only [List.take_zero, foldTs] using h1, h3, hGn⟩, by (simp only [(vmA), Nat.reduceEqDiff, reduceIte, Nat.reduceAdd, Int.reduceToNat, Int.reduceLE, Int.reduceLT, Int.reduceEq, Int.reduceNe, Int.reduceAdd, Int.reduceSub, Int.reduceNeg, Nat.reduceLT, Nat.reduceLeDiff, Nat.reduceBEq, undef, (stA), Nat.reduceMul, Int.natCast_zero]; try simp (disch := omega) only [(vmp)]), rfl, rfl⟩ ?_
  clear h1 h2 h3 hlen hbox hGn hc ha
  rintro ⟨i, wi, G, L⟩ ⟨hi, h1, h3, hGn⟩
  simp only at hi h1 h3 hGn
  by_cases h : (i : Int) < us.length
  · have hi' : i < us.length := by omega
    have hu : us[i]? = some us[i] := List.getElem?_eq_getElem hi'
    have s1 : us.take (i + 1) = us.take i ++ [us[i]] := by rw [List.take_add_one, hu]; rfl
    have hmem : us[i] ∈ us := List.getElem_mem hi'
    obtain ⟨_, s2⟩ := take_splitC us i _ hu
    generalize us[i] = u at *
    have hcs : cntTs (us.take i) + cntT u ≤ cntTs us := by
      have : cntTs us = cntTs (us.take i ++ u :: us.drop (i + 1)) := by rw [← s2]
      rw [this, cntTs_app2]; simp only [cntTs]; omega
    have hfl := foldTs_len step hstep (us.take i) a1
    have hg := tysV_get hu
    have hc := fun l => ih u hmem _ wi (G ++ L ++ l) (by omega) (hL _ _ _ l h1)
    cases u with
    | mk d2 n2 us2 =>
    simp only [tyV] at hg hc
    (simp only [h, hg, tysV_len, (vmA), Nat.reduceEqDiff, reduceIte, Nat.reduceAdd, Int.reduceToNat, Int.reduceLE, Int.reduceLT, Int.reduceEq, Int.reduceNe, Int.reduceAdd, Int.reduceSub, Int.reduceNeg, Nat.reduceLT, Nat.reduceLeDiff, Nat.reduceBEq, undef, (stA), Nat.reduceMul]; try simp (disch := omega) only [(vmp)])
    rw [← List.append_assoc]
    refine xWait.of (hc _) ?_
    rintro r τ1 ⟨rfl, w2, q1, q2⟩
    have q3 := h3.trans q2.push
    have hlen := q3.len
    generalize hG1 : List.take G.length τ1 = G1
    generalize hL1 : List.drop G.length τ1 = L1
    have hGL : τ1 = G1 ++ L1 := by rw [← hG1, ← hL1, List.take_append_drop]
    have hGn1 : τ.length = G1.length := by rw [← hG1, List.length_take]; omega
    subst hGL
    (simp only [(vmA), Nat.reduceEqDiff, reduceIte, Nat.reduceAdd, Int.reduceToNat, Int.reduceLE, Int.reduceLT, Int.reduceEq, Int.reduceNe, Int.reduceAdd, Int.reduceSub, Int.reduceNeg, Nat.reduceLT, Nat.reduceLeDiff, Nat.reduceBEq, undef, (stA), Nat.reduceMul]; try simp (disch := omega) only [(vmp)])
    refine ⟨(i + 1, w2, G1, L1), ⟨by simp only; omega, ?_, q3, hGn1⟩, by simp only; omega, ?_, rfl, rfl⟩
    · simp only
      rw [s1, foldTs_app]; simpa only [foldTs] using q1
    · rfl
  · have hie : i = us.length := by omega
    subst hie
    rw [List.take_of_length_le (Nat.le_refl _)] at h1
    (simp only [h, (vmA), Nat.reduceEqDiff, reduceIte, Nat.reduceAdd, Int.reduceToNat, Int.reduceLE, Int.reduceLT, Int.reduceEq, Int.reduceNe, Int.reduceAdd, Int.reduceSub, Int.reduceNeg, Nat.reduceLT, Nat.reduceLeDiff, Nat.reduceBEq, undef, (stA), Nat.reduceMul]; try simp (disch := omega) only [(vmp)])
    exact ⟨wi, h1, h3⟩
theorem each_okB (c : Nat) (f : FuncId) (caps : List AV) (St : List (List UInt8) → Nat → List Ent → Prop) (step : List (List UInt8) → Tr → List (List UInt8)) (hstep : ∀ a u, (step a u).length ≤ a.length + 1) (hL : ∀ a w τ l, St a w τ → St a w (τ ++ l)) (hlt : ∀ a w τ, St a w τ → c < τ.length ∧ w < τ.length) (P : Tr → Prop)
    (hf : StepB c St step P f caps) (hdown : ∀ d n us, P (.mk d n us) → us.length ≤ 2 ∧ ∀ u ∈ us, P u) : ∀ (m : Nat) (t : Tr), SizeOf.sizeOf t ≤ m → P t → ETB c f caps St step t
  | 0, .mk d n us, h, _ => by simp at h
  | m + 1, .mk d n us, h, hP => each_stepB c f caps St step hstep hL hlt P hf d n us (hdown d n us hP).1 hP fun u hu => each_okB c f caps St step hstep hL hlt P hf hdown m u (by
      have := List.sizeOf_lt_of_mem hu
      simp at h; omega) ((hdown d n us hP).2 u hu)
def stepD (a : List (List UInt8)) (u : Tr) : List (List UInt8) := if u.d = kiData then a ++ [u.n] else a
theorem stepD_len (a : List (List UInt8)) (u : Tr) : (stepD a u).length ≤ a.length + 1 := by unfold stepD; split <;> simp
def StD (c : Nat) (acc : List (List UInt8)) (w : Nat) (τ : List Ent) : Prop :=
  c < τ.length ∧ w < τ.length ∧ τ[c]? = some (.arr 29 [rowN w acc] 0 0) ∧ (acc ≠ [] → w ≠ c ∧ τ[w]? = some (.arr 9 (strsV acc) (acc.length - 1) 0))
theorem stD_push {c w : Nat} {acc : List (List UInt8)} {τ : List Ent} (h : StD c acc w τ) (l : List Ent) : StD c acc w (τ ++ l) := by
  obtain ⟨h1, h2, h3, h4⟩ := h
  exact ⟨by rw [List.length_append]; omega, by rw [List.length_append]; omega, get_olds h3 l, fun hne => ⟨(h4 hne).1, get_olds (h4 hne).2 l⟩⟩
set_option maxHeartbeats 4000000 in
theorem datas1_ok (c : Nat) : StepB c (StD c) stepD okT 68 [.ref c 0 0] := by
  intro acc w u τ hP hfew hst
  obtain ⟨h1, h2, h3, h4⟩ := hst
  have gk : ∀ r, sget τ r c = some (.arr 29 [rowN w acc] 0 0) := fun r => by unfold sget; rw [if_pos h1, h3]
  have sG0 : ∀ e, ssetG τ c e = τ.set c e := fun e => by unfold ssetG; rw [if_pos h1]
  have sL0 : ∀ e l, ssetL τ l c e = l := fun e l => by unfold ssetL; rw [if_pos h1]
  refine xacalls T0 .stay [] Tryz.func68 rfl (by kernel_rfl) (by kernel_rfl) (by simp [Tryz.ntmps68]) ?_
  rcases u with ⟨d, n, us⟩
  simp only [stepD, Tr.d, Tr.n]
  by_cases hd : d = kiData
  rotate_left
  · have n1 : ¬ d = [100, 97, 116, 97] := hd
    (simp only [tyV, n1, (vmA), Nat.reduceEqDiff, reduceIte, Nat.reduceAdd, Int.reduceToNat, Int.reduceLE, Int.reduceLT, Int.reduceEq, Int.reduceNe, Int.reduceAdd, Int.reduceSub, Int.reduceNeg, Nat.reduceLT, Nat.reduceLeDiff, Nat.reduceBEq, undef, (stA), Nat.reduceMul]; try simp (disch := omega) only [(vmp)])
    try simp only [hd, if_false]
    exact ⟨w, stD_push ⟨h1, h2, h3, h4⟩ _, mv_push _ _ _ _⟩
  have t1 : (d = [100, 97, 116, 97]) = True := eq_true hd
  have hdk : (d = kiData) = True := eq_true hd
  rcases acc with _ | ⟨b0, r0⟩
  · (simp only [tyV, t1, gk, sG0, sL0, rowN, (vmA), Nat.reduceEqDiff, reduceIte, Nat.reduceAdd, Int.reduceToNat, Int.reduceLE, Int.reduceLT, Int.reduceEq, Int.reduceNe, Int.reduceAdd, Int.reduceSub, Int.reduceNeg, Nat.reduceLT, Nat.reduceLeDiff, Nat.reduceBEq, undef, (stA), Nat.reduceMul]; try simp (disch := omega) only [(vmp)])
    try simp only [hdk, if_true, List.nil_append]
    refine ⟨by unfold maxRoom; omega, τ.length + 1, ⟨by simp; omega, by simp, ?_, fun _ => ⟨by omega, ?_⟩⟩, .inr (by omega), by simp, fun id q1 q2 q3 => ?_⟩
    · rw [List.getElem?_append_left (by simpa using h1), get_set_self h3]; rfl
    · rw [List.getElem?_append_right (by simp)]; simp [strsV]
    · rw [List.getElem?_append_left (by simpa using q1), get_set_ne (Ne.symm q2)]
  · obtain ⟨hwc, hw⟩ := h4 (by simp)
    have gw : ∀ r, sget τ r w = some (.arr 9 (strsV (b0 :: r0)) ((b0 :: r0).length - 1) 0) := fun r => by unfold sget; rw [if_pos h2, hw]
    have sGw : ∀ e, ssetG τ w e = τ.set w e := fun e => by unfold ssetG; rw [if_pos h2]
    have sLw : ∀ e l, ssetL τ l w e = l := fun e l => by unfold ssetL; rw [if_pos h2]
    have gk2 : ∀ e, (τ.set w e)[c]? = some (.arr 29 [.rsl w r0.length 0 (r0.length + 1) 1] 0 0) := fun e => by rw [get_set_ne hwc, h3]; rfl
    have gk' : ∀ e r, sget (τ.set w e) r c = some (.arr 29 [.rsl w r0.length 0 (r0.length + 1) 1] 0 0) := fun e r => by
      unfold sget; rw [if_pos (by simpa using h1), get_set_ne hwc, h3]; rfl
    have sG' : ∀ e e', ssetG (τ.set w e) c e' = (τ.set w e).set c e' := fun e e' => by unfold ssetG; rw [if_pos (by simpa using h1)]
    have sL' : ∀ e e' l, ssetL (τ.set w e) l c e' = l := fun e e' l => by unfold ssetL; rw [if_pos (by simpa using h1)]
    simp only [List.length_cons] at hfew
    (simp only [tyV, t1, gk, gw, sG0, sL0, sGw, sLw, gk', sG', sL', rowN, strsV_len, (vmA), Nat.reduceEqDiff, reduceIte, Nat.reduceAdd, Int.reduceToNat, Int.reduceLE, Int.reduceLT, Int.reduceEq, Int.reduceNe, Int.reduceAdd, Int.reduceSub, Int.reduceNeg, Nat.reduceLT, Nat.reduceLeDiff, Nat.reduceBEq, undef, (stA), Nat.reduceMul]; try simp (disch := omega) only [(vmp)])
    try simp only [hdk, if_true]
    refine ⟨⟨by omega, by unfold maxRoom; omega, by unfold maxRoom; omega⟩, w, ⟨by simp; omega, by simp; omega, ?_, fun _ => ⟨hwc, ?_⟩⟩, .inl rfl, by simp, fun id q1 q2 q3 => ?_⟩
    · rw [List.getElem?_append_left (by simpa using h1), get_set_self (gk2 _)]; simp [rowN]
    · rw [List.getElem?_append_left (by simpa using h2), get_set_ne (Ne.symm hwc), get_set_self hw]; simp [strsV]
    · rw [List.getElem?_append_left (by simpa using q1), get_set_ne (Ne.symm q2), get_set_ne (Ne.symm q3)]
end Go.D

/- The canonical type, by the document. -/
set_option linter.unusedVariables false
set_option linter.unusedSimpArgs false
set_option linter.unnecessarySimpa false
set_option maxRecDepth 100000
namespace Go.D
open Go Go.Vm Go.Proofs Go.RowKit

def rowE (acc : List (List UInt8)) : Ent := .arr 9 (strsV acc) (acc.length - 1) 0
set_option maxHeartbeats 4000000 in
theorem HasR_ok (acc : List (List UInt8)) (x : List UInt8) (σ : List Ent) (id : Nat) (hl : acc.length ≤ 1000) (h : acc ≠ [] → σ[id]? = some (rowE acc)) :
    ACalls E 129 [rowN id acc, .str x] σ fun r τ => r = boolV (decide (x ∈ acc)) ∧ τ = σ := by
  refine xacalls T0 .drop [] Tryz.func129 rfl (by kernel_rfl) (by kernel_rfl) (by simp [Tryz.ntmps129]) ?_
  rcases acc with _ | ⟨a0, ar⟩
  · (simp only [rowN, (vmA), Nat.reduceEqDiff, reduceIte, Nat.reduceAdd, Int.reduceToNat, Int.reduceLE, Int.reduceLT, Int.reduceEq, Int.reduceNe, Int.reduceAdd, Int.reduceSub, Int.reduceNeg, Nat.reduceLT, Nat.reduceLeDiff, Nat.reduceBEq, undef, (stA), Nat.reduceMul]; try simp (disch := omega) only [(vmp)])
    refine xloop (α := Nat) T0 (fun i => [(8, i64 0), (9, i64 0)]) (fun _ => σ) (fun _ => []) (fun i => i = 0) (fun i => i) (by kernel_rfl) ⟨0, rfl, by (simp only [(vmA), Nat.reduceEqDiff, reduceIte, Nat.reduceAdd, Int.reduceToNat, Int.reduceLE, Int.reduceLT, Int.reduceEq, Int.reduceNe, Int.reduceAdd, Int.reduceSub, Int.reduceNeg, Nat.reduceLT, Nat.reduceLeDiff, Nat.reduceBEq, undef, (stA), Nat.reduceMul]; try simp (disch := omega) only [(vmp)]), rfl, rfl⟩ ?_
    rintro i hi
    (simp only [List.not_mem_nil, decide_false, (vmA), Nat.reduceEqDiff, reduceIte, Nat.reduceAdd, Int.reduceToNat, Int.reduceLE, Int.reduceLT, Int.reduceEq, Int.reduceNe, Int.reduceAdd, Int.reduceSub, Int.reduceNeg, Nat.reduceLT, Nat.reduceLeDiff, Nat.reduceBEq, undef, (stA), Nat.reduceMul]; try simp (disch := omega) only [(vmp)])
  · have hw := h (by simp)
    simp only [List.length_cons] at hl
    have hid : id < σ.length := (List.getElem?_eq_some_iff.1 hw).1
    have gw : ∀ r, sget σ r id = some (.arr 9 (strsV (a0 :: ar)) ar.length 0) := fun r => by unfold sget; rw [if_pos hid, hw]; rfl
    (simp only [rowN, (vmA), Nat.reduceEqDiff, reduceIte, Nat.reduceAdd, Int.reduceToNat, Int.reduceLE, Int.reduceLT, Int.reduceEq, Int.reduceNe, Int.reduceAdd, Int.reduceSub, Int.reduceNeg, Nat.reduceLT, Nat.reduceLeDiff, Nat.reduceBEq, undef, (stA), Nat.reduceMul]; try simp (disch := omega) only [(vmp)])
    refine xloop (α := Nat) T0 (fun i => [(1, .str x), (7, .rsl id ar.length 0 (ar.length + 1) 1), (8, i64 (ar.length + 1 : Nat)), (9, i64 i)]) (fun _ => σ) (fun _ => []) (fun i => i ≤ ar.length + 1 ∧ x ∉ (a0 :: ar).take i) (fun i => ar.length + 1 - i) (by kernel_rfl)
      ⟨0, ⟨by omega, by simp⟩, by (simp only [(vmA), Nat.reduceEqDiff, reduceIte, Nat.reduceAdd, Int.reduceToNat, Int.reduceLE, Int.reduceLT, Int.reduceEq, Int.reduceNe, Int.reduceAdd, Int.reduceSub, Int.reduceNeg, Nat.reduceLT, Nat.reduceLeDiff, Nat.reduceBEq, undef, (stA), Nat.reduceMul, Int.natCast_zero]; try simp (disch := omega) only [(vmp)]), rfl, rfl⟩ ?_
    rintro i ⟨hi, hno⟩
    by_cases h : (i : Int) < (ar.length + 1 : Nat)
    · have hi' : i < (a0 :: ar).length := by simp only [List.length_cons]; omega
      have hu : (a0 :: ar)[i]? = some (a0 :: ar)[i] := List.getElem?_eq_getElem hi'
      have hst : (strsV (a0 :: ar))[i]? = some (.str (a0 :: ar)[i]) := strsV_get hi'
      obtain ⟨s1, s2⟩ := take_splitC (a0 :: ar) i _ hu
      have hmm := List.getElem_mem hi'
      generalize (a0 :: ar)[i] = u at *
      by_cases he : x = u
      · subst he
        (simp only [h, gw, hst, decide_eq_true hmm, (vmA), Nat.reduceEqDiff, reduceIte, Nat.reduceAdd, Int.reduceToNat, Int.reduceLE, Int.reduceLT, Int.reduceEq, Int.reduceNe, Int.reduceAdd, Int.reduceSub, Int.reduceNeg, Nat.reduceLT, Nat.reduceLeDiff, Nat.reduceBEq, undef, (stA), Nat.reduceMul]; try simp (disch := omega) only [(vmp)])
      · (simp only [h, gw, hst, he, (vmA), Nat.reduceEqDiff, reduceIte, Nat.reduceAdd, Int.reduceToNat, Int.reduceLE, Int.reduceLT, Int.reduceEq, Int.reduceNe, Int.reduceAdd, Int.reduceSub, Int.reduceNeg, Nat.reduceLT, Nat.reduceLeDiff, Nat.reduceBEq, undef, (stA), Nat.reduceMul]; try simp (disch := omega) only [(vmp)])
        exact ⟨i + 1, ⟨by omega, by rw [s1, List.mem_append, List.mem_singleton]; exact fun hh => hh.elim hno he⟩, by omega, rfl⟩
    · have hie : i = ar.length + 1 := by omega
      subst hie
      rw [show (a0 :: ar).take (ar.length + 1) = a0 :: ar from List.take_of_length_le (by simp)] at hno
      (simp only [h, decide_eq_false hno, (vmA), Nat.reduceEqDiff, reduceIte, Nat.reduceAdd, Int.reduceToNat, Int.reduceLE, Int.reduceLT, Int.reduceEq, Int.reduceNe, Int.reduceAdd, Int.reduceSub, Int.reduceNeg, Nat.reduceLT, Nat.reduceLeDiff, Nat.reduceBEq, undef, (stA), Nat.reduceMul]; try simp (disch := omega) only [(vmp)])
def ordOK (b w : Nat) (A : List (List UInt8)) (σ τ : List Ent) : Prop := (A ≠ [] → b ≤ w ∧ τ[w]? = some (rowE A)) ∧ σ.length ≤ τ.length ∧ ∀ j, j < b → τ[j]? = σ[j]?
def OR (t : Tr) : Prop := ∀ (acc : List (List UInt8)) (b id : Nat) (σ : List Ent), okT t → acc.Nodup → (∀ n ∈ acc, varB n = true) → b ≤ σ.length → (acc ≠ [] → b ≤ id ∧ σ[id]? = some (rowE acc)) →
  ACalls E 104 [tyV t, rowN id acc] σ fun r τ => ∃ w, r = rowN w (ordT t acc) ∧ ordOK b w (ordT t acc) σ τ
theorem ordTs_snoc (l : List Tr) (t : Tr) (acc : List (List UInt8)) : ordTs (l ++ [t]) acc = ordT t (ordTs l acc) := by
  rw [ordTs_fold, ordT_fold, ordTs_fold, foldTs_app]; rfl
theorem typeBs_take {l : List Tr} (h : typeBs conB l = true) (i : Nat) : typeBs conB (l.take i) = true := by
  have : typeBs conB (l.take i ++ l.drop i) = true := by rw [List.take_append_drop]; exact h
  rw [typeBs_app, Bool.and_eq_true] at this; exact this.1
set_option maxHeartbeats 8000000 in
theorem orderR_step (d n : List UInt8) (us : List Tr) (ih : ∀ u ∈ us, OR u) : OR (.mk d n us) := by
  intro acc b id σ ho hnd hvb hb hrow
  obtain ⟨hfew, hdn⟩ := okT_down d n us ho
  have hty : typeBs conB us = true := by have := ho.2; simp only [typeB, Bool.and_eq_true] at this; exact this.2.2.2.2
  have hfa := vars_few hnd hvb
  refine xacalls T0 .stay [] Tryz.func104 rfl (by kernel_rfl) (by kernel_rfl) (by simp [Tryz.ntmps104]) ?_
  by_cases hc : d = kiVar ∧ n ∉ acc
  · obtain ⟨hd, hn⟩ := hc
    have hdk : (d = kiVar) = True := eq_true hd
    have t1 : (d = [118, 97, 114]) = True := eq_true hd
    have hus : us = [] := by have := ho.2; rw [hd] at this; exact (vT_args this).1
    subst hus
    have hor : ordT (.mk d n []) acc = acc ++ [n] := by simp only [ordT, ordTs, hdk, hn, not_false_eq_true, and_self, if_true]
    rw [hor]
    have hha := fun l => HasR_ok acc n (σ ++ l) id (by omega) (fun hne => get_olds (hrow hne).2 l)
    rw [decide_eq_false hn] at hha
    (simp only [tyV, t1, (vmA), Nat.reduceEqDiff, reduceIte, Nat.reduceAdd, Int.reduceToNat, Int.reduceLE, Int.reduceLT, Int.reduceEq, Int.reduceNe, Int.reduceAdd, Int.reduceSub, Int.reduceNeg, Nat.reduceLT, Nat.reduceLeDiff, Nat.reduceBEq, undef, (stA), Nat.reduceMul]; try simp (disch := omega) only [(vmp)])
    refine xWait.go (hha _) ?_
    rcases acc with _ | ⟨b0, r0⟩
    · (simp only [rowN, (vmA), Nat.reduceEqDiff, reduceIte, Nat.reduceAdd, Int.reduceToNat, Int.reduceLE, Int.reduceLT, Int.reduceEq, Int.reduceNe, Int.reduceAdd, Int.reduceSub, Int.reduceNeg, Nat.reduceLT, Nat.reduceLeDiff, Nat.reduceBEq, undef, (stA), Nat.reduceMul]; try simp (disch := omega) only [(vmp)])
      refine ⟨by unfold maxRoom; omega, σ.length + 1, rfl, fun _ => ⟨by omega, ?_⟩, by simp, fun j hj => ?_⟩
      · rw [List.getElem?_append_right (by omega), Nat.add_sub_cancel_left]; rfl
      · rw [List.getElem?_append_left (by omega)]
    · obtain ⟨hbi, hw⟩ := hrow (by simp)
      have hid : id < σ.length := (List.getElem?_eq_some_iff.1 hw).1
      have gw : ∀ r, sget σ r id = some (.arr 9 (strsV (b0 :: r0)) r0.length 0) := fun r => by unfold sget; rw [if_pos hid, hw]; rfl
      have sGw : ∀ e, ssetG σ id e = σ.set id e := fun e => by unfold ssetG; rw [if_pos hid]
      have sLw : ∀ e l, ssetL σ l id e = l := fun e l => by unfold ssetL; rw [if_pos hid]
      simp only [List.length_cons] at hfa
      (simp only [gw, sGw, sLw, rowN, strsV_len, (vmA), Nat.reduceEqDiff, reduceIte, Nat.reduceAdd, Int.reduceToNat, Int.reduceLE, Int.reduceLT, Int.reduceEq, Int.reduceNe, Int.reduceAdd, Int.reduceSub, Int.reduceNeg, Nat.reduceLT, Nat.reduceLeDiff, Nat.reduceBEq, undef, (stA), Nat.reduceMul]; try simp (disch := omega) only [(vmp)])
      refine ⟨⟨by unfold maxRoom; omega, by unfold maxRoom; omega⟩, id, ?_, fun _ => ⟨hbi, ?_⟩, by simp, fun j hj => ?_⟩
      · simp only [rowN, List.cons_append, List.length_append, List.length_cons, List.length_nil]
      · rw [List.getElem?_append_left (by simpa using hid), get_set_self hw]; simp [rowE, strsV]
      · rw [List.getElem?_append_left (by simp; omega), get_set_ne (by omega)]
  · have hor : ordT (.mk d n us) acc = ordTs us acc := by simp only [ordT, hc, if_false]
    rw [hor]
    have hor2 : (d = kiVar ∧ n ∈ acc) ∨ ¬ d = kiVar := by
      by_cases hd : d = kiVar
      · exact .inl ⟨hd, Classical.byContradiction fun hn => hc ⟨hd, hn⟩⟩
      · exact .inr hd
    rcases hor2 with ⟨hd, hn⟩ | hd
    rotate_left
    have n1 : ¬ d = [118, 97, 114] := hd
    (simp only [tyV, n1, tysV_len, (vmA), Nat.reduceEqDiff, reduceIte, Nat.reduceAdd, Int.reduceToNat, Int.reduceLE, Int.reduceLT, Int.reduceEq, Int.reduceNe, Int.reduceAdd, Int.reduceSub, Int.reduceNeg, Nat.reduceLT, Nat.reduceLeDiff, Nat.reduceBEq, undef, (stA), Nat.reduceMul]; try simp (disch := omega) only [(vmp)])
    rotate_left
    have t1 : (d = [118, 97, 114]) = True := eq_true hd
    have hha := fun l => HasR_ok acc n (σ ++ l) id (by omega) (fun hne => get_olds (hrow hne).2 l)
    rw [decide_eq_true hn] at hha
    (simp only [tyV, t1, (vmA), Nat.reduceEqDiff, reduceIte, Nat.reduceAdd, Int.reduceToNat, Int.reduceLE, Int.reduceLT, Int.reduceEq, Int.reduceNe, Int.reduceAdd, Int.reduceSub, Int.reduceNeg, Nat.reduceLT, Nat.reduceLeDiff, Nat.reduceBEq, undef, (stA), Nat.reduceMul]; try simp (disch := omega) only [(vmp)])
    refine xWait.go (hha _) ?_
    (simp only [tysV_len, (vmA), Nat.reduceEqDiff, reduceIte, Nat.reduceAdd, Int.reduceToNat, Int.reduceLE, Int.reduceLT, Int.reduceEq, Int.reduceNe, Int.reduceAdd, Int.reduceSub, Int.reduceNeg, Nat.reduceLT, Nat.reduceLeDiff, Nat.reduceBEq, undef, (stA), Nat.reduceMul]; try simp (disch := omega) only [(vmp)])
    all_goals
      refine xloop (α := Nat × Nat × List Ent × List Ent) T0 (fun x => [(1, rowN x.2.1 (ordTs (us.take x.1) acc)), (23, .sl (tysV us)), (24, i64 us.length), (25, i64 x.1)]) (fun x => x.2.2.1) (fun x => x.2.2.2)
        (fun x => x.1 ≤ us.length ∧ ordOK b x.2.1 (ordTs (us.take x.1) acc) σ (x.2.2.1 ++ x.2.2.2) ∧ x.2.2.1.length = σ.length) (fun x => us.length - x.1) (by kernel_rfl)
        ⟨(0, id, σ, _), ⟨by simp, by simp only [List.take_zero, ordTs]; exact ⟨fun hne => ⟨(hrow hne).1, get_olds (hrow hne).2 _⟩, by simp, fun j hj => by rw [List.getElem?_append_left (by omega)]⟩, rfl⟩, by (simp only [List.take_zero, ordTs, (vmA), Nat.reduceEqDiff, reduceIte, Nat.reduceAdd, Int.reduceToNat, Int.reduceLE, Int.reduceLT, Int.reduceEq, Int.reduceNe, Int.reduceAdd, Int.reduceSub, Int.reduceNeg, Nat.reduceLT, Nat.reduceLeDiff, Nat.reduceBEq, undef, (stA), Nat.reduceMul, Int.natCast_zero]; try simp (disch := omega) only [(vmp)]), rfl, rfl⟩ ?_
      rintro ⟨i, wi, G, L⟩ ⟨hi, ⟨h1, h2, h3⟩, hGn⟩
      simp only at hi h1 h2 h3 hGn
      have hnm := ordTs_names (us.take i) acc (typeBs_take hty i) hnd hvb
      by_cases h : (i : Int) < us.length
      · have hi' : i < us.length := by omega
        have hu : us[i]? = some us[i] := List.getElem?_eq_getElem hi'
        have hmem : us[i] ∈ us := List.getElem_mem hi'
        obtain ⟨s1, s2⟩ := take_split us i _ hu
        generalize us[i] = u at *
        have hg := tysV_get hu
        have hnext : ordTs (us.take (i + 1)) acc = ordT u (ordTs (us.take i) acc) := by rw [s1, ordTs_snoc]
        generalize ordTs (us.take i) acc = A at *
        have hc' := fun l => ih u hmem A b wi (G ++ L ++ l) (hdn u hmem) hnm.1 hnm.2 (by simp only [List.length_append]; omega) (fun hne => ⟨(h1 hne).1, get_olds (h1 hne).2 l⟩)
        rcases u with ⟨d2, n2, us2⟩
        simp only [tyV] at hg hc'
        (simp only [h, hg, tysV_len, (vmA), Nat.reduceEqDiff, reduceIte, Nat.reduceAdd, Int.reduceToNat, Int.reduceLE, Int.reduceLT, Int.reduceEq, Int.reduceNe, Int.reduceAdd, Int.reduceSub, Int.reduceNeg, Nat.reduceLT, Nat.reduceLeDiff, Nat.reduceBEq, undef, (stA), Nat.reduceMul]; try simp (disch := omega) only [(vmp)])
        rw [← List.append_assoc]
        refine xWait.of (hc' _) ?_
        rintro r τ1 ⟨w2, rfl, q1, q2, q3⟩
        simp only [List.length_append] at q2
        generalize hG1 : List.take G.length τ1 = G1
        generalize hL1 : List.drop G.length τ1 = L1
        have hGL : τ1 = G1 ++ L1 := by rw [← hG1, ← hL1, List.take_append_drop]
        have hGn1 : G1.length = σ.length := by rw [← hG1, List.length_take]; omega
        subst hGL
        (simp only [(vmA), Nat.reduceEqDiff, reduceIte, Nat.reduceAdd, Int.reduceToNat, Int.reduceLE, Int.reduceLT, Int.reduceEq, Int.reduceNe, Int.reduceAdd, Int.reduceSub, Int.reduceNeg, Nat.reduceLT, Nat.reduceLeDiff, Nat.reduceBEq, undef, (stA), Nat.reduceMul]; try simp (disch := omega) only [(vmp)])
        refine ⟨(i + 1, w2, G1, L1), ⟨by simp only; omega, ?_, hGn1⟩, by simp only; omega, ?_⟩
        · simp only
          rw [hnext]
          refine ⟨q1, by simp only [List.length_append] at *; omega, fun j hj => ?_⟩
          rw [q3 j hj, List.getElem?_append_left (by simp only [List.length_append]; omega), h3 j hj]
        · simp only [hnext]
          first | trivial | exact ⟨⟨rfl, rfl⟩, rfl, rfl⟩ | exact ⟨rfl, rfl, rfl⟩
      · have hie : i = us.length := by omega
        subst hie
        rw [List.take_of_length_le (Nat.le_refl _)] at h1
        (simp only [h, List.take_of_length_le (Nat.le_refl _), (vmA), Nat.reduceEqDiff, reduceIte, Nat.reduceAdd, Int.reduceToNat, Int.reduceLE, Int.reduceLT, Int.reduceEq, Int.reduceNe, Int.reduceAdd, Int.reduceSub, Int.reduceNeg, Nat.reduceLT, Nat.reduceLeDiff, Nat.reduceBEq, undef, (stA), Nat.reduceMul]; try simp (disch := omega) only [(vmp)])
        exact ⟨wi, rfl, h1, h2, h3⟩
theorem orderR_ok : ∀ (m : Nat) (t : Tr), SizeOf.sizeOf t ≤ m → OR t
  | 0, .mk d n us, h => by simp at h
  | m + 1, .mk d n us, h => orderR_step d n us fun u hu => orderR_ok m u (by
      have := List.sizeOf_lt_of_mem hu
      simp at h; omega)
end Go.D

/- A substitution put into types keeps them types. -/
set_option linter.unusedVariables false
set_option maxRecDepth 100000
namespace Go.D
open Go Go.Vm Go.Proofs Go.RowKit

mutual
theorem putT_len (s : Sub') (hs : ∀ e ∈ s, lenT e.2) : ∀ t, lenT t → lenT (putT s t)
  | .mk d n us, h => by
    unfold putT
    split
    · rename_i hc
      obtain ⟨x, hx⟩ := Option.isSome_iff_exists.1 hc.2
      obtain ⟨e, he, rfl⟩ := look_mem hx
      rw [hx]; exact hs e he
    · simp only [lenT] at h ⊢
      exact ⟨h.1, by rw [putTs_map, List.length_map]; exact h.2.1, putTs_len s hs us h.2.2⟩
theorem putTs_len (s : Sub') (hs : ∀ e ∈ s, lenT e.2) : ∀ l, lenTs l → lenTs (putTs s l)
  | [], _ => trivial
  | t :: ts, h => ⟨putT_len s hs t h.1, putTs_len s hs ts h.2⟩
end
mutual
theorem putT_typ (s : Sub') (hs : ∀ e ∈ s, typeB conB e.2 = true) : ∀ t, typeB conB t = true → typeB conB (putT s t) = true
  | .mk d n us, h => by
    unfold putT
    split
    · rename_i hc
      obtain ⟨x, hx⟩ := Option.isSome_iff_exists.1 hc.2
      obtain ⟨e, he, rfl⟩ := look_mem hx
      rw [hx]; exact hs e he
    · have hl : (putTs s us).length = us.length := by rw [putTs_map, List.length_map]
      simp only [typeB, Bool.and_eq_true] at h ⊢
      rw [hl]
      exact ⟨h.1, h.2.1, h.2.2.1, h.2.2.2.1, putTs_typ s hs us h.2.2.2.2⟩
theorem putTs_typ (s : Sub') (hs : ∀ e ∈ s, typeB conB e.2 = true) : ∀ l, typeBs conB l = true → typeBs conB (putTs s l) = true
  | [], _ => rfl
  | t :: ts, h => by
    simp only [typeBs, Bool.and_eq_true] at h
    simp only [putTs, typeBs, putT_typ s hs t h.1, putTs_typ s hs ts h.2, Bool.and_self]
end
theorem putT_ok {s : Sub'} (hs : okV s) {t : Tr} (h : okT t) : okT (putT s t) := ⟨putT_len s (fun e he => (hs e he).1) t h.1, putT_typ s (fun e he => (hs e he).2) t h.2⟩
mutual
theorem putT_nil : ∀ t, putT [] t = t
  | .mk d n us => by
    unfold putT
    rw [if_neg (by rintro ⟨_, h⟩; cases h), putTs_nil us]
theorem putTs_nil : ∀ l, putTs [] l = l
  | [] => rfl
  | t :: ts => by rw [putTs, putT_nil t, putTs_nil ts]
end
/-- A substitution applied to a type. -/
def applyR (l : Sub') (t : Tr) : Tr × Int := if fitsB (ofT (putT l t)) = true then (putT l t, 0) else (.mk [] [] [], 4)
end Go.D

/- A substitution put into a type, by the document. -/
set_option linter.unusedVariables false
set_option linter.unusedSimpArgs false
set_option linter.unnecessarySimpa false
set_option maxRecDepth 100000
namespace Go.D
open Go Go.Vm Go.Proofs Go.RowKit

def ofV (l : List Cl) (n : List UInt8) : AV := match Sub'.look l n with
  | some u => .tup [tyV u, boolV true]
  | none => .tup [.agg [.str [], .str [], .v (.slice none 0 0)], boolV false]
theorem look_take {l : List Cl} {n : List UInt8} {i : Nat} {c : Cl} (h : l[i]? = some c) (h0 : Sub'.look (l.take i) n = none) : (n = c.1 → Sub'.look l n = some c.2) ∧ (¬ n = c.1 → Sub'.look (l.take (i + 1)) n = none) := by
  obtain ⟨s1, s2⟩ := take_splitC l i c h
  obtain ⟨a, t⟩ := c
  constructor
  · intro hn
    simp only at hn
    subst hn
    rw [s2]
    clear s1 s2 h
    generalize l.take i = p at *
    generalize l.drop (i + 1) = q
    induction p with
    | nil => simp [Sub'.look]
    | cons e r ih =>
      unfold Sub'.look at h0
      by_cases hh : n = e.1
      · simp only [hh, if_true] at h0; cases h0
      · simp only [hh, if_false] at h0
        simp only [List.cons_append]
        unfold Sub'.look
        rw [if_neg hh]
        exact ih h0
  · intro hn
    rw [s1, look_app, h0]
    simp only [hn, if_false]
set_option maxHeartbeats 4000000 in
theorem of_ok (l : List Cl) (hl : lenC l) (n : List UInt8) (σ : List Ent) : ACalls E 52 [.sl (clsV l), .str n] σ fun r τ => r = ofV l n ∧ τ = σ := by
  refine xacalls T0 .drop [] Tryz.func52 rfl (by kernel_rfl) (by kernel_rfl) (by simp [Tryz.ntmps52]) ?_
  have hb := hl.1
  (simp only [clsV_len, (vmA), Nat.reduceEqDiff, reduceIte, Nat.reduceAdd, Int.reduceToNat, Int.reduceLE, Int.reduceLT, Int.reduceEq, Int.reduceNe, Int.reduceAdd, Int.reduceSub, Int.reduceNeg, Nat.reduceLT, Nat.reduceLeDiff, Nat.reduceBEq, undef, (stA), Nat.reduceMul]; try simp (disch := omega) only [(vmp)])
  refine xloop (α := Nat × List Ent) T0 (fun x => [(1, .str n), (4, .ref σ.length 0 0), (8, .sl (clsV l)), (9, i64 l.length), (10, i64 x.1)]) (fun _ => σ) (fun x => .arr 24 [.str [], .str [], .v (.slice none 0 0)] 0 0 :: x.2)
    (fun x => x.1 ≤ l.length ∧ Sub'.look (l.take x.1) n = none) (fun x => l.length - x.1) (by kernel_rfl)
    ⟨(0, []), ⟨by simp, rfl⟩, by (simp only [(vmA), Nat.reduceEqDiff, reduceIte, Nat.reduceAdd, Int.reduceToNat, Int.reduceLE, Int.reduceLT, Int.reduceEq, Int.reduceNe, Int.reduceAdd, Int.reduceSub, Int.reduceNeg, Nat.reduceLT, Nat.reduceLeDiff, Nat.reduceBEq, undef, (stA), Nat.reduceMul, Int.natCast_zero]; try simp (disch := omega) only [(vmp)]), rfl, rfl⟩ ?_
  rintro ⟨i, junk⟩ ⟨hi, hno⟩
  simp only at hi hno
  by_cases h : (i : Int) < l.length
  · have hi1 : i < l.length := by omega
    have hu : l[i]? = some l[i] := List.getElem?_eq_getElem hi1
    obtain ⟨k1, k2⟩ := look_take hu hno
    generalize l[i] = u at *
    have hg := clsV_get hu
    obtain ⟨a, t⟩ := u
    cases t with
    | mk b c cs =>
    simp only [clV, clC, tyCells] at hg
    by_cases ha : a = n
    · have k3 := k1 ha.symm
      unfold ofV
      rw [k3]
      (simp only [h, hg, ha, clsV_len, tyV, (vmA), Nat.reduceEqDiff, reduceIte, Nat.reduceAdd, Int.reduceToNat, Int.reduceLE, Int.reduceLT, Int.reduceEq, Int.reduceNe, Int.reduceAdd, Int.reduceSub, Int.reduceNeg, Nat.reduceLT, Nat.reduceLeDiff, Nat.reduceBEq, undef, (stA), Nat.reduceMul]; try simp (disch := omega) only [(vmp)])
      exact tysV_low _ _
    · (simp only [h, hg, ha, clsV_len, (vmA), Nat.reduceEqDiff, reduceIte, Nat.reduceAdd, Int.reduceToNat, Int.reduceLE, Int.reduceLT, Int.reduceEq, Int.reduceNe, Int.reduceAdd, Int.reduceSub, Int.reduceNeg, Nat.reduceLT, Nat.reduceLeDiff, Nat.reduceBEq, undef, (stA), Nat.reduceMul]; try simp (disch := omega) only [(vmp)])
      exact ⟨(i + 1, junk ++ [.arr 33 [.str a, .str b, .str c, .sl (tysV cs)] 0 0]), ⟨by simp only; omega, k2 (fun hh => ha hh.symm)⟩, by simp only; omega, rfl, rfl⟩
  · have hie : i = l.length := by omega
    subst hie
    rw [List.take_of_length_le (Nat.le_refl _)] at hno
    unfold ofV
    rw [hno]
    (simp only [h, (vmA), Nat.reduceEqDiff, reduceIte, Nat.reduceAdd, Int.reduceToNat, Int.reduceLE, Int.reduceLT, Int.reduceEq, Int.reduceNe, Int.reduceAdd, Int.reduceSub, Int.reduceNeg, Nat.reduceLT, Nat.reduceLeDiff, Nat.reduceBEq, undef, (stA), Nat.reduceMul]; try simp (disch := omega) only [(vmp)])
def PR (t : Tr) : Prop := ∀ (s : List Cl) (σ : List Ent), lenC s → okT t → ACalls E 21 [.sl (clsV s), tyV t] σ fun r τ => r = tyV (putT s t) ∧ τ = σ
set_option maxHeartbeats 8000000 in
theorem Put_step (d n : List UInt8) (us : List Tr) (ih : ∀ u ∈ us, PR u) : PR (.mk d n us) := by
  intro s σ hs hl
  obtain ⟨hfew, hdn⟩ := okT_down d n us hl
  have hof := fun σ' => of_ok s hs n σ'
  refine xacalls T0 .freeze [] Tryz.func21 rfl (by kernel_rfl) (by kernel_rfl) (by simp [Tryz.ntmps21]) ?_
  unfold ofV at hof
  obtain ⟨EE, hEE⟩ : ∃ EE, (∃ d2 n2 us2, Sub'.look s n = some (.mk d2 n2 us2) ∧ ¬ d = kiVar ∧ EE = Ent.arr 24 [.str d2, .str n2, .sl (tysV us2)] 0 0) ∨ (Sub'.look s n = none ∧ EE = Ent.arr 24 [.str [], .str [], .v (.slice none 0 0)] 0 0) ∨ (∃ d2 n2 us2, Sub'.look s n = some (.mk d2 n2 us2) ∧ d = kiVar) := by
    rcases hlk : Sub'.look s n with _ | ⟨d2, n2, us2⟩
    · exact ⟨_, .inr (.inl ⟨rfl, rfl⟩)⟩
    · by_cases hd : d = kiVar
      · exact ⟨.arr 0 [] 0 0, .inr (.inr ⟨d2, n2, us2, rfl, hd⟩)⟩
      · exact ⟨_, .inl ⟨d2, n2, us2, rfl, hd, rfl⟩⟩
  rw [← or_assoc] at hEE
  rcases hEE with hEE | ⟨d2, n2, us2, hlk, hd⟩
  rotate_left
  · have t1 : (d = [118, 97, 114]) = True := eq_true hd
    have heq : putT s (.mk d n us) = .mk d2 n2 us2 := by unfold putT; rw [if_pos ⟨hd, by rw [hlk]; rfl⟩, hlk]; rfl
    rw [heq]
    simp only [hlk, tyV] at hof
    (simp only [tyV, tysV_len, (vmA), Nat.reduceEqDiff, reduceIte, Nat.reduceAdd, Int.reduceToNat, Int.reduceLE, Int.reduceLT, Int.reduceEq, Int.reduceNe, Int.reduceAdd, Int.reduceSub, Int.reduceNeg, Nat.reduceLT, Nat.reduceLeDiff, Nat.reduceBEq, undef, (stA), Nat.reduceMul]; try simp (disch := omega) only [(vmp)])
    refine xWait.go (hof _) ?_
    (simp only [t1, (vmA), Nat.reduceEqDiff, reduceIte, Nat.reduceAdd, Int.reduceToNat, Int.reduceLE, Int.reduceLT, Int.reduceEq, Int.reduceNe, Int.reduceAdd, Int.reduceSub, Int.reduceNeg, Nat.reduceLT, Nat.reduceLeDiff, Nat.reduceBEq, undef, (stA), Nat.reduceMul]; try simp (disch := omega) only [(vmp)])
    exact ⟨_, .refl _, by simp only [AV.low, AV.low.lows, tysV_low, Bool.and_self], rfl⟩
  have heq : putT s (.mk d n us) = .mk d n (putTs s us) := by
    unfold putT
    rcases hEE with ⟨d2, n2, us2, hlk, n1, _⟩ | ⟨hlk, _⟩
    · rw [if_neg (fun h => n1 h.1)]
    · rw [if_neg (fun h => by rw [hlk] at h; cases h.2)]
  rw [heq]
  rcases hEE with ⟨d2, n2, us2, hlk, n1, hEE⟩ | ⟨hlk, hEE⟩
  rotate_left
  simp only [hlk] at hof
  (simp only [tyV, tysV_len, (vmA), Nat.reduceEqDiff, reduceIte, Nat.reduceAdd, Int.reduceToNat, Int.reduceLE, Int.reduceLT, Int.reduceEq, Int.reduceNe, Int.reduceAdd, Int.reduceSub, Int.reduceNeg, Nat.reduceLT, Nat.reduceLeDiff, Nat.reduceBEq, undef, (stA), Nat.reduceMul]; try simp (disch := omega) only [(vmp)])
  refine xWait.go (hof _) ?_
  (simp only [tysV_len, (vmA), Nat.reduceEqDiff, reduceIte, Nat.reduceAdd, Int.reduceToNat, Int.reduceLE, Int.reduceLT, Int.reduceEq, Int.reduceNe, Int.reduceAdd, Int.reduceSub, Int.reduceNeg, Nat.reduceLT, Nat.reduceLeDiff, Nat.reduceBEq, undef, (stA), Nat.reduceMul]; try simp (disch := omega) only [(vmp)])
  rotate_left
  have n1 : ¬ d = [118, 97, 114] := n1
  simp only [hlk, tyV] at hof
  (simp only [tyV, tysV_len, (vmA), Nat.reduceEqDiff, reduceIte, Nat.reduceAdd, Int.reduceToNat, Int.reduceLE, Int.reduceLT, Int.reduceEq, Int.reduceNe, Int.reduceAdd, Int.reduceSub, Int.reduceNeg, Nat.reduceLT, Nat.reduceLeDiff, Nat.reduceBEq, undef, (stA), Nat.reduceMul]; try simp (disch := omega) only [(vmp)])
  refine xWait.go (hof _) ?_
  (simp only [n1, tysV_len, (vmA), Nat.reduceEqDiff, reduceIte, Nat.reduceAdd, Int.reduceToNat, Int.reduceLE, Int.reduceLT, Int.reduceEq, Int.reduceNe, Int.reduceAdd, Int.reduceSub, Int.reduceNeg, Nat.reduceLT, Nat.reduceLeDiff, Nat.reduceBEq, undef, (stA), Nat.reduceMul]; try simp (disch := omega) only [(vmp)])
  all_goals
    refine xloop (α := Nat × List Ent × Nat) T0 (fun x => [(0, .sl (clsV s)), (4, .ref (σ.length + 1) 0 0), (7, .ref (σ.length + 3) 0 0), (30, .sl (tysV us)), (31, i64 us.length), (32, i64 x.1)]) (fun _ => σ)
      (fun x => .arr 24 [.str d, .str n, .sl (tysV us)] 0 0 :: .arr 24 [.str [], .str [], .v (.slice none 0 0)] 0 0 :: EE :: .arr 24 [.str d, .str n, rowT (σ.length + (x.2.2 + 4)) (putTs s (us.take x.1))] 0 0 :: x.2.1)
      (fun x => x.1 ≤ us.length ∧ (putTs s (us.take x.1) ≠ [] → x.2.1[x.2.2]? = some (.arr 24 ((putTs s (us.take x.1)).flatMap tyCells) ((putTs s (us.take x.1)).length - 1) 0))) (fun x => us.length - x.1) (by kernel_rfl)
      ⟨(0, [], 0), ⟨by simp, by simp [putTs]⟩, by (simp only [(vmA), Nat.reduceEqDiff, reduceIte, Nat.reduceAdd, Int.reduceToNat, Int.reduceLE, Int.reduceLT, Int.reduceEq, Int.reduceNe, Int.reduceAdd, Int.reduceSub, Int.reduceNeg, Nat.reduceLT, Nat.reduceLeDiff, Nat.reduceBEq, undef, (stA), Nat.reduceMul, Int.natCast_zero]; try simp (disch := omega) only [(vmp)]), rfl, by subst hEE; simp only [List.take_zero, putTs, rowT]⟩ ?_
    rintro ⟨i, junk, rid⟩ ⟨hi, hrow⟩
    simp only at hi hrow
    have hal : (putTs s (us.take i)).length = i := by rw [putTs_map]; simp; omega
    by_cases h : (i : Int) < us.length
    · have hi' : i < us.length := by omega
      have hu : us[i]? = some us[i] := List.getElem?_eq_getElem hi'
      obtain ⟨s1, s2⟩ := take_split us i _ hu
      have hmem : us[i] ∈ us := List.getElem_mem hi'
      generalize us[i] = u at *
      have hg := tysV_get hu
      have hc := fun σ' => ih u hmem s σ' hs (hdn u hmem)
      have hnext : putTs s (us.take (i + 1)) = putTs s (us.take i) ++ [putT s u] := by rw [s1, putTs_map, putTs_map]; simp
      rcases hr : putT s u with ⟨a3, b3, us3⟩
      rw [hr] at hnext
      simp only [hr] at hc
      cases u with
      | mk d4 n4 us4 =>
      simp only [tyV] at hg hc
      (simp only [h, hg, tysV_len, (vmA), Nat.reduceEqDiff, reduceIte, Nat.reduceAdd, Int.reduceToNat, Int.reduceLE, Int.reduceLT, Int.reduceEq, Int.reduceNe, Int.reduceAdd, Int.reduceSub, Int.reduceNeg, Nat.reduceLT, Nat.reduceLeDiff, Nat.reduceBEq, undef, (stA), Nat.reduceMul]; try simp (disch := omega) only [(vmp)])
      refine ydraw T0 [6, 8] (by kernel_rfl) (by kernel_rfl) (by kernel_rfl) (by kernel_rfl) ?_
      (simp only [(vmA), Nat.reduceEqDiff, reduceIte, Nat.reduceAdd, Int.reduceToNat, Int.reduceLE, Int.reduceLT, Int.reduceEq, Int.reduceNe, Int.reduceAdd, Int.reduceSub, Int.reduceNeg, Nat.reduceLT, Nat.reduceLeDiff, Nat.reduceBEq, undef, (stA), Nat.reduceMul]; try simp (disch := omega) only [(vmp)])
      refine yNext.go (by rfl) _ rfl (hc _) ?_
      generalize hacc : putTs s (us.take i) = acc at *
      rcases acc with _ | ⟨b0, r0⟩
      · (simp only [rowT, (vmA), Nat.reduceEqDiff, reduceIte, Nat.reduceAdd, Int.reduceToNat, Int.reduceLE, Int.reduceLT, Int.reduceEq, Int.reduceNe, Int.reduceAdd, Int.reduceSub, Int.reduceNeg, Nat.reduceLT, Nat.reduceLeDiff, Nat.reduceBEq, undef, (stA), Nat.reduceMul]; try simp (disch := omega) only [(vmp)])
        refine ⟨by unfold maxRoom; omega, (i + 1, junk ++ [.arr 24 [.str d4, .str n4, .sl (tysV us4)] 0 0, .arr 24 [.str a3, .str b3, .sl (tysV us3)] 0 0], junk.length + 1), ⟨by simp only; omega, fun _ => ?_⟩, by simp only; omega, rfl, ?_⟩
        · simp only [hnext]; simp [tyCells]
        · simp only [hnext, List.nil_append, rowT, List.length_nil, List.append_assoc, List.cons_append, Nat.add_assoc]
          try rfl
      · have h5 : ∀ e, (junk ++ [e])[rid]? = some (.arr 24 ((b0 :: r0).flatMap tyCells) ((b0 :: r0).length - 1) 0) := fun e => get_old (hrow (by simp))
        have e0 : (tyCells b0).length = 3 := by cases b0; rfl
        have hf0 : (List.flatMap tyCells r0).length = r0.length * 3 := tyCells_len r0
        simp only [List.length_cons] at hal
        (simp only [rowT, h5, (vmA), Nat.reduceEqDiff, reduceIte, Nat.reduceAdd, Int.reduceToNat, Int.reduceLE, Int.reduceLT, Int.reduceEq, Int.reduceNe, Int.reduceAdd, Int.reduceSub, Int.reduceNeg, Nat.reduceLT, Nat.reduceLeDiff, Nat.reduceBEq, undef, (stA), Nat.reduceMul]; try simp (disch := omega) only [(vmp)])
        refine ⟨⟨by omega, by omega, by omega, by unfold maxRoom; omega, by unfold maxRoom; omega⟩, ?_⟩
        refine ⟨(i + 1, (junk ++ [Ent.arr 24 [AV.str d4, AV.str n4, AV.sl (tysV us4)] 0 0]).set rid (Ent.arr 24 (tyCells b0 ++ (List.flatMap tyCells r0 ++ [AV.str a3, AV.str b3, AV.sl (tysV us3)])) (r0.length + 1 - 1 + 1) 0), rid), ⟨by simp only; omega, fun _ => ?_⟩, by simp only; omega, rfl, ?_⟩
        · simp only [hnext]
          rw [get_set_self (h5 _)]
          simp [tyCells]
        · simp only [hnext, rowT, List.cons_append, List.length_append, List.length_cons, List.length_nil]
          try rfl
    · have hie : i = us.length := by omega
      subst hie
      rw [List.take_of_length_le (Nat.le_refl _)] at hrow
      have hpl : (putTs s us).length = us.length := by rw [putTs_map, List.length_map]
      (simp only [h, List.take_of_length_le (Nat.le_refl _), (vmA), Nat.reduceEqDiff, reduceIte, Nat.reduceAdd, Int.reduceToNat, Int.reduceLE, Int.reduceLT, Int.reduceEq, Int.reduceNe, Int.reduceAdd, Int.reduceSub, Int.reduceNeg, Nat.reduceLT, Nat.reduceLeDiff, Nat.reduceBEq, undef, (stA), Nat.reduceMul]; try simp (disch := omega) only [(vmp)])
      generalize putTs s us = ps at *
      rcases ps with _ | ⟨u0, ur⟩
      · (simp only [rowT, (vmA), Nat.reduceEqDiff, reduceIte, Nat.reduceAdd, Int.reduceToNat, Int.reduceLE, Int.reduceLT, Int.reduceEq, Int.reduceNe, Int.reduceAdd, Int.reduceSub, Int.reduceNeg, Nat.reduceLT, Nat.reduceLeDiff, Nat.reduceBEq, undef, (stA), Nat.reduceMul]; try simp (disch := omega) only [(vmp)])
        exact ⟨_, .agg (.cons (.refl _) (.cons (.refl _) (.cons .none .nil))), by simp only [AV.low, AV.low.lows, Bool.and_self], by simp only [tysV]⟩
      · have hr := hrow (by simp)
        simp only [List.length_cons] at hr
        (simp only [rowT, (vmA), Nat.reduceEqDiff, reduceIte, Nat.reduceAdd, Int.reduceToNat, Int.reduceLE, Int.reduceLT, Int.reduceEq, Int.reduceNe, Int.reduceAdd, Int.reduceSub, Int.reduceNeg, Nat.reduceLT, Nat.reduceLeDiff, Nat.reduceBEq, undef, (stA), Nat.reduceMul]; try simp (disch := omega) only [(vmp)])
        have hf0 := tyCells_len (u0 :: ur)
        refine ⟨_, .agg (.cons (.refl _) (.cons (.refl _) (.cons (.rsl (ty := 24) (ver := ur.length) (imm := 0) (ag := true) (cells := (u0 :: ur).flatMap tyCells) (es := tysV (u0 :: ur)) (es' := tysV (u0 :: ur)) (by omega) ?_ (by rw [List.drop_zero, tysV_cells]) (by omega) (by rw [tysV_len]; rfl) (by omega) (fun e he => by rw [tysV_map] at he; obtain ⟨x, _, rfl⟩ := List.mem_map.1 he; exact tyV_el x) FrzL.refl) .nil))), by simp only [AV.low, AV.low.lows, tysV_low, Bool.and_self], rfl⟩
        rw [Nat.add_sub_cancel_left]
        simpa using hr
theorem Put_ok : ∀ (m : Nat) (t : Tr), SizeOf.sizeOf t ≤ m → PR t
  | 0, .mk d n us, h => by simp at h
  | m + 1, .mk d n us, h => Put_step d n us fun u hu => Put_ok m u (by
      have := List.sizeOf_lt_of_mem hu
      simp at h; omega)
end Go.D

/- The canonical type, by the document: the calls. -/
set_option linter.unusedVariables false
set_option linter.unusedSimpArgs false
set_option linter.unnecessarySimpa false
set_option maxRecDepth 100000
namespace Go.D
open Go Go.Vm Go.Proofs Go.RowKit

/-- A claim whose type's Args are nil. -/
def clN (c : Cl) : List AV := [.str c.1, .str c.2.d, .str c.2.n, .v (.slice none 0 0)]
theorem clNs_len (l : List Cl) : (l.flatMap clN).length = l.length * 4 := by
  induction l with
  | nil => rfl
  | cons a r ih => rw [List.flatMap_cons, List.length_append, ih]; simp only [clN, List.length_cons, List.length_nil]; omega
theorem clN_cells (l : List Cl) : (l.map fun c => AV.agg (clN c)).flatMap AV.cells = l.flatMap clN := by
  induction l with
  | nil => rfl
  | cons a r ih => rw [List.map_cons, List.flatMap_cons, ih]; rfl
theorem frz_letS {n0 : Nat} {l : List Ent} : ∀ (k : Nat) (A : List (List UInt8)), FrzL n0 l ((letS k A).map fun c => AV.agg (clN c)) (clsV (letS k A))
  | _, [] => .nil
  | k, a :: A => .cons (.agg (.cons (.refl _) (.cons (.refl _) (.cons (.refl _) (.cons .none .nil))))) (frz_letS (k + 1) A)
theorem letS_mem : ∀ (k : Nat) (A : List (List UInt8)) (c : Cl), c ∈ letS k A → c.1 ∈ A ∧ ∃ i, c.2 = .mk kiVar (letA i) []
  | k, a :: A, c, h => by
    simp only [letS] at h
    rcases List.mem_cons.1 h with rfl | h
    · exact ⟨by simp, k, rfl⟩
    · obtain ⟨h1, h2⟩ := letS_mem (k + 1) A c h
      exact ⟨by simp [h1], h2⟩
theorem letS_lenC {A : List (List UInt8)} (h : A.length ≤ 26) (hv : ∀ n ∈ A, varB n = true) : lenC (letS 0 A) := by
  refine ⟨by rw [letS_len]; omega, fun c hc => ?_⟩
  obtain ⟨h1, i, h2⟩ := letS_mem 0 A c hc
  obtain ⟨b, hb, _⟩ := varB_shape (hv _ h1)
  refine ⟨by rw [hb]; simp, ?_⟩
  rw [h2]; simp [lenT, lenTs, letA]
theorem split_old {A τ : List Ent} (h : ∀ j, j < A.length → τ[j]? = A[j]?) (hl : A.length ≤ τ.length) : ∃ J, τ = A ++ J := by
  refine ⟨τ.drop A.length, ?_⟩
  have : τ.take A.length = A := by
    apply List.ext_getElem?
    intro i
    rw [List.getElem?_take]
    by_cases hi : i < A.length
    · rw [if_pos hi, h i hi]
    · rw [if_neg hi, List.getElem?_eq_none (by omega)]
  rw [show A ++ List.drop A.length τ = List.take A.length τ ++ List.drop A.length τ by rw [this], List.take_append_drop]
set_option maxHeartbeats 8000000 in
theorem Canon_ok (t : Tr) (ho : okT t) (σ : List Ent) : ACalls E 74 [tyV t] σ fun r τ => r = tyV (canT t) ∧ τ = σ := by
  refine xacalls T0 .freeze [] Tryz.func74 rfl (by kernel_rfl) (by kernel_rfl) (by simp [Tryz.ntmps74]) ?_
  have hnm := ordT_names t [] ho.2 (by simp) (by simp)
  have hfew := vars_few hnm.1 hnm.2
  have h1 := fun (a b : Ent) => orderR_ok _ t (Nat.le_refl _) [] (σ.length + 2) 0 (σ ++ [a, b]) ho (by simp) (by simp) (by simp) (fun h => absurd rfl h)
  have hcl := letS_lenC hfew hnm.2
  have h2 := fun σ' => Put_ok _ t (Nat.le_refl _) (letS 0 (ordT t [])) σ' hcl ho
  unfold canT
  generalize hns : ordT t [] = names at *
  rcases hcn : putT (letS 0 names) t with ⟨d3, n3, us3⟩
  rw [hcn] at h2
  rcases t with ⟨d, n, us⟩
  simp only [tyV, rowN] at h1 h2
  (simp only [tyV, (vmA), Nat.reduceEqDiff, reduceIte, Nat.reduceAdd, Int.reduceToNat, Int.reduceLE, Int.reduceLT, Int.reduceEq, Int.reduceNe, Int.reduceAdd, Int.reduceSub, Int.reduceNeg, Nat.reduceLT, Nat.reduceLeDiff, Nat.reduceBEq, undef, (stA), Nat.reduceMul]; try simp (disch := omega) only [(vmp)])
  refine xWait.of (h1 _ _) ?_
  rintro r τ ⟨w, rfl, g1, g2, g3⟩
  obtain ⟨J, rfl⟩ := split_old (A := σ ++ [.arr 24 [.str d, .str n, .sl (tysV us)] 0 0, .arr 24 [.str [], .str [], .v (.slice none 0 0)] 0 0]) (by simpa using g3) (by simpa using g2)
  clear g2 g3
  rw [List.append_assoc] at g1 ⊢
  rw [List.take_left, List.drop_left]
  rcases names with _ | ⟨a0, ar⟩
  · (simp only [rowN, List.cons_append, List.nil_append, (vmA), Nat.reduceEqDiff, reduceIte, Nat.reduceAdd, Int.reduceToNat, Int.reduceLE, Int.reduceLT, Int.reduceEq, Int.reduceNe, Int.reduceAdd, Int.reduceSub, Int.reduceNeg, Nat.reduceLT, Nat.reduceLeDiff, Nat.reduceBEq, undef, (stA), Nat.reduceMul]; try simp (disch := omega) only [(vmp)])
    refine xloop (α := Nat) T0 (fun i => [(1, .ref σ.length 0 0), (2, .ref (σ.length + 1) 0 0), (3, .v (.slice none 0 0)), (8, i64 0), (9, i64 0)]) (fun _ => σ) (fun _ => .arr 24 [.str d, .str n, .sl (tysV us)] 0 0 :: .arr 24 [.str [], .str [], .v (.slice none 0 0)] 0 0 :: J) (fun i => i = 0) (fun i => i) (by kernel_rfl)
      ⟨0, rfl, by (simp only [(vmA), Nat.reduceEqDiff, reduceIte, Nat.reduceAdd, Int.reduceToNat, Int.reduceLE, Int.reduceLT, Int.reduceEq, Int.reduceNe, Int.reduceAdd, Int.reduceSub, Int.reduceNeg, Nat.reduceLT, Nat.reduceLeDiff, Nat.reduceBEq, undef, (stA), Nat.reduceMul]; try simp (disch := omega) only [(vmp)]), rfl, rfl⟩ ?_
    rintro i hi
    (simp only [(vmA), Nat.reduceEqDiff, reduceIte, Nat.reduceAdd, Int.reduceToNat, Int.reduceLE, Int.reduceLT, Int.reduceEq, Int.reduceNe, Int.reduceAdd, Int.reduceSub, Int.reduceNeg, Nat.reduceLT, Nat.reduceLeDiff, Nat.reduceBEq, undef, (stA), Nat.reduceMul]; try simp (disch := omega) only [(vmp)])
    have h3 : ∀ σ', ACalls E 21 [.v (.slice none 0 0), .agg [.str d, .str n, .sl (tysV us)]] σ' fun r τ => r = .agg [.str d3, .str n3, .sl (tysV us3)] ∧ τ = σ' := fun σ' => ACalls.wk (.cons .nil (.cons (.refl _) .nil)) (h2 σ')
    refine xWait.go (h3 _) ?_
    (simp only [(vmA), Nat.reduceEqDiff, reduceIte, Nat.reduceAdd, Int.reduceToNat, Int.reduceLE, Int.reduceLT, Int.reduceEq, Int.reduceNe, Int.reduceAdd, Int.reduceSub, Int.reduceNeg, Nat.reduceLT, Nat.reduceLeDiff, Nat.reduceBEq, undef, (stA), Nat.reduceMul]; try simp (disch := omega) only [(vmp)])
    exact ⟨_, .refl _, by simp only [AV.low, AV.low.lows, tysV_low, Bool.and_self], rfl⟩
  · obtain ⟨q1, q2⟩ := g1 (by simp)
    obtain ⟨w0, rfl⟩ : ∃ w0, w = σ.length + (w0 + 2) := ⟨w - σ.length - 2, by omega⟩
    have hw0 : J[w0]? = some (.arr 9 (strsV (a0 :: ar)) ar.length 0) := by
      rw [List.getElem?_append_right (by omega), Nat.add_sub_cancel_left] at q2
      simpa [rowE] using q2
    clear g1 q1 q2
    simp only [List.length_cons] at hfew
    (simp only [rowN, List.cons_append, List.nil_append, (vmA), Nat.reduceEqDiff, reduceIte, Nat.reduceAdd, Int.reduceToNat, Int.reduceLE, Int.reduceLT, Int.reduceEq, Int.reduceNe, Int.reduceAdd, Int.reduceSub, Int.reduceNeg, Nat.reduceLT, Nat.reduceLeDiff, Nat.reduceBEq, undef, (stA), Nat.reduceMul]; try simp (disch := omega) only [(vmp)])
    refine xloop (α := Nat × List Ent × Nat) T0 (fun x => [(1, .ref σ.length 0 0), (2, .ref (σ.length + 1) 0 0), (3, rowC (σ.length + (x.2.2 + 2)) (letS 0 ((a0 :: ar).take x.1))), (7, .rsl (σ.length + (w0 + 2)) ar.length 0 (ar.length + 1) 1), (8, i64 (ar.length + 1 : Nat)), (9, i64 x.1)]) (fun _ => σ)
      (fun x => .arr 24 [.str d, .str n, .sl (tysV us)] 0 0 :: .arr 24 [.str [], .str [], .v (.slice none 0 0)] 0 0 :: x.2.1)
      (fun x => x.1 ≤ ar.length + 1 ∧ x.2.1[w0]? = some (.arr 9 (strsV (a0 :: ar)) ar.length 0) ∧ (letS 0 ((a0 :: ar).take x.1) ≠ [] → x.2.1[x.2.2]? = some (.arr 33 ((letS 0 ((a0 :: ar).take x.1)).flatMap clN) ((letS 0 ((a0 :: ar).take x.1)).length - 1) 0))) (fun x => ar.length + 1 - x.1) (by kernel_rfl)
      ⟨(0, J, 0), ⟨by omega, hw0, by simp [letS]⟩, by (simp only [List.take_zero, letS, rowC, (vmA), Nat.reduceEqDiff, reduceIte, Nat.reduceAdd, Int.reduceToNat, Int.reduceLE, Int.reduceLT, Int.reduceEq, Int.reduceNe, Int.reduceAdd, Int.reduceSub, Int.reduceNeg, Nat.reduceLT, Nat.reduceLeDiff, Nat.reduceBEq, undef, (stA), Nat.reduceMul, Int.natCast_zero]; try simp (disch := omega) only [(vmp)]), rfl, rfl⟩ ?_
    clear hw0
    rintro ⟨i, J, rid⟩ ⟨hi, hw0, hrow⟩
    simp only at hi hw0 hrow
    by_cases h : (i : Int) < (ar.length + 1 : Nat)
    · have hi' : i < (a0 :: ar).length := by simp only [List.length_cons]; omega
      have hi26 : i < 26 := by omega
      have hu : (a0 :: ar)[i]? = some (a0 :: ar)[i] := List.getElem?_eq_getElem hi'
      have hst : (strsV (a0 :: ar))[i]? = some (.str (a0 :: ar)[i]) := strsV_get hi'
      have hnx : letS 0 ((a0 :: ar).take (i + 1)) = letS 0 ((a0 :: ar).take i) ++ [((a0 :: ar)[i], .mk kiVar (letA i) [])] := by
        rw [List.take_add_one, hu]
        show letS 0 ((a0 :: ar).take i ++ [(a0 :: ar)[i]]) = _
        rw [letS_app, List.length_take, Nat.min_eq_left (by omega), Nat.zero_add]
      have hslen : (letS 0 ((a0 :: ar).take i)).length = i := by rw [letS_len, List.length_take]; omega
      generalize (a0 :: ar)[i] = u at *
      have hle := fun σ' => letterR_ok i hi26 σ'
      generalize letS 0 ((a0 :: ar).take i) = acc at *
      rcases acc with _ | ⟨b0, r0⟩
      · (simp only [h, hw0, hst, rowC, (vmA), Nat.reduceEqDiff, reduceIte, Nat.reduceAdd, Int.reduceToNat, Int.reduceLE, Int.reduceLT, Int.reduceEq, Int.reduceNe, Int.reduceAdd, Int.reduceSub, Int.reduceNeg, Nat.reduceLT, Nat.reduceLeDiff, Nat.reduceBEq, undef, (stA), Nat.reduceMul]; try simp (disch := omega) only [(vmp)])
        refine xWait.go (hle _) ?_
        (simp only [rowC, (vmA), Nat.reduceEqDiff, reduceIte, Nat.reduceAdd, Int.reduceToNat, Int.reduceLE, Int.reduceLT, Int.reduceEq, Int.reduceNe, Int.reduceAdd, Int.reduceSub, Int.reduceNeg, Nat.reduceLT, Nat.reduceLeDiff, Nat.reduceBEq, undef, (stA), Nat.reduceMul]; try simp (disch := omega) only [(vmp)])
        refine ⟨by unfold maxRoom; omega, (i + 1, J ++ [.arr 33 [.str u, .str kiVar, .str (letA i), .v (.slice none 0 0)] 0 0], J.length), ⟨by simp only; omega, get_old hw0, fun _ => ?_⟩, by simp only; omega, ?_⟩
        · simp only [hnx]; simp [clN, Tr.d, Tr.n]
        · simp only [hnx, List.nil_append, rowC, List.length_nil]
          first | trivial | exact ⟨⟨rfl, rfl⟩, rfl⟩ | exact ⟨rfl, rfl⟩
      · have h5 := hrow (by simp)
        have hf0 := clNs_len r0
        have e0 : (clN b0).length = 4 := rfl
        simp only [List.length_cons] at hslen
        have hne : ¬ rid = w0 := fun hh => by rw [hh, hw0] at h5; cases h5
        (simp only [h, hw0, hst, rowC, (vmA), Nat.reduceEqDiff, reduceIte, Nat.reduceAdd, Int.reduceToNat, Int.reduceLE, Int.reduceLT, Int.reduceEq, Int.reduceNe, Int.reduceAdd, Int.reduceSub, Int.reduceNeg, Nat.reduceLT, Nat.reduceLeDiff, Nat.reduceBEq, undef, (stA), Nat.reduceMul]; try simp (disch := omega) only [(vmp)])
        refine xWait.go (hle _) ?_
        (simp only [rowC, h5, (vmA), Nat.reduceEqDiff, reduceIte, Nat.reduceAdd, Int.reduceToNat, Int.reduceLE, Int.reduceLT, Int.reduceEq, Int.reduceNe, Int.reduceAdd, Int.reduceSub, Int.reduceNeg, Nat.reduceLT, Nat.reduceLeDiff, Nat.reduceBEq, undef, (stA), Nat.reduceMul]; try simp (disch := omega) only [(vmp)])
        refine ⟨⟨by omega, by omega, by omega, by unfold maxRoom; omega, by unfold maxRoom; omega⟩, ?_⟩
        refine ⟨(i + 1, J.set rid (.arr 33 (clN b0 ++ (List.flatMap clN r0 ++ [.str u, .str kiVar, .str (letA i), .v (.slice none 0 0)])) (r0.length + 1 - 1 + 1) 0), rid), ⟨by simp only; omega, by simp only; rw [get_set_ne hne]; exact hw0, fun _ => ?_⟩, by simp only; omega, ?_⟩
        · simp only [hnx]; rw [get_set_self h5]; simp [clN, Tr.d, Tr.n]
        · simp only [hnx, rowC, List.cons_append, List.length_append, List.length_cons, List.length_nil]
          first | trivial | exact ⟨⟨rfl, rfl⟩, rfl⟩ | exact ⟨rfl, rfl⟩
    · have hie : i = ar.length + 1 := by omega
      subst hie
      have htk : (a0 :: ar).take (ar.length + 1) = a0 :: ar := List.take_of_length_le (by simp)
      rw [htk] at hrow
      (simp only [h, htk, (vmA), Nat.reduceEqDiff, reduceIte, Nat.reduceAdd, Int.reduceToNat, Int.reduceLE, Int.reduceLT, Int.reduceEq, Int.reduceNe, Int.reduceAdd, Int.reduceSub, Int.reduceNeg, Nat.reduceLT, Nat.reduceLeDiff, Nat.reduceBEq, undef, (stA), Nat.reduceMul]; try simp (disch := omega) only [(vmp)])
      have hne : letS 0 (a0 :: ar) ≠ [] := by simp [letS]
      have h5 := hrow hne
      have hsl := letS_len 0 (a0 :: ar)
      have hfz := fun n0 l => frz_letS (n0 := n0) (l := l) 0 (a0 :: ar)
      generalize letS 0 (a0 :: ar) = s at *
      rcases s with _ | ⟨b0, r0⟩
      · exact absurd rfl hne
      have hf0 := clNs_len (b0 :: r0)
      simp only [List.length_cons] at hsl hf0
      have h3 : ACalls E 21 [.rsl (σ.length + (rid + 2)) r0.length 0 (r0.length + 1) 4, .agg [.str d, .str n, .sl (tysV us)]] (σ ++ .arr 24 [.str d, .str n, .sl (tysV us)] 0 0 :: .arr 24 [.str [], .str [], .v (.slice none 0 0)] 0 0 :: J)
          fun r τ => r = .agg [.str d3, .str n3, .sl (tysV us3)] ∧ τ = σ ++ .arr 24 [.str d, .str n, .sl (tysV us)] 0 0 :: .arr 24 [.str [], .str [], .v (.slice none 0 0)] 0 0 :: J.map Ent.shut := by
        have hp := ACalls.froz (g := σ ++ [.arr 24 [.str d, .str n, .sl (tysV us)] 0 0, .arr 24 [.str [], .str [], .v (.slice none 0 0)] 0 0]) (l := J) (args := [.rsl (σ.length + (rid + 2)) r0.length 0 (r0.length + 1) 4, .agg [.str d, .str n, .sl (tysV us)]])
          (.cons (.rsl (ty := 33) (ver := r0.length) (imm := 0) (ag := true) (cells := (b0 :: r0).flatMap clN) (es := (b0 :: r0).map fun c => AV.agg (clN c)) (es' := clsV (b0 :: r0)) (by simp) (by simp only [List.length_append, List.length_cons, List.length_nil]; rw [show σ.length + (rid + 2) - (σ.length + (0 + 1 + 1)) = rid by omega]; simpa using h5) (by rw [List.drop_zero, clN_cells]) (by omega) (by simp) (by omega) (fun e he => by obtain ⟨x, _, rfl⟩ := List.mem_map.1 he; rfl) (hfz _ _)) (.cons (.refl _) .nil)) (h2 _)
        simpa only [List.append_assoc, List.cons_append, List.nil_append] using hp
      (simp only [rowC, (vmA), Nat.reduceEqDiff, reduceIte, Nat.reduceAdd, Int.reduceToNat, Int.reduceLE, Int.reduceLT, Int.reduceEq, Int.reduceNe, Int.reduceAdd, Int.reduceSub, Int.reduceNeg, Nat.reduceLT, Nat.reduceLeDiff, Nat.reduceBEq, undef, (stA), Nat.reduceMul]; try simp (disch := omega) only [(vmp)])
      refine xWait.go h3 ?_
      (simp only [(vmA), Nat.reduceEqDiff, reduceIte, Nat.reduceAdd, Int.reduceToNat, Int.reduceLE, Int.reduceLT, Int.reduceEq, Int.reduceNe, Int.reduceAdd, Int.reduceSub, Int.reduceNeg, Nat.reduceLT, Nat.reduceLeDiff, Nat.reduceBEq, undef, (stA), Nat.reduceMul]; try simp (disch := omega) only [(vmp)])
      exact ⟨_, .refl _, by simp only [AV.low, AV.low.lows, tysV_low, Bool.and_self], rfl⟩
theorem CanonicalR_ok (t : Tr) (hb : bulkT t ≤ 1048576) (σ : List Ent) : ACalls E 34 [tyV t] σ fun r τ => r = .tup [tyV (canR t).1, i64 (canR t).2] ∧ τ = σ := by
  refine xacalls T0 .freeze [] Tryz.func34 rfl (by kernel_rfl) (by kernel_rfl) (by simp [Tryz.ntmps34]) ?_
  have c1 := fun σ' => ValidTypeR_ok t hb σ'
  unfold canR
  cases hv : validT conB t
  · simp only [Bool.false_eq_true, if_false]
    rcases t with ⟨d, n, us⟩
    simp only [tyV, hv] at c1
    (simp only [tyV, tysV, (vmA), Nat.reduceEqDiff, reduceIte, Nat.reduceAdd, Int.reduceToNat, Int.reduceLE, Int.reduceLT, Int.reduceEq, Int.reduceNe, Int.reduceAdd, Int.reduceSub, Int.reduceNeg, Nat.reduceLT, Nat.reduceLeDiff, Nat.reduceBEq, undef, (stA), Nat.reduceMul]; try simp (disch := omega) only [(vmp)])
    refine xWait.go (c1 _) ?_
    (simp only [(vmA), Nat.reduceEqDiff, reduceIte, Nat.reduceAdd, Int.reduceToNat, Int.reduceLE, Int.reduceLT, Int.reduceEq, Int.reduceNe, Int.reduceAdd, Int.reduceSub, Int.reduceNeg, Nat.reduceLT, Nat.reduceLeDiff, Nat.reduceBEq, undef, (stA), Nat.reduceMul]; try simp (disch := omega) only [(vmp)])
    exact ⟨_, .tup (.cons (.agg (.cons (.refl _) (.cons (.refl _) (.cons .none .nil)))) (.cons (.refl _) .nil)), by simp only [AV.low, AV.low.lows, Bool.and_self], rfl⟩
  · have c2 := fun σ' => Canon_ok t ⟨bulk_len t hb, valid_typ hv⟩ σ'
    simp only [if_true]
    rcases hcn : canT t with ⟨d3, n3, us3⟩
    rw [hcn] at c2
    rcases t with ⟨d, n, us⟩
    simp only [tyV, hv] at c1 c2
    (simp only [tyV, (vmA), Nat.reduceEqDiff, reduceIte, Nat.reduceAdd, Int.reduceToNat, Int.reduceLE, Int.reduceLT, Int.reduceEq, Int.reduceNe, Int.reduceAdd, Int.reduceSub, Int.reduceNeg, Nat.reduceLT, Nat.reduceLeDiff, Nat.reduceBEq, undef, (stA), Nat.reduceMul]; try simp (disch := omega) only [(vmp)])
    refine xWait.go (c1 _) ?_
    (simp only [(vmA), Nat.reduceEqDiff, reduceIte, Nat.reduceAdd, Int.reduceToNat, Int.reduceLE, Int.reduceLT, Int.reduceEq, Int.reduceNe, Int.reduceAdd, Int.reduceSub, Int.reduceNeg, Nat.reduceLT, Nat.reduceLeDiff, Nat.reduceBEq, undef, (stA), Nat.reduceMul]; try simp (disch := omega) only [(vmp)])
    refine xWait.go (c2 _) ?_
    (simp only [(vmA), Nat.reduceEqDiff, reduceIte, Nat.reduceAdd, Int.reduceToNat, Int.reduceLE, Int.reduceLT, Int.reduceEq, Int.reduceNe, Int.reduceAdd, Int.reduceSub, Int.reduceNeg, Nat.reduceLT, Nat.reduceLeDiff, Nat.reduceBEq, undef, (stA), Nat.reduceMul]; try simp (disch := omega) only [(vmp)])
    exact ⟨_, .refl _, by simp only [AV.low, AV.low.lows, tysV_low, Bool.and_self], rfl⟩
theorem letS_okV : ∀ (k : Nat) (A : List (List UInt8)), k + A.length ≤ 26 → okV (letS k A)
  | _, [], _ => fun e he => by cases he
  | k, a :: A, h => fun e he => by
    simp only [List.length_cons] at h
    simp only [letS] at he
    rcases List.mem_cons.1 he with rfl | he
    · exact ⟨by simp [lenT, lenTs, letA], vT_typ (by omega)⟩
    · exact letS_okV (k + 1) A (by omega) e he
theorem canT_ok {t : Tr} (ho : okT t) : okT (canT t) := by
  have hnm := ordT_names t [] ho.2 (by simp) (by simp)
  have := vars_few hnm.1 hnm.2
  exact putT_ok (letS_okV 0 _ (by omega)) ho
end Go.D

/- The datatypes of a type; what collects in order (plain). -/
set_option linter.unusedVariables false
set_option linter.unusedSimpArgs false
set_option linter.unnecessarySimpa false
set_option maxRecDepth 100000
namespace Go.D
open Go Go.Vm Go.Proofs Go.RowKit Go.Sort

theorem compactS_mem (l : List (List UInt8)) (x : List UInt8) : x ∈ Lib.compact l ↔ x ∈ l := by
  unfold Lib.compact Lib.compactUpTo
  simp only [List.mem_map, List.mem_filter, List.mem_range]
  constructor
  · rintro ⟨i, ⟨hi, _⟩, rfl⟩
    have : (l.toArray)[i]! = l[i] := by simp [hi]
    rw [this]; exact List.getElem_mem hi
  · intro hx
    obtain ⟨i, hi, rfl⟩ := List.getElem_of_mem hx
    suffices h : ∀ i (hi : i < l.length), ∃ j, (j < l.length ∧ Lib.keeps l.toArray j = true) ∧ l.toArray[j]! = l[i] by exact h i hi
    intro i
    induction i with
    | zero => intro hi; exact ⟨0, ⟨hi, by simp [Lib.keeps]⟩, by simp [hi]⟩
    | succ i ih =>
      intro hi
      have hi' : i < l.length := by omega
      by_cases he : l[i + 1] = l[i]
      · obtain ⟨j, h1, h2⟩ := ih hi'
        exact ⟨j, h1, by rw [h2, he]⟩
      · refine ⟨i + 1, ⟨hi, Lib.keeps_pos ?_⟩, by simp [hi]⟩
        simp only [Nat.add_sub_cancel]
        simpa [hi, hi'] using he
theorem compactS_asc (l : List (List UInt8)) (h : l.Pairwise (· ≤ ·)) : (Lib.compact l).Pairwise (· < ·) := by
  have hle : ∀ i j (hi : i < l.length) (hj : j < l.length), i ≤ j → l[i] ≤ l[j] := fun i j hi hj hij => by
    rcases Nat.lt_or_ge i j with hlt | hge
    · exact List.pairwise_iff_getElem.1 h i j hi hj hlt
    · have : i = j := by omega
      subst this; exact List.le_refl _
  unfold Lib.compact Lib.compactUpTo
  rw [List.pairwise_map]
  have hr : ((List.range l.length).filter (Lib.keeps l.toArray)).Pairwise (· < ·) := List.Pairwise.filter _ List.pairwise_lt_range
  refine hr.imp_of_mem fun {i j} hi hj hij => ?_
  simp only [List.mem_filter, List.mem_range] at hi hj
  have e1 : l.toArray[i]! = l[i] := by simp [hi.1]
  have e2 : l.toArray[j]! = l[j] := by simp [hj.1]
  rw [e1, e2]
  have h1 := hle i (j - 1) hi.1 (by omega) (by omega)
  have h2 := hle (j - 1) j (by omega) hj.1 (by omega)
  have hk := hj.2
  unfold Lib.keeps at hk
  have e3 : l.toArray[j - 1]! = l[j - 1] := by
    have : j - 1 < l.length := by omega
    simp [this]
  have hne : l[j] ≠ l[j - 1] := by
    intro he
    rw [e2, e3] at hk
    simp [he] at hk
    omega
  have h3 : l[j - 1] < l[j] := by
    rcases lt_tri l[j - 1] l[j] with h | h | h
    · exact h
    · exact absurd h.symm hne
    · exact absurd h (List.not_lt.2 h2)
  rcases lt_tri l[i] l[j - 1] with h | h | h
  · exact lt_tr h h3
  · rw [h]; exact h3
  · exact absurd h (List.not_lt.2 h1)
theorem sortS_le (l : List (List UInt8)) : (sortS l).Pairwise (· ≤ ·) := by
  have h1 : (sortS l).Pairwise fun a b => decide (a ≤ b) = true := List.pairwise_mergeSort (fun a b c h1 h2 => by simp only [decide_eq_true_eq] at *; exact List.le_trans h1 h2) (fun a b => by simp only [Bool.or_eq_true, decide_eq_true_eq]; exact List.le_total a b) l
  exact h1.imp fun {a b} h => by simpa using h
mutual
theorem ord_mem (x : List UInt8) : ∀ (t : Tr) (acc : List (List UInt8)), typeB conB t = true → (x ∈ ordT t acc ↔ hasN kiVar x t ∨ x ∈ acc)
  | .mk d n us, acc, h => by
    by_cases hd : d = kiVar
    · subst hd
      obtain ⟨rfl, _⟩ := vT_args h
      simp only [ordT, ordTs, hasN, true_and, if_true]
      split
      · rw [List.mem_append, List.mem_singleton, or_comm]
      · rename_i hn
        have hn' : n ∈ acc := Classical.byContradiction fun hh => hn hh
        constructor
        · exact .inr
        · rintro (rfl | h)
          · exact hn'
          · exact h
    · simp only [typeB, Bool.and_eq_true] at h
      simp only [ordT, hasN, hd, false_and, if_false]
      exact ord_mems x us acc h.2.2.2.2
theorem ord_mems (x : List UInt8) : ∀ (l : List Tr) (acc : List (List UInt8)), typeBs conB l = true → (x ∈ ordTs l acc ↔ hasNs kiVar x l ∨ x ∈ acc)
  | [], acc, _ => by simp [ordTs, hasNs]
  | t :: ts, acc, h => by
    simp only [typeBs, Bool.and_eq_true] at h
    simp only [ordTs, hasNs]
    rw [ord_mems x ts _ h.2, ord_mem x t acc h.1, or_left_comm, or_assoc]
end
mutual
theorem dat_mem (x : List UInt8) : ∀ (t : Tr) (acc : List (List UInt8)), typeB conB t = true → (x ∈ foldT stepD t acc ↔ hasN kiData x t ∨ x ∈ acc)
  | .mk d n us, acc, h => by
    by_cases hd : d = kiData
    · have hus : us = [] := by
        simp only [typeB, Bool.and_eq_true, decide_eq_true_eq] at h
        have h4 := h.2.2.2.1
        rw [hd, show partsI kiData = 0 by decide] at h4
        exact List.length_eq_zero_iff.1 (by omega)
      subst hus
      simp only [foldT, foldTs, stepD, Tr.d, Tr.n, hasN, hd, if_true]
      rw [List.mem_append, List.mem_singleton, or_comm]
    · simp only [typeB, Bool.and_eq_true] at h
      simp only [foldT, stepD, Tr.d, hasN, hd, if_false]
      exact dat_mems x us acc h.2.2.2.2
theorem dat_mems (x : List UInt8) : ∀ (l : List Tr) (acc : List (List UInt8)), typeBs conB l = true → (x ∈ foldTs stepD l acc ↔ hasNs kiData x l ∨ x ∈ acc)
  | [], acc, _ => by simp [foldTs, hasNs]
  | t :: ts, acc, h => by
    simp only [typeBs, Bool.and_eq_true] at h
    simp only [foldTs, hasNs]
    rw [dat_mems x ts _ h.2, dat_mem x t acc h.1, or_left_comm, or_assoc]
end
theorem vars_col {t : Tr} (h : typeB conB t = true) : sortS (ordT t []) = colT kiVar t [] :=
  asc_ext _ _ (sortS_asc (ordT_names t [] h (by simp) (by simp)).1) (col_asc _ _ _ List.Pairwise.nil) fun x => by rw [sortS_mem, ord_mem x t [] h, col_mem]
theorem datas_col {t : Tr} (h : typeB conB t = true) : Lib.compact (sortS (foldT stepD t [])) = colT kiData t [] :=
  asc_ext _ _ (compactS_asc _ (sortS_le _)) (col_asc _ _ _ List.Pairwise.nil) fun x => by rw [compactS_mem, sortS_mem, dat_mem x t [] h, col_mem]

def padS (zs : List (List UInt8)) : List (List UInt8) := Lib.compact zs ++ List.replicate (zs.length - (Lib.compact zs).length) []
theorem padS_len (zs : List (List UInt8)) : (padS zs).length = zs.length := by
  have := Lib.compact_length_le zs
  unfold padS; simp; omega
/-- A shorter row over the same cells. -/
theorem rep_shorter {s : S} {id ver n m sz ab ao cap : Nat} (h : Rep s (.rsl id ver 0 n sz) (.slice (some ⟨ab, ao, none⟩) n cap)) (hm : m ≤ n) : Rep s (.rsl id ver 0 m sz) (.slice (some ⟨ab, ao, none⟩) m cap) := by
  unfold Rep at h ⊢
  obtain ⟨e, b, h1, h2, h3, ab', ao', cap', h4, h5⟩ := h
  simp only [Value.slice.injEq, Option.some.injEq, Addr.mk.injEq, and_true, true_and] at h4
  obtain ⟨⟨rfl, rfl⟩, rfl⟩ := h4
  exact ⟨e, b, h1, h2, h3, _, _, _, rfl, fun hv => ⟨(h5 hv).1, by have := (h5 hv).2.1; omega, (h5 hv).2.2⟩⟩
theorem compactS_ok (zs : List (List UInt8)) (hz : zs.length ≤ 1099511627776) (σ : List Ent) (id ty ver : Nat) (hσ : σ[id]? = some (.arr ty (strsV zs) ver 0)) :
    ACalls E 70 [.rsl id ver 0 zs.length 1] σ fun r τ => r = .rsl id ver 0 (Lib.compact zs).length 1 ∧ τ = σ.set id (.arr ty (strsV (padS zs)) ver 0) := by
  refine .inl ⟨⟨_, Tryz.func70, by kernel_rfl, by kernel_rfl⟩, fun s vs hs hI hΓ hr => ?_⟩
  obtain ⟨v, rfl, hv⟩ := repL1 hr
  rw [← hs] at hσ ⊢
  have hv' := hv
  obtain ⟨ab, ao, cap, b, rfl, hb, hb0, h1, h2, h3, h4, h5, hc, hf⟩ := row_at hI hσ hv
  rcases Nat.eq_zero_or_pos zs.length with h0 | h0
  · obtain rfl : zs = [] := List.length_eq_zero_iff.1 h0
    refine (Tryz.slices_Compact_string_empty _ cap s.w).mono fun e w' ⟨q1, q2⟩ => ⟨_, .rsl id ver 0 0 1, s, q1, q2.symm, hI, Ext.refl s, hv', rfl, ?_⟩
    exact (list_set_self hσ).symm
  · obtain ⟨rfl, rfl⟩ := h4 (by omega)
    have hH := holds_strs (by rw [strsV_len] at h3; exact h3) hc hf
    refine (Tryz.slices_Compact_string b.blk 0 cap zs s.w hH (by omega) h1).mono fun e w' ⟨q1, n, q2⟩ => ?_
    have hpl := padS_len zs
    unfold padS at hpl
    rw [Lib.putRow_eq_setCells _ _ _ _ _ _ _ hH (by simpa using hpl)] at q2
    obtain ⟨s', a1, a2, a3, a4⟩ := row_written (cs := strsV (padS zs)) (ys := (padS zs).map fun l => Value.string ⟨⟨l⟩⟩) hI hσ hb hb0 (by rw [strsV_len, strsV_len, padS_len]) (by rw [strsV_len]; simp) h3 (fun i c y => strsV_rep) n #[]
    have hgrow : ∀ w : World, grow w #[] = w := fun w => by simp [grow]
    rw [hgrow] at a1
    exact ⟨_, _, s', q1, by rw [a1, q2]; rfl, a3, a4, Rep.ext a4 (rep_shorter hv' (Lib.compact_length_le zs)), rfl, a2⟩
theorem compactS_nil (σ : List Ent) : ACalls E 70 [.v (.slice none 0 0)] σ fun r τ => r = .v (.slice none 0 0) ∧ τ = σ := by
  refine acalls_lib ⟨_, Tryz.func70, by kernel_rfl, by kernel_rfl⟩ fun s vs hI hΓ hr => ?_
  obtain ⟨v, rfl, hv⟩ := repL1 hr
  rw [rep_v' hv]
  exact (Tryz.slices_Compact_string_empty none 0 s.w).mono fun e w' ⟨q1, q2⟩ => ⟨_, q1, by rw [q2]; exact Below.refl _ _, by rw [q2]; exact rep_mk_v _ _⟩
theorem frz_strsp {n0 id ver imm ty n : Nat} {l : List Ent} {zs us : List (List UInt8)} (hid : n0 ≤ id) (h : l[id - n0]? = some (.arr ty (strsV (zs ++ us)) ver imm)) (hn : n = zs.length) : Frz n0 l (.rsl id ver 0 n 1) (.sl (strsV zs)) :=
  .rslp (imm := imm) (ag := false) (cells := strsV (zs ++ us)) (tail := strsV us) (es := strsV zs) hid h (by rw [List.drop_zero, strsV_cells, strsV_app]) (by omega) (by rw [strsV_len, hn]) (by omega) (fun e he => strsV_el he) FrzL.refl
set_option maxHeartbeats 8000000 in
theorem Datas_ok (t : Tr) (hl : lenT t) (hcn : cntT t ≤ 2097152) (σ : List Ent) : ACalls E 29 [tyV t] σ fun r τ => r = (if validT conB t = true then .tup [.sl (strsV (colT kiData t [])), i64 0] else .tup [.sl [], i64 40]) ∧ τ = σ := by
  refine xacalls T0 .freeze [] Tryz.func29 rfl (by kernel_rfl) (by kernel_rfl) (by simp [Tryz.ntmps29]) ?_
  have c1 := fun σ' => ValidType_ok t hl σ'
  cases hv : validT conB t
  · simp only [Bool.false_eq_true, if_false]
    rcases t with ⟨d, n, us⟩
    simp only [tyV, hv] at c1
    (simp only [tyV, (vmA), Nat.reduceEqDiff, reduceIte, Nat.reduceAdd, Int.reduceToNat, Int.reduceLE, Int.reduceLT, Int.reduceEq, Int.reduceNe, Int.reduceAdd, Int.reduceSub, Int.reduceNeg, Nat.reduceLT, Nat.reduceLeDiff, Nat.reduceBEq, undef, (stA), Nat.reduceMul]; try simp (disch := omega) only [(vmp)])
    refine xWait.go (c1 _) ?_
    (simp only [(vmA), Nat.reduceEqDiff, reduceIte, Nat.reduceAdd, Int.reduceToNat, Int.reduceLE, Int.reduceLT, Int.reduceEq, Int.reduceNe, Int.reduceAdd, Int.reduceSub, Int.reduceNeg, Nat.reduceLT, Nat.reduceLeDiff, Nat.reduceBEq, undef, (stA), Nat.reduceMul]; try simp (disch := omega) only [(vmp)])
    exact ⟨_, .tup (.cons .none (.cons (.refl _) .nil)), by simp only [AV.low, AV.low.lows, Bool.and_self], rfl⟩
  simp only [if_true]
  have he := each_okB (σ.length + 1) 68 [.ref (σ.length + 1) 0 0] (StD (σ.length + 1)) stepD stepD_len (fun a w τ l h => stD_push h l) (fun a w τ h => ⟨h.1, h.2.1⟩) okT (datas1_ok _) okT_down _ t (Nat.le_refl _) ⟨hl, valid_typ hv⟩
  have hh := he [] (σ.length + 1) (σ ++ [.arr 24 (tyV t).cells 0 0, .arr 29 [.v (.slice none 0 0)] 0 0]) (by simpa using hcn)
    ⟨by simp, by simp, by rw [List.getElem?_append_right (by omega), Nat.add_sub_cancel_left]; rfl, fun h => absurd rfl h⟩
  have hlen := foldT_len stepD stepD_len t []
  rw [← datas_col (valid_typ hv)]
  generalize foldT stepD t [] = acc at *
  simp only [List.length_nil] at hlen
  rcases t with ⟨d, n, us⟩
  simp only [tyV, AV.cells] at hh
  simp only [tyV, hv] at c1
  (simp only [tyV, (vmA), Nat.reduceEqDiff, reduceIte, Nat.reduceAdd, Int.reduceToNat, Int.reduceLE, Int.reduceLT, Int.reduceEq, Int.reduceNe, Int.reduceAdd, Int.reduceSub, Int.reduceNeg, Nat.reduceLT, Nat.reduceLeDiff, Nat.reduceBEq, undef, (stA), Nat.reduceMul]; try simp (disch := omega) only [(vmp)])
  refine xWait.go (c1 _) ?_
  (simp only [(vmA), Nat.reduceEqDiff, reduceIte, Nat.reduceAdd, Int.reduceToNat, Int.reduceLE, Int.reduceLT, Int.reduceEq, Int.reduceNe, Int.reduceAdd, Int.reduceSub, Int.reduceNeg, Nat.reduceLT, Nat.reduceLeDiff, Nat.reduceBEq, undef, (stA), Nat.reduceMul]; try simp (disch := omega) only [(vmp)])
  refine xWait.of hh ?_
  rintro r τ1 ⟨rfl, w, ⟨a1, a2, a3, a4⟩, h2⟩
  have hG : List.take σ.length τ1 = σ := by
    apply List.ext_getElem?
    intro i
    rw [List.getElem?_take]
    by_cases hi : i < σ.length
    · rw [if_pos hi, h2.old i (by simp; omega) (by omega) (by omega), List.getElem?_append_left hi]
    · rw [if_neg hi, List.getElem?_eq_none (by omega)]
  generalize hL : List.drop σ.length τ1 = L
  have hGL : τ1 = σ ++ L := by rw [← hL]; exact (List.take_append_drop σ.length τ1).symm.trans (by rw [hG])
  subst hGL
  clear hG hL
  have hcell : L[1]? = some (.arr 29 [rowN w acc] 0 0) := by
    rw [List.getElem?_append_right (by omega), Nat.add_sub_cancel_left] at a3; exact a3
  rw [List.take_left]
  have gs : sget σ L (σ.length + 1) = some (.arr 29 [rowN w acc] 0 0) := by rw [sget_l]; exact hcell
  rcases acc with _ | ⟨a0, r0⟩
  · (simp only [gs, rowN, (vmA), Nat.reduceEqDiff, reduceIte, Nat.reduceAdd, Int.reduceToNat, Int.reduceLE, Int.reduceLT, Int.reduceEq, Int.reduceNe, Int.reduceAdd, Int.reduceSub, Int.reduceNeg, Nat.reduceLT, Nat.reduceLeDiff, Nat.reduceBEq, undef, (stA), Nat.reduceMul]; try simp (disch := omega) only [(vmp)])
    refine xWait.go (sort0_ok _) ?_
    (simp only [gs, rowN, (vmA), Nat.reduceEqDiff, reduceIte, Nat.reduceAdd, Int.reduceToNat, Int.reduceLE, Int.reduceLT, Int.reduceEq, Int.reduceNe, Int.reduceAdd, Int.reduceSub, Int.reduceNeg, Nat.reduceLT, Nat.reduceLeDiff, Nat.reduceBEq, undef, (stA), Nat.reduceMul]; try simp (disch := omega) only [(vmp)])
    refine xWait.go (compactS_nil _) ?_
    (simp only [(vmA), Nat.reduceEqDiff, reduceIte, Nat.reduceAdd, Int.reduceToNat, Int.reduceLE, Int.reduceLT, Int.reduceEq, Int.reduceNe, Int.reduceAdd, Int.reduceSub, Int.reduceNeg, Nat.reduceLT, Nat.reduceLeDiff, Nat.reduceBEq, undef, (stA), Nat.reduceMul]; try simp (disch := omega) only [(vmp)])
    exact ⟨_, .tup (.cons .none (.cons (.refl _) .nil)), by simp only [AV.low, AV.low.lows, Bool.and_self], by unfold sortS; rw [List.mergeSort_nil]; rfl⟩
  · simp only [List.length_cons] at hlen
    obtain ⟨hwc, hw⟩ := a4 (by simp)
    have hwb : σ.length ≤ w := by
      rcases h2.row with h | h
      · omega
      · simp only [List.length_append, List.length_cons, List.length_nil] at h; omega
    obtain ⟨w0, rfl⟩ : ∃ w0, w = σ.length + w0 := ⟨w - σ.length, by omega⟩
    have hL0 : L[w0]? = some (.arr 9 (strsV (a0 :: r0)) r0.length 0) := by rw [List.getElem?_append_right (by omega), Nat.add_sub_cancel_left] at hw; exact hw
    have hls : (sortS (a0 :: r0)).length = r0.length + 1 := List.length_mergeSort _
    have c3 := sortS_ok (a0 :: r0) (by simp only [List.length_cons]; omega) (σ ++ L) (σ.length + w0) 9 r0.length hw
    have c4 := compactS_ok (sortS (a0 :: r0)) (by omega) (σ ++ L.set w0 (.arr 9 (strsV (sortS (a0 :: r0))) r0.length 0)) (σ.length + w0) 9 r0.length (by rw [List.getElem?_append_right (by omega), Nat.add_sub_cancel_left, get_set_self hL0])
    rw [List.set_append_right _ _ (by omega), Nat.add_sub_cancel_left] at c3 c4
    simp only [List.length_cons] at c3
    rw [hls] at c4
    have hcell2 : ∀ e, (L.set w0 e)[1]? = some (.arr 29 [.rsl (σ.length + w0) r0.length 0 (r0.length + 1) 1] 0 0) := fun e => by rw [get_set_ne (by omega), hcell]; rfl
    have gs2 : ∀ e, sget σ (L.set w0 e) (σ.length + 1) = some (.arr 29 [.rsl (σ.length + w0) r0.length 0 (r0.length + 1) 1] 0 0) := fun e => by rw [sget_l]; exact hcell2 e
    (simp only [gs, rowN, (vmA), Nat.reduceEqDiff, reduceIte, Nat.reduceAdd, Int.reduceToNat, Int.reduceLE, Int.reduceLT, Int.reduceEq, Int.reduceNe, Int.reduceAdd, Int.reduceSub, Int.reduceNeg, Nat.reduceLT, Nat.reduceLeDiff, Nat.reduceBEq, undef, (stA), Nat.reduceMul]; try simp (disch := omega) only [(vmp)])
    refine xWait.go c3 ?_
    (simp only [gs2, (vmA), Nat.reduceEqDiff, reduceIte, Nat.reduceAdd, Int.reduceToNat, Int.reduceLE, Int.reduceLT, Int.reduceEq, Int.reduceNe, Int.reduceAdd, Int.reduceSub, Int.reduceNeg, Nat.reduceLT, Nat.reduceLeDiff, Nat.reduceBEq, undef, (stA), Nat.reduceMul]; try simp (disch := omega) only [(vmp)])
    refine xWait.go c4 ?_
    (simp only [(vmA), Nat.reduceEqDiff, reduceIte, Nat.reduceAdd, Int.reduceToNat, Int.reduceLE, Int.reduceLT, Int.reduceEq, Int.reduceNe, Int.reduceAdd, Int.reduceSub, Int.reduceNeg, Nat.reduceLT, Nat.reduceLeDiff, Nat.reduceBEq, undef, (stA), Nat.reduceMul]; try simp (disch := omega) only [(vmp)])
    exact ⟨_, .tup (.cons (frz_strsp (us := List.replicate ((sortS (a0 :: r0)).length - (Lib.compact (sortS (a0 :: r0))).length) []) (by omega) (by rw [Nat.add_sub_cancel_left, List.set_set, get_set_self hL0]; rfl) rfl) (.cons (.refl _) .nil)), by simp only [AV.low, AV.low.lows, strsV_low, Bool.and_self], rfl⟩
end Go.D

/- The sanity check, as what is asked of it. -/
set_option linter.unusedVariables false
set_option linter.unusedSimpArgs false
set_option linter.unnecessarySimpa false
set_option maxRecDepth 100000
namespace Go.D
open Go Go.Vm Go.Proofs Go.RowKit


/-- The example holds. -/
def AwakeOK : Prop := ∀ σ : List Ent, ACalls E 15 [] σ fun r τ => r = boolV true ∧ τ = σ
end Go.D

/- The variables and datatypes of a type, its depth, whether it is closed and plain, its canonical form: the law. -/
set_option linter.unusedVariables false
set_option linter.unusedSimpArgs false
set_option linter.unnecessarySimpa false
set_option maxRecDepth 100000
namespace Go.D
open Go Go.Vm Go.Proofs Go.RowKit

theorem if_tup (b : Bool) (x y : AV) (i j : Int) : (if b = true then AV.tup [x, i64 i] else .tup [y, i64 j]) = .tup [if b = true then x else y, i64 (if b = true then i else j)] := by cases b <;> rfl
theorem if_strs (b : Bool) (l : List (List UInt8)) : (if b = true then AV.sl (strsV l) else .sl []) = .sl (strsV (if b = true then l else [])) := by cases b <;> rfl
theorem if_bool (b x : Bool) : (if b = true then boolV x else boolV false) = boolV (b && x) := by cases b <;> rfl
theorem if_int (b : Bool) (x : Int) : (if b = true then i64 x else i64 0) = i64 (if b = true then x else 0) := by cases b <;> rfl
set_option maxHeartbeats 16000000 in
theorem law_asked (haw : AwakeOK) (t : Tr) (hb : bulkT t ≤ 1048576) (σ : List Ent) :
    HasBody E 10 ∧ ∀ (z : S) (vs : List Value), z.σ = σ → HInv z → E.Γ z.B z.w → RepL z [tyV t] vs →
      Calls E.P 10 vs.toArray z.w fun e w' => ∃ v r s', e = .returned v ∧ s'.w = w' ∧ HInv s' ∧ Ext z s' ∧ Rep s' r v ∧ (r = boolV true ∧ s'.σ = σ) := by
  refine xbody T0 .drop [] Tryz.func10 rfl (by kernel_rfl) (by kernel_rfl) (by simp [Tryz.ntmps10]) (R := fun r τ => r = boolV true ∧ τ = σ) ?_
  have hl := bulk_len t hb
  have hcb := cnt_bulk t
  have c1 : ∀ σ', ACalls E 14 [tyV t] σ' fun r τ => r = (if validT conB t = true then .tup [.sl (strsV (colT kiVar t [])), i64 0] else .tup [.sl [], i64 40]) ∧ τ = σ' := fun σ' => by
    have := Vars_ok t hl σ'
    cases hv : validT conB t
    · rw [hv] at this; exact this
    · rw [hv] at this; rw [← vars_col (valid_typ hv)]; exact this
  have c2 := fun σ' => VarsR_ok t hb σ'
  have c3 := fun σ' => Datas_ok t hl (by omega) σ'
  have c4 := fun σ' => DatasR_ok t hb σ'
  have c5 := fun σ' => Depth_ok t hl σ'
  have c6 := fun σ' => DepthR_ok t hb σ'
  have c7 := fun σ' => Canonical_ok t hl (fun σ2 ho => clone_ok _ (canT t) (Nat.le_refl _) σ2 (canT_ok ho)) σ'
  have c8 := fun σ' => CanonicalR_ok t hb σ'
  have c9 := fun σ' => Closed_ok t hl σ'
  have c10 := fun σ' => ClosedR_ok t hb σ'
  have c11 := fun σ' => Plain_ok t hl σ'
  have c12 := fun σ' => PlainR_ok t hb σ'
  have l1 := col_len kiVar t []
  have l2 := col_len kiData t []
  simp only [List.length_nil] at l1 l2
  have hcan : lenT (canR t).1 := by
    unfold canR
    split
    · rename_i hv; exact (canT_ok ⟨hl, valid_typ hv⟩).1
    · simp [lenT, lenTs]
  have q3 := fun σ' => SameType2_ok _ (canR t).1 (Nat.le_refl _) (canR t).1 σ' hcan hcan
  rw [sameB_refl] at q3
  simp only [if_tup, if_strs, if_bool, if_int] at c1 c2 c3 c4 c5 c6 c9 c10 c11 c12
  generalize hB : validT conB t = B at *
  have l1' : (if B = true then colT kiVar t [] else []).length ≤ 1048576 := by
    split
    · omega
    · simp
  have l2' : (if B = true then colT kiData t [] else []).length ≤ 1048576 := by
    split
    · omega
    · simp
  generalize (if B = true then colT kiVar t [] else []) = V at *
  generalize (if B = true then colT kiData t [] else []) = D at *
  generalize (if B = true then (ofT t).2 else 0) = dp at *
  generalize (B && noneB [kiVar] t) = cl at *
  generalize (B && noneB kPlain t) = pl at *
  generalize (if B = true then (0 : Int) else 40) = e at *
  have q1 := fun σ' => SameTexts_ok V V (by omega) (by omega) σ'
  have q2 := fun σ' => SameTexts_ok D D (by omega) (by omega) σ'
  simp only [decide_true] at q1 q2
  generalize canR t = R at *
  rcases R with ⟨⟨d2, n2, us2⟩, e2⟩
  rcases t with ⟨d, n, us⟩
  simp only [tyV] at c1 c2 c3 c4 c5 c6 c7 c8 c9 c10 c11 c12 q3
  (simp only [tyV, (vmA), Nat.reduceEqDiff, reduceIte, Nat.reduceAdd, Int.reduceToNat, Int.reduceLE, Int.reduceLT, Int.reduceEq, Int.reduceNe, Int.reduceAdd, Int.reduceSub, Int.reduceNeg, Nat.reduceLT, Nat.reduceLeDiff, Nat.reduceBEq, undef, (stA), Nat.reduceMul]; try simp (disch := omega) only [(vmp)])
  refine xWait.go (c1 _) ?_
  (simp only [(vmA), Nat.reduceEqDiff, reduceIte, Nat.reduceAdd, Int.reduceToNat, Int.reduceLE, Int.reduceLT, Int.reduceEq, Int.reduceNe, Int.reduceAdd, Int.reduceSub, Int.reduceNeg, Nat.reduceLT, Nat.reduceLeDiff, Nat.reduceBEq, undef, (stA), Nat.reduceMul]; try simp (disch := omega) only [(vmp)])
  refine xWait.go (c2 _) ?_
  (simp only [(vmA), Nat.reduceEqDiff, reduceIte, Nat.reduceAdd, Int.reduceToNat, Int.reduceLE, Int.reduceLT, Int.reduceEq, Int.reduceNe, Int.reduceAdd, Int.reduceSub, Int.reduceNeg, Nat.reduceLT, Nat.reduceLeDiff, Nat.reduceBEq, undef, (stA), Nat.reduceMul]; try simp (disch := omega) only [(vmp)])
  refine xWait.go (c3 _) ?_
  (simp only [(vmA), Nat.reduceEqDiff, reduceIte, Nat.reduceAdd, Int.reduceToNat, Int.reduceLE, Int.reduceLT, Int.reduceEq, Int.reduceNe, Int.reduceAdd, Int.reduceSub, Int.reduceNeg, Nat.reduceLT, Nat.reduceLeDiff, Nat.reduceBEq, undef, (stA), Nat.reduceMul]; try simp (disch := omega) only [(vmp)])
  refine xWait.go (c4 _) ?_
  (simp only [(vmA), Nat.reduceEqDiff, reduceIte, Nat.reduceAdd, Int.reduceToNat, Int.reduceLE, Int.reduceLT, Int.reduceEq, Int.reduceNe, Int.reduceAdd, Int.reduceSub, Int.reduceNeg, Nat.reduceLT, Nat.reduceLeDiff, Nat.reduceBEq, undef, (stA), Nat.reduceMul]; try simp (disch := omega) only [(vmp)])
  refine xWait.go (q1 _) ?_
  (simp only [(vmA), Nat.reduceEqDiff, reduceIte, Nat.reduceAdd, Int.reduceToNat, Int.reduceLE, Int.reduceLT, Int.reduceEq, Int.reduceNe, Int.reduceAdd, Int.reduceSub, Int.reduceNeg, Nat.reduceLT, Nat.reduceLeDiff, Nat.reduceBEq, undef, (stA), Nat.reduceMul]; try simp (disch := omega) only [(vmp)])
  refine xWait.go (q2 _) ?_
  (simp only [(vmA), Nat.reduceEqDiff, reduceIte, Nat.reduceAdd, Int.reduceToNat, Int.reduceLE, Int.reduceLT, Int.reduceEq, Int.reduceNe, Int.reduceAdd, Int.reduceSub, Int.reduceNeg, Nat.reduceLT, Nat.reduceLeDiff, Nat.reduceBEq, undef, (stA), Nat.reduceMul]; try simp (disch := omega) only [(vmp)])
  refine xWait.go (c5 _) ?_
  (simp only [(vmA), Nat.reduceEqDiff, reduceIte, Nat.reduceAdd, Int.reduceToNat, Int.reduceLE, Int.reduceLT, Int.reduceEq, Int.reduceNe, Int.reduceAdd, Int.reduceSub, Int.reduceNeg, Nat.reduceLT, Nat.reduceLeDiff, Nat.reduceBEq, undef, (stA), Nat.reduceMul]; try simp (disch := omega) only [(vmp)])
  refine xWait.go (c6 _) ?_
  (simp only [(vmA), Nat.reduceEqDiff, reduceIte, Nat.reduceAdd, Int.reduceToNat, Int.reduceLE, Int.reduceLT, Int.reduceEq, Int.reduceNe, Int.reduceAdd, Int.reduceSub, Int.reduceNeg, Nat.reduceLT, Nat.reduceLeDiff, Nat.reduceBEq, undef, (stA), Nat.reduceMul]; try simp (disch := omega) only [(vmp)])
  refine xWait.go (c7 _) ?_
  (simp only [(vmA), Nat.reduceEqDiff, reduceIte, Nat.reduceAdd, Int.reduceToNat, Int.reduceLE, Int.reduceLT, Int.reduceEq, Int.reduceNe, Int.reduceAdd, Int.reduceSub, Int.reduceNeg, Nat.reduceLT, Nat.reduceLeDiff, Nat.reduceBEq, undef, (stA), Nat.reduceMul]; try simp (disch := omega) only [(vmp)])
  refine xWait.go (c8 _) ?_
  (simp only [(vmA), Nat.reduceEqDiff, reduceIte, Nat.reduceAdd, Int.reduceToNat, Int.reduceLE, Int.reduceLT, Int.reduceEq, Int.reduceNe, Int.reduceAdd, Int.reduceSub, Int.reduceNeg, Nat.reduceLT, Nat.reduceLeDiff, Nat.reduceBEq, undef, (stA), Nat.reduceMul]; try simp (disch := omega) only [(vmp)])
  refine xWait.go (q3 _) ?_
  (simp only [(vmA), Nat.reduceEqDiff, reduceIte, Nat.reduceAdd, Int.reduceToNat, Int.reduceLE, Int.reduceLT, Int.reduceEq, Int.reduceNe, Int.reduceAdd, Int.reduceSub, Int.reduceNeg, Nat.reduceLT, Nat.reduceLeDiff, Nat.reduceBEq, undef, (stA), Nat.reduceMul]; try simp (disch := omega) only [(vmp)])
  refine xWait.go (c9 _) ?_
  (simp only [(vmA), Nat.reduceEqDiff, reduceIte, Nat.reduceAdd, Int.reduceToNat, Int.reduceLE, Int.reduceLT, Int.reduceEq, Int.reduceNe, Int.reduceAdd, Int.reduceSub, Int.reduceNeg, Nat.reduceLT, Nat.reduceLeDiff, Nat.reduceBEq, undef, (stA), Nat.reduceMul]; try simp (disch := omega) only [(vmp)])
  refine xWait.go (c10 _) ?_
  (simp only [(vmA), Nat.reduceEqDiff, reduceIte, Nat.reduceAdd, Int.reduceToNat, Int.reduceLE, Int.reduceLT, Int.reduceEq, Int.reduceNe, Int.reduceAdd, Int.reduceSub, Int.reduceNeg, Nat.reduceLT, Nat.reduceLeDiff, Nat.reduceBEq, undef, (stA), Nat.reduceMul]; try simp (disch := omega) only [(vmp)])
  refine xWait.go (c11 _) ?_
  (simp only [(vmA), Nat.reduceEqDiff, reduceIte, Nat.reduceAdd, Int.reduceToNat, Int.reduceLE, Int.reduceLT, Int.reduceEq, Int.reduceNe, Int.reduceAdd, Int.reduceSub, Int.reduceNeg, Nat.reduceLT, Nat.reduceLeDiff, Nat.reduceBEq, undef, (stA), Nat.reduceMul]; try simp (disch := omega) only [(vmp)])
  refine xWait.go (c12 _) ?_
  (simp only [(vmA), Nat.reduceEqDiff, reduceIte, Nat.reduceAdd, Int.reduceToNat, Int.reduceLE, Int.reduceLT, Int.reduceEq, Int.reduceNe, Int.reduceAdd, Int.reduceSub, Int.reduceNeg, Nat.reduceLT, Nat.reduceLeDiff, Nat.reduceBEq, undef, (stA), Nat.reduceMul]; try simp (disch := omega) only [(vmp)])
  refine xWait.go (haw _) ?_
  (simp only [(vmA), Nat.reduceEqDiff, reduceIte, Nat.reduceAdd, Int.reduceToNat, Int.reduceLE, Int.reduceLT, Int.reduceEq, Int.reduceNe, Int.reduceAdd, Int.reduceSub, Int.reduceNeg, Nat.reduceLT, Nat.reduceLeDiff, Nat.reduceBEq, undef, (stA), Nat.reduceMul]; try simp (disch := omega) only [(vmp)])
end Go.D
