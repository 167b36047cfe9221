/- The law of what is read again, as a call over values. -/
import Derived.Test.YtikjefmoclienaaGreatDoorFnK
import Derived.Test.YtikjefmoclienaaGreatDoorVmX
set_option linter.unusedVariables false
set_option linter.unusedSimpArgs false
set_option maxRecDepth 100000
namespace Go.D
open Go Go.Vm Go.Proofs Go.RowKit

def toI (x : Tok) : TokI := (x.1, x.2.1, (x.2.2 : Int))
theorem rowV_toI (ts : List Tok) (h : ts ≠ []) : rowV ts = .sl ((ts.map toI).map avI) := by
  rcases ts with _ | ⟨a, r⟩
  · exact absurd rfl h
  · rw [rowV, List.map_map]; rfl
theorem placed_len : ∀ (l : List (List UInt8 × List UInt8)) (p : Nat), (placed p l).length = l.length
  | [], _ => rfl
  | x :: r, p => by rw [placed, List.length_cons, placed_len r]; rfl
theorem placed_at : ∀ (l : List (List UInt8 × List UInt8)) (p i : Nat), i < l.length → (getI ((placed p l).map toI) i).1 = (l.getD i ([], [])).1 ∧ (getI ((placed p l).map toI) i).2.1 = (l.getD i ([], [])).2
  | [], _, i, h => by simp at h
  | x :: r, p, 0, _ => ⟨rfl, rfl⟩
  | x :: r, p, i + 1, h => placed_at r _ i (by simpa using h)

/-- Tokens of a list, read back: the same but for places. -/
theorem same_back (l : List TokI) (hl : l.length ≤ 10000) (σ : List Ent) :
    ACalls E 19 [.sl (l.map avI), rowV (placed 0 (l.map fun x => (x.1, x.2.1))), boolV false] σ fun r τ => r = boolV true ∧ τ = σ := by
  rcases l with _ | ⟨a, r⟩
  · exact Same_none _ _ false (.inl rfl) (.inr rfl) σ
  · rw [rowV_toI _ (by simp [placed])]
    refine Same_I _ _ false (by omega) (by rw [List.length_map, placed_len, List.length_map]) (fun i hi => ?_) σ
    have h := placed_at ((a :: r).map fun x => (x.1, x.2.1)) 0 i (by rw [List.length_map]; exact hi)
    refine ⟨?_, ?_, fun e => by cases e⟩
    · rw [h.1]; rw [List.getD_eq_getElem?_getD, List.getElem?_map]; unfold getI; rw [List.getD_eq_getElem?_getD, List.getElem?_eq_getElem hi]; rfl
    · rw [h.2]; rw [List.getD_eq_getElem?_getD, List.getElem?_map]; unfold getI; rw [List.getD_eq_getElem?_getD, List.getElem?_eq_getElem hi]; rfl

theorem texts_eq (l : List TokI) : l.map txtOf = (l.map fun x => (x.1, x.2.1)).map fun x => textS x.1 x.2 := by
  rw [List.map_map]; rfl
theorem toks_join (l : List TokI) (h : l.all valOf = true) : toks 0 (joinS (l.map txtOf)) = some (placed 0 (l.map fun x => (x.1, x.2.1))) := by
  rw [texts_eq]
  refine toks_back _ 0 fun x hx => ?_
  obtain ⟨y, hy, rfl⟩ := List.mem_map.1 hx
  exact List.all_eq_true.1 h y hy

theorem unquote_quote (t : List UInt8) (h : isTextB t = true) : unquoteV (quoteT t) = .tup [.str t, i64 0] := by
  unfold isTextB at h
  rw [Bool.and_eq_true, decide_eq_true_eq] at h
  have e : quoteT t = 34 :: (quoteS t ++ [34]) := by simp [quoteT]
  rw [e, unquoteV, if_pos rfl, qS_back [] t h.1]
  simp only
  rw [if_pos ⟨by simp, h.2⟩]
theorem quote_unquote (l t : List UInt8) (h : unquoteV l = .tup [.str t, i64 0]) : isTextB t = true ∧ quoteT t = l := by
  rcases l with _ | ⟨a, r⟩
  · simp [unquoteV] at h
  · rw [unquoteV] at h
    split at h
    · rename_i ha
      cases hq : qS r with
      | none => rw [hq] at h; simp at h
      | some x =>
        obtain ⟨n, t'⟩ := x
        rw [hq] at h
        simp only at h
        split at h
        · rename_i hc
          have : t' = t := by simpa using h
          subst this
          refine ⟨?_, ?_⟩
          · unfold isTextB; rw [qS_txt _ r (Nat.le_refl _) n t' hq, decide_eq_true hc.2]; rfl
          · have := qS_quote _ r (Nat.le_refl _) n t' hq
            rw [hc.1, List.take_of_length_le (Nat.le_refl _)] at this
            rw [this, ha]; simp [quoteT]
        · simp at h
    · simp at h

theorem whereP_all (text : List UInt8) : ∀ (ts : List Tok) (e : Nat), whereP text e ts → ∀ x ∈ ts, validB x.1 x.2.1 = true ∧ x.2.1.length ≤ text.length
  | [], _, _, x, hx => by cases hx
  | y :: r, e, h, x, hx => by
    obtain ⟨h1, h2, h3, h4, h5⟩ := h
    rcases List.mem_cons.1 hx with rfl | hx
    · have := textS_len x.1 x.2.1
      exact ⟨h1, by omega⟩
    · exact whereP_all text r _ h5 x hx

set_option maxHeartbeats 8000000 in
theorem law_back (t : List UInt8) (l : List TokI) (hl : l.length ≤ 9223372036854775807) : HasBody E 5 ∧ ∀ (s : S) (vs : List Value), s.σ = [] → HInv s → E.Γ s.B s.w → RepL s [.str t, .sl (l.map avI)] vs →
    Calls E.P 5 vs.toArray s.w fun e w' => ∃ v r s', e = .returned v ∧ s'.w = w' ∧ HInv s' ∧ Ext s s' ∧ Rep s' r v ∧ (r = boolV true ∧ s'.σ = []) := by
  refine xbody T0 .drop [] Tryz.func5 rfl (by kernel_rfl) (by kernel_rfl) (by simp [Tryz.ntmps5]) (R := fun r τ => r = boolV true ∧ τ = []) ?_
  (simp only [(vm1), (vm2), (vm3), (vm4), aDet, ev, tget, tput, ofC, ofC1, pureR, condR, abin, aun, alen, gslot, Nat.reduceEqDiff, reduceIte, argTs, asliceS, asliceL, bnd, boolV, intV, retQ, aRes, aResV, oneAV, AV.low, AV.low.lows, Nat.reduceAdd, isStringD, isSliceD, isBoolD, setRange, AV.cells, AV.isCell, AV.isAgg, abytes, aconv, aeq, isConst, isByteD, isIfaceD, endQ, Int.reduceToNat, Int.reduceLE, Int.reduceLT, Int.reduceEq, Int.reduceNe, Int.reduceAdd, Int.reduceSub, Int.reduceNeg, Nat.reduceLT, Nat.reduceLeDiff, Ent.ver, Ent.imm, Ent.ty, lits, isEl, newCells, aappend, Nat.reduceBEq, fill, undef, (st1), (st2), (st3), (st4), (st5)]; try simp (disch := omega) only [wrapI64, Int.toNat_natCast, ← Int.natCast_add, nat_add_one, nat_add_two, take_drop_all, List.drop_zero, Nat.sub_zero, Nat.add_sub_cancel_left])
  by_cases h5 : (5000 : Int) < t.length
  · (simp only [h5, (vm1), (vm2), (vm3), (vm4), aDet, ev, tget, tput, ofC, ofC1, pureR, condR, abin, aun, alen, gslot, Nat.reduceEqDiff, reduceIte, argTs, asliceS, asliceL, bnd, boolV, intV, retQ, aRes, aResV, oneAV, AV.low, AV.low.lows, Nat.reduceAdd, isStringD, isSliceD, isBoolD, setRange, AV.cells, AV.isCell, AV.isAgg, abytes, aconv, aeq, isConst, isByteD, isIfaceD, endQ, Int.reduceToNat, Int.reduceLE, Int.reduceLT, Int.reduceEq, Int.reduceNe, Int.reduceAdd, Int.reduceSub, Int.reduceNeg, Nat.reduceLT, Nat.reduceLeDiff, Ent.ver, Ent.imm, Ent.ty, lits, isEl, newCells, aappend, Nat.reduceBEq, fill, undef, (st1), (st2), (st3), (st4), (st5)]; try simp (disch := omega) only [wrapI64, Int.toNat_natCast, ← Int.natCast_add, nat_add_one, nat_add_two, take_drop_all, List.drop_zero, Nat.sub_zero, Nat.add_sub_cancel_left])
    refine xWait.go (Sane_ok _) ?_
    (simp only [(vm1), (vm2), (vm3), (vm4), aDet, ev, tget, tput, ofC, ofC1, pureR, condR, abin, aun, alen, gslot, Nat.reduceEqDiff, reduceIte, argTs, asliceS, asliceL, bnd, boolV, intV, retQ, aRes, aResV, oneAV, AV.low, AV.low.lows, Nat.reduceAdd, isStringD, isSliceD, isBoolD, setRange, AV.cells, AV.isCell, AV.isAgg, abytes, aconv, aeq, isConst, isByteD, isIfaceD, endQ, Int.reduceToNat, Int.reduceLE, Int.reduceLT, Int.reduceEq, Int.reduceNe, Int.reduceAdd, Int.reduceSub, Int.reduceNeg, Nat.reduceLT, Nat.reduceLeDiff, Ent.ver, Ent.imm, Ent.ty, lits, isEl, newCells, aappend, Nat.reduceBEq, fill, undef, (st1), (st2), (st3), (st4), (st5)]; try simp (disch := omega) only [wrapI64, Int.toNat_natCast, ← Int.natCast_add, nat_add_one, nat_add_two, take_drop_all, List.drop_zero, Nat.sub_zero, Nat.add_sub_cancel_left])
  (simp only [h5, (vm1), (vm2), (vm3), (vm4), aDet, ev, tget, tput, ofC, ofC1, pureR, condR, abin, aun, alen, gslot, Nat.reduceEqDiff, reduceIte, argTs, asliceS, asliceL, bnd, boolV, intV, retQ, aRes, aResV, oneAV, AV.low, AV.low.lows, Nat.reduceAdd, isStringD, isSliceD, isBoolD, setRange, AV.cells, AV.isCell, AV.isAgg, abytes, aconv, aeq, isConst, isByteD, isIfaceD, endQ, Int.reduceToNat, Int.reduceLE, Int.reduceLT, Int.reduceEq, Int.reduceNe, Int.reduceAdd, Int.reduceSub, Int.reduceNeg, Nat.reduceLT, Nat.reduceLeDiff, Ent.ver, Ent.imm, Ent.ty, lits, isEl, newCells, aappend, Nat.reduceBEq, fill, undef, (st1), (st2), (st3), (st4), (st5)]; try simp (disch := omega) only [wrapI64, Int.toNat_natCast, ← Int.natCast_add, nat_add_one, nat_add_two, take_drop_all, List.drop_zero, Nat.sub_zero, Nat.add_sub_cancel_left])
  refine xWait.go (Long_ok l hl _) ?_
  cases hlong : longB l
  rotate_left
  · (simp only [(vm1), (vm2), (vm3), (vm4), aDet, ev, tget, tput, ofC, ofC1, pureR, condR, abin, aun, alen, gslot, Nat.reduceEqDiff, reduceIte, argTs, asliceS, asliceL, bnd, boolV, intV, retQ, aRes, aResV, oneAV, AV.low, AV.low.lows, Nat.reduceAdd, isStringD, isSliceD, isBoolD, setRange, AV.cells, AV.isCell, AV.isAgg, abytes, aconv, aeq, isConst, isByteD, isIfaceD, endQ, Int.reduceToNat, Int.reduceLE, Int.reduceLT, Int.reduceEq, Int.reduceNe, Int.reduceAdd, Int.reduceSub, Int.reduceNeg, Nat.reduceLT, Nat.reduceLeDiff, Ent.ver, Ent.imm, Ent.ty, lits, isEl, newCells, aappend, Nat.reduceBEq, fill, undef, (st1), (st2), (st3), (st4), (st5)]; try simp (disch := omega) only [wrapI64, Int.toNat_natCast, ← Int.natCast_add, nat_add_one, nat_add_two, take_drop_all, List.drop_zero, Nat.sub_zero, Nat.add_sub_cancel_left])
    refine xWait.go (Sane_ok _) ?_
    (simp only [(vm1), (vm2), (vm3), (vm4), aDet, ev, tget, tput, ofC, ofC1, pureR, condR, abin, aun, alen, gslot, Nat.reduceEqDiff, reduceIte, argTs, asliceS, asliceL, bnd, boolV, intV, retQ, aRes, aResV, oneAV, AV.low, AV.low.lows, Nat.reduceAdd, isStringD, isSliceD, isBoolD, setRange, AV.cells, AV.isCell, AV.isAgg, abytes, aconv, aeq, isConst, isByteD, isIfaceD, endQ, Int.reduceToNat, Int.reduceLE, Int.reduceLT, Int.reduceEq, Int.reduceNe, Int.reduceAdd, Int.reduceSub, Int.reduceNeg, Nat.reduceLT, Nat.reduceLeDiff, Ent.ver, Ent.imm, Ent.ty, lits, isEl, newCells, aappend, Nat.reduceBEq, fill, undef, (st1), (st2), (st3), (st4), (st5)]; try simp (disch := omega) only [wrapI64, Int.toNat_natCast, ← Int.natCast_add, nat_add_one, nat_add_two, take_drop_all, List.drop_zero, Nat.sub_zero, Nat.add_sub_cancel_left])
  obtain ⟨h200, hx⟩ := long_short hlong
  (simp only [(vm1), (vm2), (vm3), (vm4), aDet, ev, tget, tput, ofC, ofC1, pureR, condR, abin, aun, alen, gslot, Nat.reduceEqDiff, reduceIte, argTs, asliceS, asliceL, bnd, boolV, intV, retQ, aRes, aResV, oneAV, AV.low, AV.low.lows, Nat.reduceAdd, isStringD, isSliceD, isBoolD, setRange, AV.cells, AV.isCell, AV.isAgg, abytes, aconv, aeq, isConst, isByteD, isIfaceD, endQ, Int.reduceToNat, Int.reduceLE, Int.reduceLT, Int.reduceEq, Int.reduceNe, Int.reduceAdd, Int.reduceSub, Int.reduceNeg, Nat.reduceLT, Nat.reduceLeDiff, Ent.ver, Ent.imm, Ent.ty, lits, isEl, newCells, aappend, Nat.reduceBEq, fill, undef, (st1), (st2), (st3), (st4), (st5)]; try simp (disch := omega) only [wrapI64, Int.toNat_natCast, ← Int.natCast_add, nat_add_one, nat_add_two, take_drop_all, List.drop_zero, Nat.sub_zero, Nat.add_sub_cancel_left])
  refine xWait.cut (.cut2 (fun ts g l' => Sub ts [(0, .str t), (1, .sl (l.map avI))] ∧ g = [] ∧ l' = []) ?_) ?_
  · rintro ts g l' ⟨hts, rfl, rfl⟩
    simp only [sub_cons, sub_nil, and_true] at hts
    obtain ⟨h0, h1⟩ := hts
    (simp only [h0, h1, (vm1), (vm2), (vm3), (vm4), aDet, ev, tget, tput, ofC, ofC1, pureR, condR, abin, aun, alen, gslot, Nat.reduceEqDiff, reduceIte, argTs, asliceS, asliceL, bnd, boolV, intV, retQ, aRes, aResV, oneAV, AV.low, AV.low.lows, Nat.reduceAdd, isStringD, isSliceD, isBoolD, setRange, AV.cells, AV.isCell, AV.isAgg, abytes, aconv, aeq, isConst, isByteD, isIfaceD, endQ, Int.reduceToNat, Int.reduceLE, Int.reduceLT, Int.reduceEq, Int.reduceNe, Int.reduceAdd, Int.reduceSub, Int.reduceNeg, Nat.reduceLT, Nat.reduceLeDiff, Ent.ver, Ent.imm, Ent.ty, lits, isEl, newCells, aappend, Nat.reduceBEq, fill, undef, (st1), (st2), (st3), (st4), (st5)]; try simp (disch := omega) only [wrapI64, Int.toNat_natCast, ← Int.natCast_add, nat_add_one, nat_add_two, take_drop_all, List.drop_zero, Nat.sub_zero, Nat.add_sub_cancel_left])
    refine xWait.go (Join_ok l (by omega) (fun x hx' => by have := (hx x hx').2; omega) _) ?_
    refine xOps.cut (.cut2 (fun ts g l' => Sub ts [(0, .str t), (1, .sl (l.map avI))] ∧ g = [] ∧ l' = []) ?_) ?_
    · rintro ts g l' ⟨hts, rfl, rfl⟩
      simp only [sub_cons, sub_nil, and_true] at hts
      obtain ⟨h0, h1⟩ := hts
      (simp only [h0, h1, (vm1), (vm2), (vm3), (vm4), aDet, ev, tget, tput, ofC, ofC1, pureR, condR, abin, aun, alen, gslot, Nat.reduceEqDiff, reduceIte, argTs, asliceS, asliceL, bnd, boolV, intV, retQ, aRes, aResV, oneAV, AV.low, AV.low.lows, Nat.reduceAdd, isStringD, isSliceD, isBoolD, setRange, AV.cells, AV.isCell, AV.isAgg, abytes, aconv, aeq, isConst, isByteD, isIfaceD, endQ, Int.reduceToNat, Int.reduceLE, Int.reduceLT, Int.reduceEq, Int.reduceNe, Int.reduceAdd, Int.reduceSub, Int.reduceNeg, Nat.reduceLT, Nat.reduceLeDiff, Ent.ver, Ent.imm, Ent.ty, lits, isEl, newCells, aappend, Nat.reduceBEq, fill, undef, (st1), (st2), (st3), (st4), (st5)]; try simp (disch := omega) only [wrapI64, Int.toNat_natCast, ← Int.natCast_add, nat_add_one, nat_add_two, take_drop_all, List.drop_zero, Nat.sub_zero, Nat.add_sub_cancel_left])
      refine xWait.go (Quote_ok t (by omega) _) ?_
      refine xOps.cut (.cut2 (fun ts g l' => Sub ts [(0, .str t), (1, .sl (l.map avI))] ∧ g = [] ∧ l' = []) ?_) ?_
      · rintro ts g l' ⟨hts, rfl, rfl⟩
        simp only [sub_cons, sub_nil, and_true] at hts
        obtain ⟨h0, h1⟩ := hts
        (simp only [h0, h1, (vm1), (vm2), (vm3), (vm4), aDet, ev, tget, tput, ofC, ofC1, pureR, condR, abin, aun, alen, gslot, Nat.reduceEqDiff, reduceIte, argTs, asliceS, asliceL, bnd, boolV, intV, retQ, aRes, aResV, oneAV, AV.low, AV.low.lows, Nat.reduceAdd, isStringD, isSliceD, isBoolD, setRange, AV.cells, AV.isCell, AV.isAgg, abytes, aconv, aeq, isConst, isByteD, isIfaceD, endQ, Int.reduceToNat, Int.reduceLE, Int.reduceLT, Int.reduceEq, Int.reduceNe, Int.reduceAdd, Int.reduceSub, Int.reduceNeg, Nat.reduceLT, Nat.reduceLeDiff, Ent.ver, Ent.imm, Ent.ty, lits, isEl, newCells, aappend, Nat.reduceBEq, fill, undef, (st1), (st2), (st3), (st4), (st5)]; try simp (disch := omega) only [wrapI64, Int.toNat_natCast, ← Int.natCast_add, nat_add_one, nat_add_two, take_drop_all, List.drop_zero, Nat.sub_zero, Nat.add_sub_cancel_left])
        refine xWait.go (Unquote_ok t (by omega) _) ?_
        obtain ⟨x, y, e, hxy⟩ : ∃ x y, unquoteV t = .tup [.str x, i64 y] ∧ (y = 0 → unquoteV t = .tup [.str x, i64 0]) := by
          unfold unquoteV; split
          · exact ⟨_, _, rfl, fun e => by cases e⟩
          · split
            · split
              · split
                · exact ⟨_, _, rfl, fun e => rfl⟩
                · exact ⟨_, _, rfl, fun e => by cases e⟩
              · exact ⟨_, _, rfl, fun e => by cases e⟩
            · exact ⟨_, _, rfl, fun e => by cases e⟩
        rw [e]
        by_cases hy : y = 0
        · obtain ⟨q1, q2⟩ := quote_unquote t x (hxy hy)
          have hxl : x.length ≤ 200 := by
            unfold isTextB at q1; rw [Bool.and_eq_true, decide_eq_true_eq] at q1; exact q1.2
          (simp only [hy, (vm1), (vm2), (vm3), (vm4), aDet, ev, tget, tput, ofC, ofC1, pureR, condR, abin, aun, alen, gslot, Nat.reduceEqDiff, reduceIte, argTs, asliceS, asliceL, bnd, boolV, intV, retQ, aRes, aResV, oneAV, AV.low, AV.low.lows, Nat.reduceAdd, isStringD, isSliceD, isBoolD, setRange, AV.cells, AV.isCell, AV.isAgg, abytes, aconv, aeq, isConst, isByteD, isIfaceD, endQ, Int.reduceToNat, Int.reduceLE, Int.reduceLT, Int.reduceEq, Int.reduceNe, Int.reduceAdd, Int.reduceSub, Int.reduceNeg, Nat.reduceLT, Nat.reduceLeDiff, Ent.ver, Ent.imm, Ent.ty, lits, isEl, newCells, aappend, Nat.reduceBEq, fill, undef, (st1), (st2), (st3), (st4), (st5)]; try simp (disch := omega) only [wrapI64, Int.toNat_natCast, ← Int.natCast_add, nat_add_one, nat_add_two, take_drop_all, List.drop_zero, Nat.sub_zero, Nat.add_sub_cancel_left])
          refine xWait.go (Quote_ok x (by omega) _) ?_
          unfold quoteV
          rw [if_pos q1, q2]
          (simp only [h0, (vm1), (vm2), (vm3), (vm4), aDet, ev, tget, tput, ofC, ofC1, pureR, condR, abin, aun, alen, gslot, Nat.reduceEqDiff, reduceIte, argTs, asliceS, asliceL, bnd, boolV, intV, retQ, aRes, aResV, oneAV, AV.low, AV.low.lows, Nat.reduceAdd, isStringD, isSliceD, isBoolD, setRange, AV.cells, AV.isCell, AV.isAgg, abytes, aconv, aeq, isConst, isByteD, isIfaceD, endQ, Int.reduceToNat, Int.reduceLE, Int.reduceLT, Int.reduceEq, Int.reduceNe, Int.reduceAdd, Int.reduceSub, Int.reduceNeg, Nat.reduceLT, Nat.reduceLeDiff, Ent.ver, Ent.imm, Ent.ty, lits, isEl, newCells, aappend, Nat.reduceBEq, fill, undef, (st1), (st2), (st3), (st4), (st5)]; try simp (disch := omega) only [wrapI64, Int.toNat_natCast, ← Int.natCast_add, nat_add_one, nat_add_two, take_drop_all, List.drop_zero, Nat.sub_zero, Nat.add_sub_cancel_left])
          refine xWait.go (Sane_ok _) ?_
          (simp only [(vm1), (vm2), (vm3), (vm4), aDet, ev, tget, tput, ofC, ofC1, pureR, condR, abin, aun, alen, gslot, Nat.reduceEqDiff, reduceIte, argTs, asliceS, asliceL, bnd, boolV, intV, retQ, aRes, aResV, oneAV, AV.low, AV.low.lows, Nat.reduceAdd, isStringD, isSliceD, isBoolD, setRange, AV.cells, AV.isCell, AV.isAgg, abytes, aconv, aeq, isConst, isByteD, isIfaceD, endQ, Int.reduceToNat, Int.reduceLE, Int.reduceLT, Int.reduceEq, Int.reduceNe, Int.reduceAdd, Int.reduceSub, Int.reduceNeg, Nat.reduceLT, Nat.reduceLeDiff, Ent.ver, Ent.imm, Ent.ty, lits, isEl, newCells, aappend, Nat.reduceBEq, fill, undef, (st1), (st2), (st3), (st4), (st5)]; try simp (disch := omega) only [wrapI64, Int.toNat_natCast, ← Int.natCast_add, nat_add_one, nat_add_two, take_drop_all, List.drop_zero, Nat.sub_zero, Nat.add_sub_cancel_left])
        · (simp only [hy, (vm1), (vm2), (vm3), (vm4), aDet, ev, tget, tput, ofC, ofC1, pureR, condR, abin, aun, alen, gslot, Nat.reduceEqDiff, reduceIte, argTs, asliceS, asliceL, bnd, boolV, intV, retQ, aRes, aResV, oneAV, AV.low, AV.low.lows, Nat.reduceAdd, isStringD, isSliceD, isBoolD, setRange, AV.cells, AV.isCell, AV.isAgg, abytes, aconv, aeq, isConst, isByteD, isIfaceD, endQ, Int.reduceToNat, Int.reduceLE, Int.reduceLT, Int.reduceEq, Int.reduceNe, Int.reduceAdd, Int.reduceSub, Int.reduceNeg, Nat.reduceLT, Nat.reduceLeDiff, Ent.ver, Ent.imm, Ent.ty, lits, isEl, newCells, aappend, Nat.reduceBEq, fill, undef, (st1), (st2), (st3), (st4), (st5)]; try simp (disch := omega) only [wrapI64, Int.toNat_natCast, ← Int.natCast_add, nat_add_one, nat_add_two, take_drop_all, List.drop_zero, Nat.sub_zero, Nat.add_sub_cancel_left])
          refine xWait.go (Sane_ok _) ?_
          (simp only [(vm1), (vm2), (vm3), (vm4), aDet, ev, tget, tput, ofC, ofC1, pureR, condR, abin, aun, alen, gslot, Nat.reduceEqDiff, reduceIte, argTs, asliceS, asliceL, bnd, boolV, intV, retQ, aRes, aResV, oneAV, AV.low, AV.low.lows, Nat.reduceAdd, isStringD, isSliceD, isBoolD, setRange, AV.cells, AV.isCell, AV.isAgg, abytes, aconv, aeq, isConst, isByteD, isIfaceD, endQ, Int.reduceToNat, Int.reduceLE, Int.reduceLT, Int.reduceEq, Int.reduceNe, Int.reduceAdd, Int.reduceSub, Int.reduceNeg, Nat.reduceLT, Nat.reduceLeDiff, Ent.ver, Ent.imm, Ent.ty, lits, isEl, newCells, aappend, Nat.reduceBEq, fill, undef, (st1), (st2), (st3), (st4), (st5)]; try simp (disch := omega) only [wrapI64, Int.toNat_natCast, ← Int.natCast_add, nat_add_one, nat_add_two, take_drop_all, List.drop_zero, Nat.sub_zero, Nat.add_sub_cancel_left])
      · unfold quoteV
        cases hq : isTextB t
        · (simp only [h0, h1, (vm1), (vm2), (vm3), (vm4), aDet, ev, tget, tput, ofC, ofC1, pureR, condR, abin, aun, alen, gslot, Nat.reduceEqDiff, reduceIte, argTs, asliceS, asliceL, bnd, boolV, intV, retQ, aRes, aResV, oneAV, AV.low, AV.low.lows, Nat.reduceAdd, isStringD, isSliceD, isBoolD, setRange, AV.cells, AV.isCell, AV.isAgg, abytes, aconv, aeq, isConst, isByteD, isIfaceD, endQ, Int.reduceToNat, Int.reduceLE, Int.reduceLT, Int.reduceEq, Int.reduceNe, Int.reduceAdd, Int.reduceSub, Int.reduceNeg, Nat.reduceLT, Nat.reduceLeDiff, Ent.ver, Ent.imm, Ent.ty, lits, isEl, newCells, aappend, Nat.reduceBEq, fill, undef, (st1), (st2), (st3), (st4), (st5)]; try simp (disch := omega) only [wrapI64, Int.toNat_natCast, ← Int.natCast_add, nat_add_one, nat_add_two, take_drop_all, List.drop_zero, Nat.sub_zero, Nat.add_sub_cancel_left])
        · have hul := unquote_quote t hq
          have hql := textS_le kText t
          rw [textS, if_pos rfl] at hql
          (simp only [h0, h1, (vm1), (vm2), (vm3), (vm4), aDet, ev, tget, tput, ofC, ofC1, pureR, condR, abin, aun, alen, gslot, Nat.reduceEqDiff, reduceIte, argTs, asliceS, asliceL, bnd, boolV, intV, retQ, aRes, aResV, oneAV, AV.low, AV.low.lows, Nat.reduceAdd, isStringD, isSliceD, isBoolD, setRange, AV.cells, AV.isCell, AV.isAgg, abytes, aconv, aeq, isConst, isByteD, isIfaceD, endQ, Int.reduceToNat, Int.reduceLE, Int.reduceLT, Int.reduceEq, Int.reduceNe, Int.reduceAdd, Int.reduceSub, Int.reduceNeg, Nat.reduceLT, Nat.reduceLeDiff, Ent.ver, Ent.imm, Ent.ty, lits, isEl, newCells, aappend, Nat.reduceBEq, fill, undef, (st1), (st2), (st3), (st4), (st5)]; try simp (disch := omega) only [wrapI64, Int.toNat_natCast, ← Int.natCast_add, nat_add_one, nat_add_two, take_drop_all, List.drop_zero, Nat.sub_zero, Nat.add_sub_cancel_left])
          refine xWait.go (Unquote_ok (quoteT t) (by omega) _) ?_
          rw [hul]
          (simp only [h0, h1, (vm1), (vm2), (vm3), (vm4), aDet, ev, tget, tput, ofC, ofC1, pureR, condR, abin, aun, alen, gslot, Nat.reduceEqDiff, reduceIte, argTs, asliceS, asliceL, bnd, boolV, intV, retQ, aRes, aResV, oneAV, AV.low, AV.low.lows, Nat.reduceAdd, isStringD, isSliceD, isBoolD, setRange, AV.cells, AV.isCell, AV.isAgg, abytes, aconv, aeq, isConst, isByteD, isIfaceD, endQ, Int.reduceToNat, Int.reduceLE, Int.reduceLT, Int.reduceEq, Int.reduceNe, Int.reduceAdd, Int.reduceSub, Int.reduceNeg, Nat.reduceLT, Nat.reduceLeDiff, Ent.ver, Ent.imm, Ent.ty, lits, isEl, newCells, aappend, Nat.reduceBEq, fill, undef, (st1), (st2), (st3), (st4), (st5)]; try simp (disch := omega) only [wrapI64, Int.toNat_natCast, ← Int.natCast_add, nat_add_one, nat_add_two, take_drop_all, List.drop_zero, Nat.sub_zero, Nat.add_sub_cancel_left])
    · unfold joinV
      by_cases hall : l.all valOf = true
      · have htj := toks_join l hall
        rw [if_pos hall]
        generalize hJ : joinS (l.map txtOf) = J at *
        by_cases hm : (J.length : Int) ≤ 20000
        · (simp only [h0, h1, hm, (vm1), (vm2), (vm3), (vm4), aDet, ev, tget, tput, ofC, ofC1, pureR, condR, abin, aun, alen, gslot, Nat.reduceEqDiff, reduceIte, argTs, asliceS, asliceL, bnd, boolV, intV, retQ, aRes, aResV, oneAV, AV.low, AV.low.lows, Nat.reduceAdd, isStringD, isSliceD, isBoolD, setRange, AV.cells, AV.isCell, AV.isAgg, abytes, aconv, aeq, isConst, isByteD, isIfaceD, endQ, Int.reduceToNat, Int.reduceLE, Int.reduceLT, Int.reduceEq, Int.reduceNe, Int.reduceAdd, Int.reduceSub, Int.reduceNeg, Nat.reduceLT, Nat.reduceLeDiff, Ent.ver, Ent.imm, Ent.ty, lits, isEl, newCells, aappend, Nat.reduceBEq, fill, undef, (st1), (st2), (st3), (st4), (st5)]; try simp (disch := omega) only [wrapI64, Int.toNat_natCast, ← Int.natCast_add, nat_add_one, nat_add_two, take_drop_all, List.drop_zero, Nat.sub_zero, Nat.add_sub_cancel_left])
          refine xWait.go (Tokens_ok J (by omega) _) ?_
          unfold tokensV
          rw [if_neg (by omega), htj]
          (simp only [h0, h1, (vm1), (vm2), (vm3), (vm4), aDet, ev, tget, tput, ofC, ofC1, pureR, condR, abin, aun, alen, gslot, Nat.reduceEqDiff, reduceIte, argTs, asliceS, asliceL, bnd, boolV, intV, retQ, aRes, aResV, oneAV, AV.low, AV.low.lows, Nat.reduceAdd, isStringD, isSliceD, isBoolD, setRange, AV.cells, AV.isCell, AV.isAgg, abytes, aconv, aeq, isConst, isByteD, isIfaceD, endQ, Int.reduceToNat, Int.reduceLE, Int.reduceLT, Int.reduceEq, Int.reduceNe, Int.reduceAdd, Int.reduceSub, Int.reduceNeg, Nat.reduceLT, Nat.reduceLeDiff, Ent.ver, Ent.imm, Ent.ty, lits, isEl, newCells, aappend, Nat.reduceBEq, fill, undef, (st1), (st2), (st3), (st4), (st5)]; try simp (disch := omega) only [wrapI64, Int.toNat_natCast, ← Int.natCast_add, nat_add_one, nat_add_two, take_drop_all, List.drop_zero, Nat.sub_zero, Nat.add_sub_cancel_left])
          refine xWait.go (same_back l (by omega) _) ?_
          (simp only [h0, h1, (vm1), (vm2), (vm3), (vm4), aDet, ev, tget, tput, ofC, ofC1, pureR, condR, abin, aun, alen, gslot, Nat.reduceEqDiff, reduceIte, argTs, asliceS, asliceL, bnd, boolV, intV, retQ, aRes, aResV, oneAV, AV.low, AV.low.lows, Nat.reduceAdd, isStringD, isSliceD, isBoolD, setRange, AV.cells, AV.isCell, AV.isAgg, abytes, aconv, aeq, isConst, isByteD, isIfaceD, endQ, Int.reduceToNat, Int.reduceLE, Int.reduceLT, Int.reduceEq, Int.reduceNe, Int.reduceAdd, Int.reduceSub, Int.reduceNeg, Nat.reduceLT, Nat.reduceLeDiff, Ent.ver, Ent.imm, Ent.ty, lits, isEl, newCells, aappend, Nat.reduceBEq, fill, undef, (st1), (st2), (st3), (st4), (st5)]; try simp (disch := omega) only [wrapI64, Int.toNat_natCast, ← Int.natCast_add, nat_add_one, nat_add_two, take_drop_all, List.drop_zero, Nat.sub_zero, Nat.add_sub_cancel_left])
          try simp
        · (simp only [h0, h1, hm, (vm1), (vm2), (vm3), (vm4), aDet, ev, tget, tput, ofC, ofC1, pureR, condR, abin, aun, alen, gslot, Nat.reduceEqDiff, reduceIte, argTs, asliceS, asliceL, bnd, boolV, intV, retQ, aRes, aResV, oneAV, AV.low, AV.low.lows, Nat.reduceAdd, isStringD, isSliceD, isBoolD, setRange, AV.cells, AV.isCell, AV.isAgg, abytes, aconv, aeq, isConst, isByteD, isIfaceD, endQ, Int.reduceToNat, Int.reduceLE, Int.reduceLT, Int.reduceEq, Int.reduceNe, Int.reduceAdd, Int.reduceSub, Int.reduceNeg, Nat.reduceLT, Nat.reduceLeDiff, Ent.ver, Ent.imm, Ent.ty, lits, isEl, newCells, aappend, Nat.reduceBEq, fill, undef, (st1), (st2), (st3), (st4), (st5)]; try simp (disch := omega) only [wrapI64, Int.toNat_natCast, ← Int.natCast_add, nat_add_one, nat_add_two, take_drop_all, List.drop_zero, Nat.sub_zero, Nat.add_sub_cancel_left])
          try simp
      · rw [if_neg hall]
        (simp only [h0, h1, (vm1), (vm2), (vm3), (vm4), aDet, ev, tget, tput, ofC, ofC1, pureR, condR, abin, aun, alen, gslot, Nat.reduceEqDiff, reduceIte, argTs, asliceS, asliceL, bnd, boolV, intV, retQ, aRes, aResV, oneAV, AV.low, AV.low.lows, Nat.reduceAdd, isStringD, isSliceD, isBoolD, setRange, AV.cells, AV.isCell, AV.isAgg, abytes, aconv, aeq, isConst, isByteD, isIfaceD, endQ, Int.reduceToNat, Int.reduceLE, Int.reduceLT, Int.reduceEq, Int.reduceNe, Int.reduceAdd, Int.reduceSub, Int.reduceNeg, Nat.reduceLT, Nat.reduceLeDiff, Ent.ver, Ent.imm, Ent.ty, lits, isEl, newCells, aappend, Nat.reduceBEq, fill, undef, (st1), (st2), (st3), (st4), (st5)]; try simp (disch := omega) only [wrapI64, Int.toNat_natCast, ← Int.natCast_add, nat_add_one, nat_add_two, take_drop_all, List.drop_zero, Nat.sub_zero, Nat.add_sub_cancel_left])
        try simp
  · refine xWait.go (Tokens_ok t (by omega) _) ?_
    unfold tokensV
    rw [if_neg (by omega)]
    cases ht : toks 0 t with
    | none =>
      (simp only [(vm1), (vm2), (vm3), (vm4), aDet, ev, tget, tput, ofC, ofC1, pureR, condR, abin, aun, alen, gslot, Nat.reduceEqDiff, reduceIte, argTs, asliceS, asliceL, bnd, boolV, intV, retQ, aRes, aResV, oneAV, AV.low, AV.low.lows, Nat.reduceAdd, isStringD, isSliceD, isBoolD, setRange, AV.cells, AV.isCell, AV.isAgg, abytes, aconv, aeq, isConst, isByteD, isIfaceD, endQ, Int.reduceToNat, Int.reduceLE, Int.reduceLT, Int.reduceEq, Int.reduceNe, Int.reduceAdd, Int.reduceSub, Int.reduceNeg, Nat.reduceLT, Nat.reduceLeDiff, Ent.ver, Ent.imm, Ent.ty, lits, isEl, newCells, aappend, Nat.reduceBEq, fill, undef, (st1), (st2), (st3), (st4), (st5)]; try simp (disch := omega) only [wrapI64, Int.toNat_natCast, ← Int.natCast_add, nat_add_one, nat_add_two, take_drop_all, List.drop_zero, Nat.sub_zero, Nat.add_sub_cancel_left])
      try simp
    | some ts =>
      have hlen := toks_len _ 0 t ts (Nat.le_refl _) ht
      have hw := whereP_all t ts 0 (toks_where t _ 0 ts (Nat.zero_le _) (Nat.le_refl _) (by rw [List.drop_zero]; exact ht))
      by_cases hnil : ts = []
      · subst hnil
        (simp only [rowV, (vm1), (vm2), (vm3), (vm4), aDet, ev, tget, tput, ofC, ofC1, pureR, condR, abin, aun, alen, gslot, Nat.reduceEqDiff, reduceIte, argTs, asliceS, asliceL, bnd, boolV, intV, retQ, aRes, aResV, oneAV, AV.low, AV.low.lows, Nat.reduceAdd, isStringD, isSliceD, isBoolD, setRange, AV.cells, AV.isCell, AV.isAgg, abytes, aconv, aeq, isConst, isByteD, isIfaceD, endQ, Int.reduceToNat, Int.reduceLE, Int.reduceLT, Int.reduceEq, Int.reduceNe, Int.reduceAdd, Int.reduceSub, Int.reduceNeg, Nat.reduceLT, Nat.reduceLeDiff, Ent.ver, Ent.imm, Ent.ty, lits, isEl, newCells, aappend, Nat.reduceBEq, fill, undef, (st1), (st2), (st3), (st4), (st5)]; try simp (disch := omega) only [wrapI64, Int.toNat_natCast, ← Int.natCast_add, nat_add_one, nat_add_two, take_drop_all, List.drop_zero, Nat.sub_zero, Nat.add_sub_cancel_left])
        refine xWait.go (Join_nil _) ?_
        (simp only [(vm1), (vm2), (vm3), (vm4), aDet, ev, tget, tput, ofC, ofC1, pureR, condR, abin, aun, alen, gslot, Nat.reduceEqDiff, reduceIte, argTs, asliceS, asliceL, bnd, boolV, intV, retQ, aRes, aResV, oneAV, AV.low, AV.low.lows, Nat.reduceAdd, isStringD, isSliceD, isBoolD, setRange, AV.cells, AV.isCell, AV.isAgg, abytes, aconv, aeq, isConst, isByteD, isIfaceD, endQ, Int.reduceToNat, Int.reduceLE, Int.reduceLT, Int.reduceEq, Int.reduceNe, Int.reduceAdd, Int.reduceSub, Int.reduceNeg, Nat.reduceLT, Nat.reduceLeDiff, Ent.ver, Ent.imm, Ent.ty, lits, isEl, newCells, aappend, Nat.reduceBEq, fill, undef, (st1), (st2), (st3), (st4), (st5)]; try simp (disch := omega) only [wrapI64, Int.toNat_natCast, ← Int.natCast_add, nat_add_one, nat_add_two, take_drop_all, List.drop_zero, Nat.sub_zero, Nat.add_sub_cancel_left])
        refine xWait.go (Tokens_ok [] (by simp) _) ?_
        unfold tokensV
        rw [if_neg (by simp), toks_nil]
        (simp only [rowV, (vm1), (vm2), (vm3), (vm4), aDet, ev, tget, tput, ofC, ofC1, pureR, condR, abin, aun, alen, gslot, Nat.reduceEqDiff, reduceIte, argTs, asliceS, asliceL, bnd, boolV, intV, retQ, aRes, aResV, oneAV, AV.low, AV.low.lows, Nat.reduceAdd, isStringD, isSliceD, isBoolD, setRange, AV.cells, AV.isCell, AV.isAgg, abytes, aconv, aeq, isConst, isByteD, isIfaceD, endQ, Int.reduceToNat, Int.reduceLE, Int.reduceLT, Int.reduceEq, Int.reduceNe, Int.reduceAdd, Int.reduceSub, Int.reduceNeg, Nat.reduceLT, Nat.reduceLeDiff, Ent.ver, Ent.imm, Ent.ty, lits, isEl, newCells, aappend, Nat.reduceBEq, fill, undef, (st1), (st2), (st3), (st4), (st5)]; try simp (disch := omega) only [wrapI64, Int.toNat_natCast, ← Int.natCast_add, nat_add_one, nat_add_two, take_drop_all, List.drop_zero, Nat.sub_zero, Nat.add_sub_cancel_left])
        refine xWait.go (Same_none _ _ false (.inr rfl) (.inr rfl) _) ?_
        (simp only [(vm1), (vm2), (vm3), (vm4), aDet, ev, tget, tput, ofC, ofC1, pureR, condR, abin, aun, alen, gslot, Nat.reduceEqDiff, reduceIte, argTs, asliceS, asliceL, bnd, boolV, intV, retQ, aRes, aResV, oneAV, AV.low, AV.low.lows, Nat.reduceAdd, isStringD, isSliceD, isBoolD, setRange, AV.cells, AV.isCell, AV.isAgg, abytes, aconv, aeq, isConst, isByteD, isIfaceD, endQ, Int.reduceToNat, Int.reduceLE, Int.reduceLT, Int.reduceEq, Int.reduceNe, Int.reduceAdd, Int.reduceSub, Int.reduceNeg, Nat.reduceLT, Nat.reduceLeDiff, Ent.ver, Ent.imm, Ent.ty, lits, isEl, newCells, aappend, Nat.reduceBEq, fill, undef, (st1), (st2), (st3), (st4), (st5)]; try simp (disch := omega) only [wrapI64, Int.toNat_natCast, ← Int.natCast_add, nat_add_one, nat_add_two, take_drop_all, List.drop_zero, Nat.sub_zero, Nat.add_sub_cancel_left])
        try simp
      · have hrow := rowV_toI ts hnil
        have hall : (ts.map toI).all valOf = true := by
          rw [List.all_eq_true]
          intro x hx'
          obtain ⟨y, hy, rfl⟩ := List.mem_map.1 hx'
          exact (hw y hy).1
        have htj := toks_join (ts.map toI) hall
        have hj : joinV (ts.map toI) = .tup [.str (joinS ((ts.map toI).map txtOf)), i64 0] := by rw [joinV, if_pos hall]
        (simp only [hrow, (vm1), (vm2), (vm3), (vm4), aDet, ev, tget, tput, ofC, ofC1, pureR, condR, abin, aun, alen, gslot, Nat.reduceEqDiff, reduceIte, argTs, asliceS, asliceL, bnd, boolV, intV, retQ, aRes, aResV, oneAV, AV.low, AV.low.lows, Nat.reduceAdd, isStringD, isSliceD, isBoolD, setRange, AV.cells, AV.isCell, AV.isAgg, abytes, aconv, aeq, isConst, isByteD, isIfaceD, endQ, Int.reduceToNat, Int.reduceLE, Int.reduceLT, Int.reduceEq, Int.reduceNe, Int.reduceAdd, Int.reduceSub, Int.reduceNeg, Nat.reduceLT, Nat.reduceLeDiff, Ent.ver, Ent.imm, Ent.ty, lits, isEl, newCells, aappend, Nat.reduceBEq, fill, undef, (st1), (st2), (st3), (st4), (st5)]; try simp (disch := omega) only [wrapI64, Int.toNat_natCast, ← Int.natCast_add, nat_add_one, nat_add_two, take_drop_all, List.drop_zero, Nat.sub_zero, Nat.add_sub_cancel_left])
        refine xWait.go (Join_ok (ts.map toI) (by rw [List.length_map]; omega) (fun x hx' => by
          obtain ⟨y, hy, rfl⟩ := List.mem_map.1 hx'
          have := (hw y hy).2
          simp only [toI]; omega) _) ?_
        rw [hj]
        generalize hJ : joinS ((ts.map toI).map txtOf) = J at *
        have hJl : J.length ≤ 1099511627776 := by
          have h1 := joinS_len ((ts.map toI).map txtOf)
          rw [hJ] at h1
          have h2 := sumL_bound ((ts.map toI).map txtOf) 20002 (fun x hx' => by
            obtain ⟨y, hy, rfl⟩ := List.mem_map.1 hx'
            obtain ⟨z, hz, rfl⟩ := List.mem_map.1 hy
            have h1 := textS_le (toI z).1 (toI z).2.1
            have h2 := (hw z hz).2
            simp only [toI, txtOf] at *; omega)
          simp only [List.length_map] at h1 h2
          have : ts.length * 20002 ≤ 5000 * 20002 := Nat.mul_le_mul_right _ (by omega)
          omega
        (simp only [(vm1), (vm2), (vm3), (vm4), aDet, ev, tget, tput, ofC, ofC1, pureR, condR, abin, aun, alen, gslot, Nat.reduceEqDiff, reduceIte, argTs, asliceS, asliceL, bnd, boolV, intV, retQ, aRes, aResV, oneAV, AV.low, AV.low.lows, Nat.reduceAdd, isStringD, isSliceD, isBoolD, setRange, AV.cells, AV.isCell, AV.isAgg, abytes, aconv, aeq, isConst, isByteD, isIfaceD, endQ, Int.reduceToNat, Int.reduceLE, Int.reduceLT, Int.reduceEq, Int.reduceNe, Int.reduceAdd, Int.reduceSub, Int.reduceNeg, Nat.reduceLT, Nat.reduceLeDiff, Ent.ver, Ent.imm, Ent.ty, lits, isEl, newCells, aappend, Nat.reduceBEq, fill, undef, (st1), (st2), (st3), (st4), (st5)]; try simp (disch := omega) only [wrapI64, Int.toNat_natCast, ← Int.natCast_add, nat_add_one, nat_add_two, take_drop_all, List.drop_zero, Nat.sub_zero, Nat.add_sub_cancel_left])
        refine xWait.go (Tokens_ok J hJl _) ?_
        unfold tokensV
        by_cases hm : (J.length : Int) ≤ 20000
        · rw [if_neg (by omega), htj]
          (simp only [hm, (vm1), (vm2), (vm3), (vm4), aDet, ev, tget, tput, ofC, ofC1, pureR, condR, abin, aun, alen, gslot, Nat.reduceEqDiff, reduceIte, argTs, asliceS, asliceL, bnd, boolV, intV, retQ, aRes, aResV, oneAV, AV.low, AV.low.lows, Nat.reduceAdd, isStringD, isSliceD, isBoolD, setRange, AV.cells, AV.isCell, AV.isAgg, abytes, aconv, aeq, isConst, isByteD, isIfaceD, endQ, Int.reduceToNat, Int.reduceLE, Int.reduceLT, Int.reduceEq, Int.reduceNe, Int.reduceAdd, Int.reduceSub, Int.reduceNeg, Nat.reduceLT, Nat.reduceLeDiff, Ent.ver, Ent.imm, Ent.ty, lits, isEl, newCells, aappend, Nat.reduceBEq, fill, undef, (st1), (st2), (st3), (st4), (st5)]; try simp (disch := omega) only [wrapI64, Int.toNat_natCast, ← Int.natCast_add, nat_add_one, nat_add_two, take_drop_all, List.drop_zero, Nat.sub_zero, Nat.add_sub_cancel_left])
          refine xWait.go (same_back (ts.map toI) (by rw [List.length_map]; omega) _) ?_
          (simp only [(vm1), (vm2), (vm3), (vm4), aDet, ev, tget, tput, ofC, ofC1, pureR, condR, abin, aun, alen, gslot, Nat.reduceEqDiff, reduceIte, argTs, asliceS, asliceL, bnd, boolV, intV, retQ, aRes, aResV, oneAV, AV.low, AV.low.lows, Nat.reduceAdd, isStringD, isSliceD, isBoolD, setRange, AV.cells, AV.isCell, AV.isAgg, abytes, aconv, aeq, isConst, isByteD, isIfaceD, endQ, Int.reduceToNat, Int.reduceLE, Int.reduceLT, Int.reduceEq, Int.reduceNe, Int.reduceAdd, Int.reduceSub, Int.reduceNeg, Nat.reduceLT, Nat.reduceLeDiff, Ent.ver, Ent.imm, Ent.ty, lits, isEl, newCells, aappend, Nat.reduceBEq, fill, undef, (st1), (st2), (st3), (st4), (st5)]; try simp (disch := omega) only [wrapI64, Int.toNat_natCast, ← Int.natCast_add, nat_add_one, nat_add_two, take_drop_all, List.drop_zero, Nat.sub_zero, Nat.add_sub_cancel_left])
          try simp
        · rw [if_pos (by omega)]
          (simp only [hm, (vm1), (vm2), (vm3), (vm4), aDet, ev, tget, tput, ofC, ofC1, pureR, condR, abin, aun, alen, gslot, Nat.reduceEqDiff, reduceIte, argTs, asliceS, asliceL, bnd, boolV, intV, retQ, aRes, aResV, oneAV, AV.low, AV.low.lows, Nat.reduceAdd, isStringD, isSliceD, isBoolD, setRange, AV.cells, AV.isCell, AV.isAgg, abytes, aconv, aeq, isConst, isByteD, isIfaceD, endQ, Int.reduceToNat, Int.reduceLE, Int.reduceLT, Int.reduceEq, Int.reduceNe, Int.reduceAdd, Int.reduceSub, Int.reduceNeg, Nat.reduceLT, Nat.reduceLeDiff, Ent.ver, Ent.imm, Ent.ty, lits, isEl, newCells, aappend, Nat.reduceBEq, fill, undef, (st1), (st2), (st3), (st4), (st5)]; try simp (disch := omega) only [wrapI64, Int.toNat_natCast, ← Int.natCast_add, nat_add_one, nat_add_two, take_drop_all, List.drop_zero, Nat.sub_zero, Nat.add_sub_cancel_left])
          try simp
end Go.D
