/- Whole numbers; texts; comments. -/
import Derived.Test.YtikjefmoclienaaGreatDoorFnA
import Derived.Test.YtikjefmoclienaaGreatDoorPlainA
set_option linter.unusedVariables false
set_option linter.unusedSimpArgs false
set_option maxRecDepth 100000
namespace Go.D
open Go Go.Vm Go.Proofs Go.RowKit

def isIntB (l : List UInt8) : Bool := decide (¬ l = []) && (decide (digits l = l.length) && fits l)
theorem isInt_ok (l : List UInt8) (hl : l.length ≤ 1099511627776) (σ : List Ent) : ACalls E 42 [.str l] σ fun r τ => (∃ n, r = .tup [i64 n, boolV (isIntB l)] ∧ (isIntB l = true → Lib.parseIntB 64 l = .ok n)) ∧ τ = σ := by
  refine xacalls T0 .drop [] Tryz.func42 rfl (by kernel_rfl) (by kernel_rfl) (by simp [Tryz.ntmps42]) ?_
  by_cases h : l = []
  · (simp only [h, (vm1), (vm2), (vm3), (vm4), aDet, ev, tget, tput, ofC, ofC1, pureR, condR, abin, aun, alen, gslot, Nat.reduceEqDiff, reduceIte, argTs, asliceS, asliceL, bnd, boolV, intV, retQ, aRes, aResV, oneAV, AV.low, AV.low.lows, Nat.reduceAdd, isStringD, isSliceD, isBoolD, setRange, AV.cells, AV.isCell, AV.isAgg, abytes, aconv, aeq, isConst, isByteD, isIfaceD, endQ, Int.reduceToNat, Int.reduceLE, Int.reduceLT, Int.reduceEq, Int.reduceNe, Int.reduceAdd, Int.reduceSub, Int.reduceNeg, Nat.reduceLT, Nat.reduceLeDiff, Ent.ver, Ent.imm, Ent.ty, lits, isEl, newCells, aappend, Nat.reduceBEq, fill, undef, (st1), (st2), (st3), (st4), (st5)]; try simp (disch := omega) only [wrapI64, Int.toNat_natCast, ← Int.natCast_add, nat_add_one, nat_add_two, take_drop_all, List.drop_zero, Nat.sub_zero, Nat.add_sub_cancel_left])
    exact ⟨0, rfl, fun e => by cases e⟩
  · (simp only [h, (vm1), (vm2), (vm3), (vm4), aDet, ev, tget, tput, ofC, ofC1, pureR, condR, abin, aun, alen, gslot, Nat.reduceEqDiff, reduceIte, argTs, asliceS, asliceL, bnd, boolV, intV, retQ, aRes, aResV, oneAV, AV.low, AV.low.lows, Nat.reduceAdd, isStringD, isSliceD, isBoolD, setRange, AV.cells, AV.isCell, AV.isAgg, abytes, aconv, aeq, isConst, isByteD, isIfaceD, endQ, Int.reduceToNat, Int.reduceLE, Int.reduceLT, Int.reduceEq, Int.reduceNe, Int.reduceAdd, Int.reduceSub, Int.reduceNeg, Nat.reduceLT, Nat.reduceLeDiff, Ent.ver, Ent.imm, Ent.ty, lits, isEl, newCells, aappend, Nat.reduceBEq, fill, undef, (st1), (st2), (st3), (st4), (st5)]; try simp (disch := omega) only [wrapI64, Int.toNat_natCast, ← Int.natCast_add, nat_add_one, nat_add_two, take_drop_all, List.drop_zero, Nat.sub_zero, Nat.add_sub_cancel_left])
    refine xWait.go (digits_ok l hl σ) ?_
    by_cases h2 : (digits l : Int) = l.length
    · have h3 : digits l = l.length := by omega
      (simp only [h2, (vm1), (vm2), (vm3), (vm4), aDet, ev, tget, tput, ofC, ofC1, pureR, condR, abin, aun, alen, gslot, Nat.reduceEqDiff, reduceIte, argTs, asliceS, asliceL, bnd, boolV, intV, retQ, aRes, aResV, oneAV, AV.low, AV.low.lows, Nat.reduceAdd, isStringD, isSliceD, isBoolD, setRange, AV.cells, AV.isCell, AV.isAgg, abytes, aconv, aeq, isConst, isByteD, isIfaceD, endQ, Int.reduceToNat, Int.reduceLE, Int.reduceLT, Int.reduceEq, Int.reduceNe, Int.reduceAdd, Int.reduceSub, Int.reduceNeg, Nat.reduceLT, Nat.reduceLeDiff, Ent.ver, Ent.imm, Ent.ty, lits, isEl, newCells, aappend, Nat.reduceBEq, fill, undef, (st1), (st2), (st3), (st4), (st5)]; try simp (disch := omega) only [wrapI64, Int.toNat_natCast, ← Int.natCast_add, nat_add_one, nat_add_two, take_drop_all, List.drop_zero, Nat.sub_zero, Nat.add_sub_cancel_left])
      rcases parse_fits l h3 h with ⟨hf, v, hv⟩ | ⟨hf, hv⟩
      · refine xWait.go (ParseInt_ok l v (by omega) hv σ) ?_
        (simp only [(vm1), (vm2), (vm3), (vm4), aDet, ev, tget, tput, ofC, ofC1, pureR, condR, abin, aun, alen, gslot, Nat.reduceEqDiff, reduceIte, argTs, asliceS, asliceL, bnd, boolV, intV, retQ, aRes, aResV, oneAV, AV.low, AV.low.lows, Nat.reduceAdd, isStringD, isSliceD, isBoolD, setRange, AV.cells, AV.isCell, AV.isAgg, abytes, aconv, aeq, isConst, isByteD, isIfaceD, endQ, Int.reduceToNat, Int.reduceLE, Int.reduceLT, Int.reduceEq, Int.reduceNe, Int.reduceAdd, Int.reduceSub, Int.reduceNeg, Nat.reduceLT, Nat.reduceLeDiff, Ent.ver, Ent.imm, Ent.ty, lits, isEl, newCells, aappend, Nat.reduceBEq, fill, undef, (st1), (st2), (st3), (st4), (st5)]; try simp (disch := omega) only [wrapI64, Int.toNat_natCast, ← Int.natCast_add, nat_add_one, nat_add_two, take_drop_all, List.drop_zero, Nat.sub_zero, Nat.add_sub_cancel_left])
        refine ydraw T0 [] (by kernel_rfl) (by kernel_rfl) (by kernel_rfl) (by kernel_rfl) ?_
        (simp only [(vm1), (vm2), (vm3), (vm4), aDet, ev, tget, tput, ofC, ofC1, pureR, condR, abin, aun, alen, gslot, Nat.reduceEqDiff, reduceIte, argTs, asliceS, asliceL, bnd, boolV, intV, retQ, aRes, aResV, oneAV, AV.low, AV.low.lows, Nat.reduceAdd, isStringD, isSliceD, isBoolD, setRange, AV.cells, AV.isCell, AV.isAgg, abytes, aconv, aeq, isConst, isByteD, isIfaceD, endQ, Int.reduceToNat, Int.reduceLE, Int.reduceLT, Int.reduceEq, Int.reduceNe, Int.reduceAdd, Int.reduceSub, Int.reduceNeg, Nat.reduceLT, Nat.reduceLeDiff, Ent.ver, Ent.imm, Ent.ty, lits, isEl, newCells, aappend, Nat.reduceBEq, fill, undef, (st1), (st2), (st3), (st4), (st5)]; try simp (disch := omega) only [wrapI64, Int.toNat_natCast, ← Int.natCast_add, nat_add_one, nat_add_two, take_drop_all, List.drop_zero, Nat.sub_zero, Nat.add_sub_cancel_left])
        refine ⟨v, ?_, fun _ => hv⟩
        simp [isIntB, h, h3, hf]
      · refine xWait.of (ParseInt_range l (by omega) hv σ) ?_
        rintro _ _ ⟨⟨x, rfl⟩, rfl⟩
        (simp only [(vm1), (vm2), (vm3), (vm4), aDet, ev, tget, tput, ofC, ofC1, pureR, condR, abin, aun, alen, gslot, Nat.reduceEqDiff, reduceIte, argTs, asliceS, asliceL, bnd, boolV, intV, retQ, aRes, aResV, oneAV, AV.low, AV.low.lows, Nat.reduceAdd, isStringD, isSliceD, isBoolD, setRange, AV.cells, AV.isCell, AV.isAgg, abytes, aconv, aeq, isConst, isByteD, isIfaceD, endQ, Int.reduceToNat, Int.reduceLE, Int.reduceLT, Int.reduceEq, Int.reduceNe, Int.reduceAdd, Int.reduceSub, Int.reduceNeg, Nat.reduceLT, Nat.reduceLeDiff, Ent.ver, Ent.imm, Ent.ty, lits, isEl, newCells, aappend, Nat.reduceBEq, fill, undef, (st1), (st2), (st3), (st4), (st5)]; try simp (disch := omega) only [wrapI64, Int.toNat_natCast, ← Int.natCast_add, nat_add_one, nat_add_two, take_drop_all, List.drop_zero, Nat.sub_zero, Nat.add_sub_cancel_left])
        refine ydraw T0 [] (by kernel_rfl) (by kernel_rfl) (by kernel_rfl) (by kernel_rfl) ?_
        (simp only [(vm1), (vm2), (vm3), (vm4), aDet, ev, tget, tput, ofC, ofC1, pureR, condR, abin, aun, alen, gslot, Nat.reduceEqDiff, reduceIte, argTs, asliceS, asliceL, bnd, boolV, intV, retQ, aRes, aResV, oneAV, AV.low, AV.low.lows, Nat.reduceAdd, isStringD, isSliceD, isBoolD, setRange, AV.cells, AV.isCell, AV.isAgg, abytes, aconv, aeq, isConst, isByteD, isIfaceD, endQ, Int.reduceToNat, Int.reduceLE, Int.reduceLT, Int.reduceEq, Int.reduceNe, Int.reduceAdd, Int.reduceSub, Int.reduceNeg, Nat.reduceLT, Nat.reduceLeDiff, Ent.ver, Ent.imm, Ent.ty, lits, isEl, newCells, aappend, Nat.reduceBEq, fill, undef, (st1), (st2), (st3), (st4), (st5)]; try simp (disch := omega) only [wrapI64, Int.toNat_natCast, ← Int.natCast_add, nat_add_one, nat_add_two, take_drop_all, List.drop_zero, Nat.sub_zero, Nat.add_sub_cancel_left])
        have hb : isIntB l = false := by simp [isIntB, h, h3, hf]
        exact ⟨_, by rw [hb], by rw [hb]; intro e; cases e⟩
    · have h3 : ¬ digits l = l.length := by omega
      (simp only [h2, (vm1), (vm2), (vm3), (vm4), aDet, ev, tget, tput, ofC, ofC1, pureR, condR, abin, aun, alen, gslot, Nat.reduceEqDiff, reduceIte, argTs, asliceS, asliceL, bnd, boolV, intV, retQ, aRes, aResV, oneAV, AV.low, AV.low.lows, Nat.reduceAdd, isStringD, isSliceD, isBoolD, setRange, AV.cells, AV.isCell, AV.isAgg, abytes, aconv, aeq, isConst, isByteD, isIfaceD, endQ, Int.reduceToNat, Int.reduceLE, Int.reduceLT, Int.reduceEq, Int.reduceNe, Int.reduceAdd, Int.reduceSub, Int.reduceNeg, Nat.reduceLT, Nat.reduceLeDiff, Ent.ver, Ent.imm, Ent.ty, lits, isEl, newCells, aappend, Nat.reduceBEq, fill, undef, (st1), (st2), (st3), (st4), (st5)]; try simp (disch := omega) only [wrapI64, Int.toNat_natCast, ← Int.natCast_add, nat_add_one, nat_add_two, take_drop_all, List.drop_zero, Nat.sub_zero, Nat.add_sub_cancel_left])
      refine ⟨0, ?_, ?_⟩
      · simp [isIntB, h3]
      · simp [isIntB, h3]

def txt (b : Int) : Bool := decide (b = 10) || btw 32 b 126
def isTextB (l : List UInt8) : Bool := l.all (pB txt) && decide (l.length ≤ 200)
theorem isText_ok (l : List UInt8) (hl : l.length ≤ 1099511627776) (σ : List Ent) : ACalls E 39 [.str l] σ fun r τ => r = boolV (isTextB l) ∧ τ = σ := by
  refine xacalls T0 .drop [] Tryz.func39 rfl (by kernel_rfl) (by kernel_rfl) (by simp [Tryz.ntmps39]) ?_
  (simp only [(vm1), (vm2), (vm3), (vm4), aDet, ev, tget, tput, ofC, ofC1, pureR, condR, abin, aun, alen, gslot, Nat.reduceEqDiff, reduceIte, argTs, asliceS, asliceL, bnd, boolV, intV, retQ, aRes, aResV, oneAV, AV.low, AV.low.lows, Nat.reduceAdd, isStringD, isSliceD, isBoolD, setRange, AV.cells, AV.isCell, AV.isAgg, abytes, aconv, aeq, isConst, isByteD, isIfaceD, endQ, Int.reduceToNat, Int.reduceLE, Int.reduceLT, Int.reduceEq, Int.reduceNe, Int.reduceAdd, Int.reduceSub, Int.reduceNeg, Nat.reduceLT, Nat.reduceLeDiff, Ent.ver, Ent.imm, Ent.ty, lits, isEl, newCells, aappend, Nat.reduceBEq, fill, undef, (st1), (st2), (st3), (st4), (st5)]; try simp (disch := omega) only [wrapI64, Int.toNat_natCast, ← Int.natCast_add, nat_add_one, nat_add_two, take_drop_all, List.drop_zero, Nat.sub_zero, Nat.add_sub_cancel_left])
  refine xloop (α := Nat) T0 (fun i => [(0, .str l), (5, i64 l.length), (6, i64 i)]) (fun _ => σ) (fun _ => []) (fun i => i ≤ l.length ∧ ∀ x ∈ l.take i, pB txt x = true) (fun i => l.length - i) (by kernel_rfl) ⟨0, by simp, by (simp only [(vm1), (vm2), (vm3), (vm4), aDet, ev, tget, tput, ofC, ofC1, pureR, condR, abin, aun, alen, gslot, Nat.reduceEqDiff, reduceIte, argTs, asliceS, asliceL, bnd, boolV, intV, retQ, aRes, aResV, oneAV, AV.low, AV.low.lows, Nat.reduceAdd, isStringD, isSliceD, isBoolD, setRange, AV.cells, AV.isCell, AV.isAgg, abytes, aconv, aeq, isConst, isByteD, isIfaceD, endQ, Int.reduceToNat, Int.reduceLE, Int.reduceLT, Int.reduceEq, Int.reduceNe, Int.reduceAdd, Int.reduceSub, Int.reduceNeg, Nat.reduceLT, Nat.reduceLeDiff, Ent.ver, Ent.imm, Ent.ty, lits, isEl, newCells, aappend, Nat.reduceBEq, fill, undef, (st1), (st2), (st3), (st4), (st5), Int.natCast_zero]; try simp (disch := omega) only [wrapI64, Int.toNat_natCast, ← Int.natCast_add, nat_add_one, nat_add_two, take_drop_all, List.drop_zero, Nat.sub_zero, Nat.add_sub_cancel_left]), rfl, rfl⟩ ?_
  rintro i ⟨hi, hall⟩
  by_cases h : (i : Int) < l.length
  · (simp only [h, (vm1), (vm2), (vm3), (vm4), aDet, ev, tget, tput, ofC, ofC1, pureR, condR, abin, aun, alen, gslot, Nat.reduceEqDiff, reduceIte, argTs, asliceS, asliceL, bnd, boolV, intV, retQ, aRes, aResV, oneAV, AV.low, AV.low.lows, Nat.reduceAdd, isStringD, isSliceD, isBoolD, setRange, AV.cells, AV.isCell, AV.isAgg, abytes, aconv, aeq, isConst, isByteD, isIfaceD, endQ, Int.reduceToNat, Int.reduceLE, Int.reduceLT, Int.reduceEq, Int.reduceNe, Int.reduceAdd, Int.reduceSub, Int.reduceNeg, Nat.reduceLT, Nat.reduceLeDiff, Ent.ver, Ent.imm, Ent.ty, lits, isEl, newCells, aappend, Nat.reduceBEq, fill, undef, (st1), (st2), (st3), (st4), (st5)]; try simp (disch := omega) only [wrapI64, Int.toNat_natCast, ← Int.natCast_add, nat_add_one, nat_add_two, take_drop_all, List.drop_zero, Nat.sub_zero, Nat.add_sub_cancel_left])
    have hno : txt (l.getD i 0).toNat = false → isTextB l = false := fun hf => by
      have : l.all (pB txt) = false := by
        rw [List.all_eq_false]
        refine ⟨l.getD i 0, by simp [List.getD, (by omega : i < l.length)], ?_⟩
        unfold pB; rw [hf]; simp
      simp [isTextB, this]
    by_cases h2 : ((l.getD i 0).toNat : Int) = 10
    · (simp only [h2, (vm1), (vm2), (vm3), (vm4), aDet, ev, tget, tput, ofC, ofC1, pureR, condR, abin, aun, alen, gslot, Nat.reduceEqDiff, reduceIte, argTs, asliceS, asliceL, bnd, boolV, intV, retQ, aRes, aResV, oneAV, AV.low, AV.low.lows, Nat.reduceAdd, isStringD, isSliceD, isBoolD, setRange, AV.cells, AV.isCell, AV.isAgg, abytes, aconv, aeq, isConst, isByteD, isIfaceD, endQ, Int.reduceToNat, Int.reduceLE, Int.reduceLT, Int.reduceEq, Int.reduceNe, Int.reduceAdd, Int.reduceSub, Int.reduceNeg, Nat.reduceLT, Nat.reduceLeDiff, Ent.ver, Ent.imm, Ent.ty, lits, isEl, newCells, aappend, Nat.reduceBEq, fill, undef, (st1), (st2), (st3), (st4), (st5)]; try simp (disch := omega) only [wrapI64, Int.toNat_natCast, ← Int.natCast_add, nat_add_one, nat_add_two, take_drop_all, List.drop_zero, Nat.sub_zero, Nat.add_sub_cancel_left])
      exact ⟨i + 1, ⟨by omega, take_succ_all (by omega) hall (by unfold pB txt; rw [h2]; rfl)⟩, by omega, rfl⟩
    · (simp only [h2, (vm1), (vm2), (vm3), (vm4), aDet, ev, tget, tput, ofC, ofC1, pureR, condR, abin, aun, alen, gslot, Nat.reduceEqDiff, reduceIte, argTs, asliceS, asliceL, bnd, boolV, intV, retQ, aRes, aResV, oneAV, AV.low, AV.low.lows, Nat.reduceAdd, isStringD, isSliceD, isBoolD, setRange, AV.cells, AV.isCell, AV.isAgg, abytes, aconv, aeq, isConst, isByteD, isIfaceD, endQ, Int.reduceToNat, Int.reduceLE, Int.reduceLT, Int.reduceEq, Int.reduceNe, Int.reduceAdd, Int.reduceSub, Int.reduceNeg, Nat.reduceLT, Nat.reduceLeDiff, Ent.ver, Ent.imm, Ent.ty, lits, isEl, newCells, aappend, Nat.reduceBEq, fill, undef, (st1), (st2), (st3), (st4), (st5)]; try simp (disch := omega) only [wrapI64, Int.toNat_natCast, ← Int.natCast_add, nat_add_one, nat_add_two, take_drop_all, List.drop_zero, Nat.sub_zero, Nat.add_sub_cancel_left])
      refine ⟨by omega, ?_⟩
      refine xWait.go (between_ok _ _ _ _) ?_
      cases h3 : btw 32 (l.getD i 0).toNat 126
      · (simp only [(vm1), (vm2), (vm3), (vm4), aDet, ev, tget, tput, ofC, ofC1, pureR, condR, abin, aun, alen, gslot, Nat.reduceEqDiff, reduceIte, argTs, asliceS, asliceL, bnd, boolV, intV, retQ, aRes, aResV, oneAV, AV.low, AV.low.lows, Nat.reduceAdd, isStringD, isSliceD, isBoolD, setRange, AV.cells, AV.isCell, AV.isAgg, abytes, aconv, aeq, isConst, isByteD, isIfaceD, endQ, Int.reduceToNat, Int.reduceLE, Int.reduceLT, Int.reduceEq, Int.reduceNe, Int.reduceAdd, Int.reduceSub, Int.reduceNeg, Nat.reduceLT, Nat.reduceLeDiff, Ent.ver, Ent.imm, Ent.ty, lits, isEl, newCells, aappend, Nat.reduceBEq, fill, undef, (st1), (st2), (st3), (st4), (st5)]; try simp (disch := omega) only [wrapI64, Int.toNat_natCast, ← Int.natCast_add, nat_add_one, nat_add_two, take_drop_all, List.drop_zero, Nat.sub_zero, Nat.add_sub_cancel_left])
        rw [hno (by simp only [txt, h2, h3, decide_false, Bool.or_self])]
      · (simp only [(vm1), (vm2), (vm3), (vm4), aDet, ev, tget, tput, ofC, ofC1, pureR, condR, abin, aun, alen, gslot, Nat.reduceEqDiff, reduceIte, argTs, asliceS, asliceL, bnd, boolV, intV, retQ, aRes, aResV, oneAV, AV.low, AV.low.lows, Nat.reduceAdd, isStringD, isSliceD, isBoolD, setRange, AV.cells, AV.isCell, AV.isAgg, abytes, aconv, aeq, isConst, isByteD, isIfaceD, endQ, Int.reduceToNat, Int.reduceLE, Int.reduceLT, Int.reduceEq, Int.reduceNe, Int.reduceAdd, Int.reduceSub, Int.reduceNeg, Nat.reduceLT, Nat.reduceLeDiff, Ent.ver, Ent.imm, Ent.ty, lits, isEl, newCells, aappend, Nat.reduceBEq, fill, undef, (st1), (st2), (st3), (st4), (st5)]; try simp (disch := omega) only [wrapI64, Int.toNat_natCast, ← Int.natCast_add, nat_add_one, nat_add_two, take_drop_all, List.drop_zero, Nat.sub_zero, Nat.add_sub_cancel_left])
        exact ⟨i + 1, ⟨by omega, take_succ_all (by omega) hall (by simp only [pB, txt, h3, Bool.or_true])⟩, by omega, rfl⟩
  · (simp only [h, (vm1), (vm2), (vm3), (vm4), aDet, ev, tget, tput, ofC, ofC1, pureR, condR, abin, aun, alen, gslot, Nat.reduceEqDiff, reduceIte, argTs, asliceS, asliceL, bnd, boolV, intV, retQ, aRes, aResV, oneAV, AV.low, AV.low.lows, Nat.reduceAdd, isStringD, isSliceD, isBoolD, setRange, AV.cells, AV.isCell, AV.isAgg, abytes, aconv, aeq, isConst, isByteD, isIfaceD, endQ, Int.reduceToNat, Int.reduceLE, Int.reduceLT, Int.reduceEq, Int.reduceNe, Int.reduceAdd, Int.reduceSub, Int.reduceNeg, Nat.reduceLT, Nat.reduceLeDiff, Ent.ver, Ent.imm, Ent.ty, lits, isEl, newCells, aappend, Nat.reduceBEq, fill, undef, (st1), (st2), (st3), (st4), (st5)]; try simp (disch := omega) only [wrapI64, Int.toNat_natCast, ← Int.natCast_add, nat_add_one, nat_add_two, take_drop_all, List.drop_zero, Nat.sub_zero, Nat.add_sub_cancel_left])
    have : l.all (pB txt) = true := List.all_eq_true.2 (by rw [List.take_of_length_le (by omega)] at hall; exact hall)
    unfold isTextB
    rw [this, Bool.true_and]
    have e : ((l.length : Int) ≤ 200) ↔ l.length ≤ 200 := by omega
    simp only [e]

theorem two_at {l : List UInt8} {i : Nat} (h : i + 1 < l.length) : ∃ a b r, l.drop i = a :: b :: r ∧ (l.drop i).take 2 = [a, b] ∧ r = l.drop (i + 2) := by
  refine ⟨l[i], l[i+1], l.drop (i + 2), ?_, ?_, rfl⟩
  · rw [List.drop_eq_getElem_cons (by omega), List.drop_eq_getElem_cons h]
  · rw [List.drop_eq_getElem_cons (by omega), List.drop_eq_getElem_cons h]
    rfl
theorem map_add (o : Option Nat) (a b : Nat) : (o.map (· + a)).map (· + b) = o.map (· + (a + b)) := by
  cases o
  · rfl
  · simp; omega

theorem comment_ok (r : List UInt8) (l : List UInt8) (hr : l = 40 :: 42 :: r) (hl : l.length ≤ 1099511627776) (σ : List Ent) :
    ACalls E 35 [.str l] σ fun r τ => r = (match cs 0 l with | some n => AV.tup [i64 n, boolV true] | none => .tup [i64 0, boolV false]) ∧ τ = σ := by
  refine xacalls T0 .drop [] Tryz.func35 rfl (by kernel_rfl) (by kernel_rfl) (by simp [Tryz.ntmps35]) ?_
  (simp only [(vm1), (vm2), (vm3), (vm4), aDet, ev, tget, tput, ofC, ofC1, pureR, condR, abin, aun, alen, gslot, Nat.reduceEqDiff, reduceIte, argTs, asliceS, asliceL, bnd, boolV, intV, retQ, aRes, aResV, oneAV, AV.low, AV.low.lows, Nat.reduceAdd, isStringD, isSliceD, isBoolD, setRange, AV.cells, AV.isCell, AV.isAgg, abytes, aconv, aeq, isConst, isByteD, isIfaceD, endQ, Int.reduceToNat, Int.reduceLE, Int.reduceLT, Int.reduceEq, Int.reduceNe, Int.reduceAdd, Int.reduceSub, Int.reduceNeg, Nat.reduceLT, Nat.reduceLeDiff, Ent.ver, Ent.imm, Ent.ty, lits, isEl, newCells, aappend, Nat.reduceBEq, fill, undef, (st1), (st2), (st3), (st4), (st5)]; try simp (disch := omega) only [wrapI64, Int.toNat_natCast, ← Int.natCast_add, nat_add_one, nat_add_two, take_drop_all, List.drop_zero, Nat.sub_zero, Nat.add_sub_cancel_left])
  refine xloop (α := Nat × Nat) T0 (fun x => [(0, .str l), (4, i64 x.2), (5, i64 x.1)]) (fun _ => σ) (fun _ => [])
    (fun x => x.1 ≤ l.length ∧ x.2 ≤ x.1 ∧ (x.2 = 0 → x.1 = 0) ∧ cs 0 l = (cs x.2 (l.drop x.1)).map (· + x.1)) (fun x => l.length - x.1) (by kernel_rfl)
    ⟨(0, 0), ⟨by simp, by simp, by simp, by simp only [List.drop_zero]; cases cs 0 l <;> rfl⟩, by (simp only [(vm1), (vm2), (vm3), (vm4), aDet, ev, tget, tput, ofC, ofC1, pureR, condR, abin, aun, alen, gslot, Nat.reduceEqDiff, reduceIte, argTs, asliceS, asliceL, bnd, boolV, intV, retQ, aRes, aResV, oneAV, AV.low, AV.low.lows, Nat.reduceAdd, isStringD, isSliceD, isBoolD, setRange, AV.cells, AV.isCell, AV.isAgg, abytes, aconv, aeq, isConst, isByteD, isIfaceD, endQ, Int.reduceToNat, Int.reduceLE, Int.reduceLT, Int.reduceEq, Int.reduceNe, Int.reduceAdd, Int.reduceSub, Int.reduceNeg, Nat.reduceLT, Nat.reduceLeDiff, Ent.ver, Ent.imm, Ent.ty, lits, isEl, newCells, aappend, Nat.reduceBEq, fill, undef, (st1), (st2), (st3), (st4), (st5), Int.natCast_zero]; try simp (disch := omega) only [wrapI64, Int.toNat_natCast, ← Int.natCast_add, nat_add_one, nat_add_two, take_drop_all, List.drop_zero, Nat.sub_zero, Nat.add_sub_cancel_left]), rfl, rfl⟩ ?_
  generalize hR : cs 0 l = R
  rintro ⟨i, d⟩ ⟨hi, hd, h0, hc⟩
  simp only at hi hd h0 hc
  (simp only [(vm1), (vm2), (vm3), (vm4), aDet, ev, tget, tput, ofC, ofC1, pureR, condR, abin, aun, alen, gslot, Nat.reduceEqDiff, reduceIte, argTs, asliceS, asliceL, bnd, boolV, intV, retQ, aRes, aResV, oneAV, AV.low, AV.low.lows, Nat.reduceAdd, isStringD, isSliceD, isBoolD, setRange, AV.cells, AV.isCell, AV.isAgg, abytes, aconv, aeq, isConst, isByteD, isIfaceD, endQ, Int.reduceToNat, Int.reduceLE, Int.reduceLT, Int.reduceEq, Int.reduceNe, Int.reduceAdd, Int.reduceSub, Int.reduceNeg, Nat.reduceLT, Nat.reduceLeDiff, Ent.ver, Ent.imm, Ent.ty, lits, isEl, newCells, aappend, Nat.reduceBEq, fill, undef, (st1), (st2), (st3), (st4), (st5)]; try simp (disch := omega) only [wrapI64, Int.toNat_natCast, ← Int.natCast_add, nat_add_one, nat_add_two, take_drop_all, List.drop_zero, Nat.sub_zero, Nat.add_sub_cancel_left])
  by_cases h : ((i + 1 : Nat) : Int) < l.length
  · obtain ⟨a, b, r', e1, e2, e3⟩ := two_at (l := l) (i := i) (by omega)
    have hcs := hc
    rw [e1, cs] at hcs
    (simp only [h, (vm1), (vm2), (vm3), (vm4), aDet, ev, tget, tput, ofC, ofC1, pureR, condR, abin, aun, alen, gslot, Nat.reduceEqDiff, reduceIte, argTs, asliceS, asliceL, bnd, boolV, intV, retQ, aRes, aResV, oneAV, AV.low, AV.low.lows, Nat.reduceAdd, isStringD, isSliceD, isBoolD, setRange, AV.cells, AV.isCell, AV.isAgg, abytes, aconv, aeq, isConst, isByteD, isIfaceD, endQ, Int.reduceToNat, Int.reduceLE, Int.reduceLT, Int.reduceEq, Int.reduceNe, Int.reduceAdd, Int.reduceSub, Int.reduceNeg, Nat.reduceLT, Nat.reduceLeDiff, Ent.ver, Ent.imm, Ent.ty, lits, isEl, newCells, aappend, Nat.reduceBEq, fill, undef, (st1), (st2), (st3), (st4), (st5)]; try simp (disch := omega) only [wrapI64, Int.toNat_natCast, ← Int.natCast_add, nat_add_one, nat_add_two, take_drop_all, List.drop_zero, Nat.sub_zero, Nat.add_sub_cancel_left])
    refine ⟨by omega, ?_⟩
    simp only [e2]
    by_cases h1 : [a, b] = [40, 42]
    · (simp only [h1, (vm1), (vm2), (vm3), (vm4), aDet, ev, tget, tput, ofC, ofC1, pureR, condR, abin, aun, alen, gslot, Nat.reduceEqDiff, reduceIte, argTs, asliceS, asliceL, bnd, boolV, intV, retQ, aRes, aResV, oneAV, AV.low, AV.low.lows, Nat.reduceAdd, isStringD, isSliceD, isBoolD, setRange, AV.cells, AV.isCell, AV.isAgg, abytes, aconv, aeq, isConst, isByteD, isIfaceD, endQ, Int.reduceToNat, Int.reduceLE, Int.reduceLT, Int.reduceEq, Int.reduceNe, Int.reduceAdd, Int.reduceSub, Int.reduceNeg, Nat.reduceLT, Nat.reduceLeDiff, Ent.ver, Ent.imm, Ent.ty, lits, isEl, newCells, aappend, Nat.reduceBEq, fill, undef, (st1), (st2), (st3), (st4), (st5)]; try simp (disch := omega) only [wrapI64, Int.toNat_natCast, ← Int.natCast_add, nat_add_one, nat_add_two, take_drop_all, List.drop_zero, Nat.sub_zero, Nat.add_sub_cancel_left])
      have hne : ¬ ((d + 1 : Nat) : Int) = 0 := by omega
      (simp only [hne, (vm1), (vm2), (vm3), (vm4), aDet, ev, tget, tput, ofC, ofC1, pureR, condR, abin, aun, alen, gslot, Nat.reduceEqDiff, reduceIte, argTs, asliceS, asliceL, bnd, boolV, intV, retQ, aRes, aResV, oneAV, AV.low, AV.low.lows, Nat.reduceAdd, isStringD, isSliceD, isBoolD, setRange, AV.cells, AV.isCell, AV.isAgg, abytes, aconv, aeq, isConst, isByteD, isIfaceD, endQ, Int.reduceToNat, Int.reduceLE, Int.reduceLT, Int.reduceEq, Int.reduceNe, Int.reduceAdd, Int.reduceSub, Int.reduceNeg, Nat.reduceLT, Nat.reduceLeDiff, Ent.ver, Ent.imm, Ent.ty, lits, isEl, newCells, aappend, Nat.reduceBEq, fill, undef, (st1), (st2), (st3), (st4), (st5)]; try simp (disch := omega) only [wrapI64, Int.toNat_natCast, ← Int.natCast_add, nat_add_one, nat_add_two, take_drop_all, List.drop_zero, Nat.sub_zero, Nat.add_sub_cancel_left])
      rw [if_pos (by simpa using h1)] at hcs
      refine ⟨(i + 2, d + 1), ⟨by simp only; omega, by simp only; omega, by simp only; omega, ?_⟩, by simp only; omega, rfl, rfl⟩
      rw [hcs, e3, map_add, Nat.add_comm 2 i]
    · rw [if_neg (by simpa using h1)] at hcs
      have hd0 : d ≠ 0 := fun e => by
        have e4 := h0 e
        subst e4
        rw [List.drop_zero, hr] at e1
        injection e1 with e5 e6
        injection e6 with e6 e7
        exact h1 (by rw [e5, e6])
      by_cases h2 : [a, b] = [42, 41]
      · rw [if_pos (by simpa using h2)] at hcs
        obtain ⟨d', rfl⟩ : ∃ d', d = d' + 1 := ⟨d - 1, by omega⟩
        have hs : ((d' + 1 : Nat) : Int) - 1 = d' := by omega
        have h1' : ¬ ([42, 41] : List UInt8) = [40, 42] := by decide
        (simp only [h2, h1', hs, (vm1), (vm2), (vm3), (vm4), aDet, ev, tget, tput, ofC, ofC1, pureR, condR, abin, aun, alen, gslot, Nat.reduceEqDiff, reduceIte, argTs, asliceS, asliceL, bnd, boolV, intV, retQ, aRes, aResV, oneAV, AV.low, AV.low.lows, Nat.reduceAdd, isStringD, isSliceD, isBoolD, setRange, AV.cells, AV.isCell, AV.isAgg, abytes, aconv, aeq, isConst, isByteD, isIfaceD, endQ, Int.reduceToNat, Int.reduceLE, Int.reduceLT, Int.reduceEq, Int.reduceNe, Int.reduceAdd, Int.reduceSub, Int.reduceNeg, Nat.reduceLT, Nat.reduceLeDiff, Ent.ver, Ent.imm, Ent.ty, lits, isEl, newCells, aappend, Nat.reduceBEq, fill, undef, (st1), (st2), (st3), (st4), (st5)]; try simp (disch := omega) only [wrapI64, Int.toNat_natCast, ← Int.natCast_add, nat_add_one, nat_add_two, take_drop_all, List.drop_zero, Nat.sub_zero, Nat.add_sub_cancel_left])
        by_cases h3 : (d' : Int) = 0
        · have h4 : d' = 0 := by omega
          subst h4
          (simp only [h3, (vm1), (vm2), (vm3), (vm4), aDet, ev, tget, tput, ofC, ofC1, pureR, condR, abin, aun, alen, gslot, Nat.reduceEqDiff, reduceIte, argTs, asliceS, asliceL, bnd, boolV, intV, retQ, aRes, aResV, oneAV, AV.low, AV.low.lows, Nat.reduceAdd, isStringD, isSliceD, isBoolD, setRange, AV.cells, AV.isCell, AV.isAgg, abytes, aconv, aeq, isConst, isByteD, isIfaceD, endQ, Int.reduceToNat, Int.reduceLE, Int.reduceLT, Int.reduceEq, Int.reduceNe, Int.reduceAdd, Int.reduceSub, Int.reduceNeg, Nat.reduceLT, Nat.reduceLeDiff, Ent.ver, Ent.imm, Ent.ty, lits, isEl, newCells, aappend, Nat.reduceBEq, fill, undef, (st1), (st2), (st3), (st4), (st5)]; try simp (disch := omega) only [wrapI64, Int.toNat_natCast, ← Int.natCast_add, nat_add_one, nat_add_two, take_drop_all, List.drop_zero, Nat.sub_zero, Nat.add_sub_cancel_left])
          rw [if_pos rfl] at hcs
          rw [hcs]
          simp only [Option.map_some]
          rw [show 2 + i = i + 2 by omega]
        · rw [if_neg (by omega), map_add, Nat.add_comm 2 i, Nat.add_sub_cancel] at hcs
          (simp only [h3, (vm1), (vm2), (vm3), (vm4), aDet, ev, tget, tput, ofC, ofC1, pureR, condR, abin, aun, alen, gslot, Nat.reduceEqDiff, reduceIte, argTs, asliceS, asliceL, bnd, boolV, intV, retQ, aRes, aResV, oneAV, AV.low, AV.low.lows, Nat.reduceAdd, isStringD, isSliceD, isBoolD, setRange, AV.cells, AV.isCell, AV.isAgg, abytes, aconv, aeq, isConst, isByteD, isIfaceD, endQ, Int.reduceToNat, Int.reduceLE, Int.reduceLT, Int.reduceEq, Int.reduceNe, Int.reduceAdd, Int.reduceSub, Int.reduceNeg, Nat.reduceLT, Nat.reduceLeDiff, Ent.ver, Ent.imm, Ent.ty, lits, isEl, newCells, aappend, Nat.reduceBEq, fill, undef, (st1), (st2), (st3), (st4), (st5)]; try simp (disch := omega) only [wrapI64, Int.toNat_natCast, ← Int.natCast_add, nat_add_one, nat_add_two, take_drop_all, List.drop_zero, Nat.sub_zero, Nat.add_sub_cancel_left])
          exact ⟨(i + 2, d'), ⟨by simp only; omega, by simp only; omega, by simp only; omega, by rw [hcs, e3]⟩, by simp only; omega, rfl, rfl⟩
      · rw [if_neg (by simpa using h2), map_add, Nat.add_comm 1 i] at hcs
        have hne : ¬ (d : Int) = 0 := by omega
        (simp only [h1, h2, hne, (vm1), (vm2), (vm3), (vm4), aDet, ev, tget, tput, ofC, ofC1, pureR, condR, abin, aun, alen, gslot, Nat.reduceEqDiff, reduceIte, argTs, asliceS, asliceL, bnd, boolV, intV, retQ, aRes, aResV, oneAV, AV.low, AV.low.lows, Nat.reduceAdd, isStringD, isSliceD, isBoolD, setRange, AV.cells, AV.isCell, AV.isAgg, abytes, aconv, aeq, isConst, isByteD, isIfaceD, endQ, Int.reduceToNat, Int.reduceLE, Int.reduceLT, Int.reduceEq, Int.reduceNe, Int.reduceAdd, Int.reduceSub, Int.reduceNeg, Nat.reduceLT, Nat.reduceLeDiff, Ent.ver, Ent.imm, Ent.ty, lits, isEl, newCells, aappend, Nat.reduceBEq, fill, undef, (st1), (st2), (st3), (st4), (st5)]; try simp (disch := omega) only [wrapI64, Int.toNat_natCast, ← Int.natCast_add, nat_add_one, nat_add_two, take_drop_all, List.drop_zero, Nat.sub_zero, Nat.add_sub_cancel_left])
        refine ⟨(i + 1, d), ⟨by simp only; omega, by simp only; omega, by simp only; omega, ?_⟩, by simp only; omega, rfl, rfl⟩
        have : l.drop (i + 1) = b :: r' := by
          rw [← List.drop_drop, e1]; rfl
        rw [hcs, this]
  · (simp only [h, (vm1), (vm2), (vm3), (vm4), aDet, ev, tget, tput, ofC, ofC1, pureR, condR, abin, aun, alen, gslot, Nat.reduceEqDiff, reduceIte, argTs, asliceS, asliceL, bnd, boolV, intV, retQ, aRes, aResV, oneAV, AV.low, AV.low.lows, Nat.reduceAdd, isStringD, isSliceD, isBoolD, setRange, AV.cells, AV.isCell, AV.isAgg, abytes, aconv, aeq, isConst, isByteD, isIfaceD, endQ, Int.reduceToNat, Int.reduceLE, Int.reduceLT, Int.reduceEq, Int.reduceNe, Int.reduceAdd, Int.reduceSub, Int.reduceNeg, Nat.reduceLT, Nat.reduceLeDiff, Ent.ver, Ent.imm, Ent.ty, lits, isEl, newCells, aappend, Nat.reduceBEq, fill, undef, (st1), (st2), (st3), (st4), (st5)]; try simp (disch := omega) only [wrapI64, Int.toNat_natCast, ← Int.natCast_add, nat_add_one, nat_add_two, take_drop_all, List.drop_zero, Nat.sub_zero, Nat.add_sub_cancel_left])
    have : cs d (l.drop i) = none := by
      have h3 : (l.drop i).length < 2 := by rw [List.length_drop]; omega
      match hh : l.drop i with
      | [] => rfl
      | [_] => rfl
      | _ :: _ :: _ => rw [hh] at h3; simp at h3; omega
    rw [this] at hc
    rw [hc]; rfl
end Go.D

/- The builder of texts; quoted texts. -/
set_option linter.unusedVariables false
set_option linter.unusedSimpArgs false
set_option maxRecDepth 100000
namespace Go.D
open Go Go.Vm Go.Proofs Go.RowKit

theorem noEscape_ok (x : AV) (σ : List Ent) : ACalls E 97 [x] σ fun r τ => r = x ∧ τ = σ :=
  acalls_noEscape (fn := Tryz.f97) rfl (by kernel_rfl) (by kernel_rfl) (by kernel_rfl) (by kernel_rfl)

theorem copyCheck_new (σ : List Ent) (x : AV) : ACalls E 81 [.ref σ.length 0 0] (σ ++ [.arr 68 [.v (.pointer none), x] 0 0]) fun r τ => r = .tup [] ∧ τ = σ ++ [.arr 68 [.ref σ.length 0 0, x] 0 0] := by
  refine xacalls T0 .stay [] Tryz.func81 rfl (by kernel_rfl) (by kernel_rfl) (by simp [Tryz.ntmps81]) ?_
  (simp only [(vm1), (vm2), (vm3), (vm4), aDet, ev, tget, tput, ofC, ofC1, pureR, condR, abin, aun, alen, gslot, Nat.reduceEqDiff, reduceIte, argTs, asliceS, asliceL, bnd, boolV, intV, retQ, aRes, aResV, oneAV, AV.low, AV.low.lows, Nat.reduceAdd, isStringD, isSliceD, isBoolD, setRange, AV.cells, AV.isCell, AV.isAgg, abytes, aconv, aeq, isConst, isByteD, isIfaceD, endQ, Int.reduceToNat, Int.reduceLE, Int.reduceLT, Int.reduceEq, Int.reduceNe, Int.reduceAdd, Int.reduceSub, Int.reduceNeg, Nat.reduceLT, Nat.reduceLeDiff, Ent.ver, Ent.imm, Ent.ty, lits, isEl, newCells, aappend, Nat.reduceBEq, fill, undef, (st1), (st2), (st3), (st4), (st5)]; try simp (disch := omega) only [wrapI64, Int.toNat_natCast, ← Int.natCast_add, nat_add_one, nat_add_two, take_drop_all, List.drop_zero, Nat.sub_zero, Nat.add_sub_cancel_left])
  refine xWait.go (noEscape_ok _ _) ?_
  (simp only [(vm1), (vm2), (vm3), (vm4), aDet, ev, tget, tput, ofC, ofC1, pureR, condR, abin, aun, alen, gslot, Nat.reduceEqDiff, reduceIte, argTs, asliceS, asliceL, bnd, boolV, intV, retQ, aRes, aResV, oneAV, AV.low, AV.low.lows, Nat.reduceAdd, isStringD, isSliceD, isBoolD, setRange, AV.cells, AV.isCell, AV.isAgg, abytes, aconv, aeq, isConst, isByteD, isIfaceD, endQ, Int.reduceToNat, Int.reduceLE, Int.reduceLT, Int.reduceEq, Int.reduceNe, Int.reduceAdd, Int.reduceSub, Int.reduceNeg, Nat.reduceLT, Nat.reduceLeDiff, Ent.ver, Ent.imm, Ent.ty, lits, isEl, newCells, aappend, Nat.reduceBEq, fill, undef, (st1), (st2), (st3), (st4), (st5)]; try simp (disch := omega) only [wrapI64, Int.toNat_natCast, ← Int.natCast_add, nat_add_one, nat_add_two, take_drop_all, List.drop_zero, Nat.sub_zero, Nat.add_sub_cancel_left])
theorem copyCheck_old (σ : List Ent) (x : AV) (r : List Ent) : ACalls E 81 [.ref σ.length 0 0] (σ ++ .arr 68 [.ref σ.length 0 0, x] 0 0 :: r) fun r' τ => r' = .tup [] ∧ τ = σ ++ .arr 68 [.ref σ.length 0 0, x] 0 0 :: r := by
  refine xacalls T0 .stay [] Tryz.func81 rfl (by kernel_rfl) (by kernel_rfl) (by simp [Tryz.ntmps81]) ?_
  (simp only [(vm1), (vm2), (vm3), (vm4), aDet, ev, tget, tput, ofC, ofC1, pureR, condR, abin, aun, alen, gslot, Nat.reduceEqDiff, reduceIte, argTs, asliceS, asliceL, bnd, boolV, intV, retQ, aRes, aResV, oneAV, AV.low, AV.low.lows, Nat.reduceAdd, isStringD, isSliceD, isBoolD, setRange, AV.cells, AV.isCell, AV.isAgg, abytes, aconv, aeq, isConst, isByteD, isIfaceD, endQ, Int.reduceToNat, Int.reduceLE, Int.reduceLT, Int.reduceEq, Int.reduceNe, Int.reduceAdd, Int.reduceSub, Int.reduceNeg, Nat.reduceLT, Nat.reduceLeDiff, Ent.ver, Ent.imm, Ent.ty, lits, isEl, newCells, aappend, Nat.reduceBEq, fill, undef, (st1), (st2), (st3), (st4), (st5)]; try simp (disch := omega) only [wrapI64, Int.toNat_natCast, ← Int.natCast_add, nat_add_one, nat_add_two, take_drop_all, List.drop_zero, Nat.sub_zero, Nat.add_sub_cancel_left])

/-- A builder, and its bytes. -/
def bl (m : Nat) : List UInt8 → List Ent
  | [] => [.arr 68 [.v (.pointer none), .v (.slice none 0 0)] 0 0]
  | b :: r => [.arr 68 [.ref m 0 0, .rsl (m + 1) r.length 0 (r.length + 1) 1] 0 0, .arr 5 ((b :: r).map byteAV) r.length 0]

theorem WriteByte_ok (σ : List Ent) (out : List UInt8) (b : UInt8) (h : out.length ≤ 1099511627776) : ACalls E 61 [.ref σ.length 0 0, u8 b.toNat] (σ ++ bl σ.length out) fun r τ => r = .v .nilIface ∧ τ = σ ++ bl σ.length (out ++ [b]) := by
  refine xacalls T0 .stay [] Tryz.func61 rfl (by kernel_rfl) (by kernel_rfl) (by simp [Tryz.ntmps61]) ?_
  rcases out with _ | ⟨a, r⟩
  · (simp only [bl, (vm1), (vm2), (vm3), (vm4), aDet, ev, tget, tput, ofC, ofC1, pureR, condR, abin, aun, alen, gslot, Nat.reduceEqDiff, reduceIte, argTs, asliceS, asliceL, bnd, boolV, intV, retQ, aRes, aResV, oneAV, AV.low, AV.low.lows, Nat.reduceAdd, isStringD, isSliceD, isBoolD, setRange, AV.cells, AV.isCell, AV.isAgg, abytes, aconv, aeq, isConst, isByteD, isIfaceD, endQ, Int.reduceToNat, Int.reduceLE, Int.reduceLT, Int.reduceEq, Int.reduceNe, Int.reduceAdd, Int.reduceSub, Int.reduceNeg, Nat.reduceLT, Nat.reduceLeDiff, Ent.ver, Ent.imm, Ent.ty, lits, isEl, newCells, aappend, Nat.reduceBEq, fill, undef, (st1), (st2), (st3), (st4), (st5)]; try simp (disch := omega) only [wrapI64, Int.toNat_natCast, ← Int.natCast_add, nat_add_one, nat_add_two, take_drop_all, List.drop_zero, Nat.sub_zero, Nat.add_sub_cancel_left])
    refine xWait.go (copyCheck_new σ _) ?_
    (simp only [(vm1), (vm2), (vm3), (vm4), aDet, ev, tget, tput, ofC, ofC1, pureR, condR, abin, aun, alen, gslot, Nat.reduceEqDiff, reduceIte, argTs, asliceS, asliceL, bnd, boolV, intV, retQ, aRes, aResV, oneAV, AV.low, AV.low.lows, Nat.reduceAdd, isStringD, isSliceD, isBoolD, setRange, AV.cells, AV.isCell, AV.isAgg, abytes, aconv, aeq, isConst, isByteD, isIfaceD, endQ, Int.reduceToNat, Int.reduceLE, Int.reduceLT, Int.reduceEq, Int.reduceNe, Int.reduceAdd, Int.reduceSub, Int.reduceNeg, Nat.reduceLT, Nat.reduceLeDiff, Ent.ver, Ent.imm, Ent.ty, lits, isEl, newCells, aappend, Nat.reduceBEq, fill, undef, (st1), (st2), (st3), (st4), (st5)]; try simp (disch := omega) only [wrapI64, Int.toNat_natCast, ← Int.natCast_add, nat_add_one, nat_add_two, take_drop_all, List.drop_zero, Nat.sub_zero, Nat.add_sub_cancel_left])
    refine ⟨by unfold maxRoom; omega, ?_⟩
    simp [bl, byteAV, intV]
  · (simp only [bl, (vm1), (vm2), (vm3), (vm4), aDet, ev, tget, tput, ofC, ofC1, pureR, condR, abin, aun, alen, gslot, Nat.reduceEqDiff, reduceIte, argTs, asliceS, asliceL, bnd, boolV, intV, retQ, aRes, aResV, oneAV, AV.low, AV.low.lows, Nat.reduceAdd, isStringD, isSliceD, isBoolD, setRange, AV.cells, AV.isCell, AV.isAgg, abytes, aconv, aeq, isConst, isByteD, isIfaceD, endQ, Int.reduceToNat, Int.reduceLE, Int.reduceLT, Int.reduceEq, Int.reduceNe, Int.reduceAdd, Int.reduceSub, Int.reduceNeg, Nat.reduceLT, Nat.reduceLeDiff, Ent.ver, Ent.imm, Ent.ty, lits, isEl, newCells, aappend, Nat.reduceBEq, fill, undef, (st1), (st2), (st3), (st4), (st5)]; try simp (disch := omega) only [wrapI64, Int.toNat_natCast, ← Int.natCast_add, nat_add_one, nat_add_two, take_drop_all, List.drop_zero, Nat.sub_zero, Nat.add_sub_cancel_left])
    refine xWait.go (copyCheck_old σ _ _) ?_
    (simp only [(vm1), (vm2), (vm3), (vm4), aDet, ev, tget, tput, ofC, ofC1, pureR, condR, abin, aun, alen, gslot, Nat.reduceEqDiff, reduceIte, argTs, asliceS, asliceL, bnd, boolV, intV, retQ, aRes, aResV, oneAV, AV.low, AV.low.lows, Nat.reduceAdd, isStringD, isSliceD, isBoolD, setRange, AV.cells, AV.isCell, AV.isAgg, abytes, aconv, aeq, isConst, isByteD, isIfaceD, endQ, Int.reduceToNat, Int.reduceLE, Int.reduceLT, Int.reduceEq, Int.reduceNe, Int.reduceAdd, Int.reduceSub, Int.reduceNeg, Nat.reduceLT, Nat.reduceLeDiff, Ent.ver, Ent.imm, Ent.ty, lits, isEl, newCells, aappend, Nat.reduceBEq, fill, undef, (st1), (st2), (st3), (st4), (st5)]; try simp (disch := omega) only [wrapI64, Int.toNat_natCast, ← Int.natCast_add, nat_add_one, nat_add_two, take_drop_all, List.drop_zero, Nat.sub_zero, Nat.add_sub_cancel_left])
    simp only [List.length_cons] at h
    refine ⟨by unfold maxRoom; omega, ?_⟩
    simp [bl, byteAV, intV]

theorem av_all (a : UInt8) (r : List UInt8) : avBytes ((byteAV a :: List.map byteAV r).take (r.length + 1)) = some (a :: r) := by
  have : (byteAV a :: List.map byteAV r).take (r.length + 1) = (a :: r).map byteAV := by rw [List.take_of_length_le (by simp)]; rfl
  rw [this, avBytes_map]
theorem av_all2 (a : UInt8) (r : List UInt8) : avBytes (byteAV a :: List.take r.length (List.map byteAV r)) = some (a :: r) := av_all a r
theorem String_ok (σ : List Ent) (out : List UInt8) (h : out.length ≤ 1099511627776) : ACalls E 59 [.ref σ.length 0 0] (σ ++ bl σ.length out) fun r τ => r = .str out ∧ ∃ l, τ = σ ++ l := by
  refine xacalls T0 .stay [] Tryz.func59 rfl (by kernel_rfl) (by kernel_rfl) (by simp [Tryz.ntmps59]) ?_
  rcases out with _ | ⟨a, r⟩
  · (simp only [bl, (vm1), (vm2), (vm3), (vm4), aDet, ev, tget, tput, ofC, ofC1, pureR, condR, abin, aun, alen, gslot, Nat.reduceEqDiff, reduceIte, argTs, asliceS, asliceL, bnd, boolV, intV, retQ, aRes, aResV, oneAV, AV.low, AV.low.lows, Nat.reduceAdd, isStringD, isSliceD, isBoolD, setRange, AV.cells, AV.isCell, AV.isAgg, abytes, aconv, aeq, isConst, isByteD, isIfaceD, endQ, Int.reduceToNat, Int.reduceLE, Int.reduceLT, Int.reduceEq, Int.reduceNe, Int.reduceAdd, Int.reduceSub, Int.reduceNeg, Nat.reduceLT, Nat.reduceLeDiff, Ent.ver, Ent.imm, Ent.ty, lits, isEl, newCells, aappend, Nat.reduceBEq, fill, undef, (st1), (st2), (st3), (st4), (st5)]; try simp (disch := omega) only [wrapI64, Int.toNat_natCast, ← Int.natCast_add, nat_add_one, nat_add_two, take_drop_all, List.drop_zero, Nat.sub_zero, Nat.add_sub_cancel_left])
    refine ydraw T0 [10] (by kernel_rfl) (by kernel_rfl) (by kernel_rfl) (by kernel_rfl) ?_
    (simp only [(vm1), (vm2), (vm3), (vm4), aDet, ev, tget, tput, ofC, ofC1, pureR, condR, abin, aun, alen, gslot, Nat.reduceEqDiff, reduceIte, argTs, asliceS, asliceL, bnd, boolV, intV, retQ, aRes, aResV, oneAV, AV.low, AV.low.lows, Nat.reduceAdd, isStringD, isSliceD, isBoolD, setRange, AV.cells, AV.isCell, AV.isAgg, abytes, aconv, aeq, isConst, isByteD, isIfaceD, endQ, Int.reduceToNat, Int.reduceLE, Int.reduceLT, Int.reduceEq, Int.reduceNe, Int.reduceAdd, Int.reduceSub, Int.reduceNeg, Nat.reduceLT, Nat.reduceLeDiff, Ent.ver, Ent.imm, Ent.ty, lits, isEl, newCells, aappend, Nat.reduceBEq, fill, undef, (st1), (st2), (st3), (st4), (st5)]; try simp (disch := omega) only [wrapI64, Int.toNat_natCast, ← Int.natCast_add, nat_add_one, nat_add_two, take_drop_all, List.drop_zero, Nat.sub_zero, Nat.add_sub_cancel_left])
    try exact ⟨_, rfl⟩
  · (simp only [bl, (vm1), (vm2), (vm3), (vm4), aDet, ev, tget, tput, ofC, ofC1, pureR, condR, abin, aun, alen, gslot, Nat.reduceEqDiff, reduceIte, argTs, asliceS, asliceL, bnd, boolV, intV, retQ, aRes, aResV, oneAV, AV.low, AV.low.lows, Nat.reduceAdd, isStringD, isSliceD, isBoolD, setRange, AV.cells, AV.isCell, AV.isAgg, abytes, aconv, aeq, isConst, isByteD, isIfaceD, endQ, Int.reduceToNat, Int.reduceLE, Int.reduceLT, Int.reduceEq, Int.reduceNe, Int.reduceAdd, Int.reduceSub, Int.reduceNeg, Nat.reduceLT, Nat.reduceLeDiff, Ent.ver, Ent.imm, Ent.ty, lits, isEl, newCells, aappend, Nat.reduceBEq, fill, undef, (st1), (st2), (st3), (st4), (st5)]; try simp (disch := omega) only [wrapI64, Int.toNat_natCast, ← Int.natCast_add, nat_add_one, nat_add_two, take_drop_all, List.drop_zero, Nat.sub_zero, Nat.add_sub_cancel_left])
    refine ydraw T0 [10] (by kernel_rfl) (by kernel_rfl) (by kernel_rfl) (by kernel_rfl) ?_
    (simp only [av_all, av_all2, (vm1), (vm2), (vm3), (vm4), aDet, ev, tget, tput, ofC, ofC1, pureR, condR, abin, aun, alen, gslot, Nat.reduceEqDiff, reduceIte, argTs, asliceS, asliceL, bnd, boolV, intV, retQ, aRes, aResV, oneAV, AV.low, AV.low.lows, Nat.reduceAdd, isStringD, isSliceD, isBoolD, setRange, AV.cells, AV.isCell, AV.isAgg, abytes, aconv, aeq, isConst, isByteD, isIfaceD, endQ, Int.reduceToNat, Int.reduceLE, Int.reduceLT, Int.reduceEq, Int.reduceNe, Int.reduceAdd, Int.reduceSub, Int.reduceNeg, Nat.reduceLT, Nat.reduceLeDiff, Ent.ver, Ent.imm, Ent.ty, lits, isEl, newCells, aappend, Nat.reduceBEq, fill, undef, (st1), (st2), (st3), (st4), (st5)]; try simp (disch := omega) only [wrapI64, Int.toNat_natCast, ← Int.natCast_add, nat_add_one, nat_add_two, take_drop_all, List.drop_zero, Nat.sub_zero, Nat.add_sub_cancel_left])
    simp only [List.length_cons] at h
    refine ⟨by omega, ⟨by omega, by unfold maxRoom; omega⟩, _, rfl⟩

theorem qS_q (x : List UInt8) : qS (34 :: x) = some (1, []) := by cases x <;> simp [qS]
theorem qS_bad (a : UInt8) (x : List UInt8) (h : a ≠ 34) (h2 : btw 32 a.toNat 126 = false) : qS (a :: x) = none := by
  have h3 : a ≠ 92 := fun e => by rw [e] at h2; revert h2; decide
  cases x <;> simp [qS, h, h2, h3]
theorem qS_plain (a : UInt8) (x : List UInt8) (h : a ≠ 34) (h3 : a ≠ 92) (h2 : btw 32 a.toNat 126 = true) : qS (a :: x) = (qS x).map fun y => (y.1 + 1, a :: y.2) := by
  cases x <;> simp [qS, h, h2, h3]
theorem qS_end : qS [92] = none := by simp [qS]
theorem qS_esc (b : UInt8) (x : List UInt8) : qS (92 :: b :: x) = if b = 110 then (qS x).map fun y => (y.1 + 2, 10 :: y.2) else if b = 34 ∨ b = 92 then (qS x).map fun y => (y.1 + 2, b :: y.2) else none := by
  simp [qS]

theorem contains_esc (c : UInt8) : Lib.contains [110, 34, 92] [c] = (decide (c = 110) || (decide (c = 34) || decide (c = 92))) := by
  simp only [Lib.contains, Lib.index, List.isPrefixOf]
  by_cases h1 : c = 110 <;> by_cases h2 : c = 34 <;> by_cases h3 : c = 92 <;> simp_all
theorem one_at {l : List UInt8} {i : Nat} (h : i < l.length) : l.drop i = l.getD i 0 :: l.drop (i + 1) ∧ (l.drop i).take 1 = [l.getD i 0] := by
  have : l.drop i = l.getD i 0 :: l.drop (i + 1) := by rw [List.drop_eq_getElem_cons h]; simp [List.getD, h]
  refine ⟨this, ?_⟩
  rw [this]; rfl
theorem u8_eq (a : UInt8) (n : Nat) (hn : n < 256) : ((a.toNat : Int) = n) ↔ a = UInt8.ofNat n := by
  constructor
  · intro h
    apply UInt8.toNat_inj.1
    simp; omega
  · intro h; rw [h]; simp; omega

theorem quoted_ok (r l : List UInt8) (hr : l = 34 :: r) (hl : l.length ≤ 1099511627776) (σ : List Ent) :
    ACalls E 40 [.str l] σ fun v τ => v = (match qS r with | some x => AV.tup [i64 (x.1 + 1 : Nat), .str x.2] | none => .tup [i64 0, .str []]) ∧ τ = σ := by
  refine xacalls T0 .drop [] Tryz.func40 rfl (by kernel_rfl) (by kernel_rfl) (by simp [Tryz.ntmps40]) ?_
  (simp only [(vm1), (vm2), (vm3), (vm4), aDet, ev, tget, tput, ofC, ofC1, pureR, condR, abin, aun, alen, gslot, Nat.reduceEqDiff, reduceIte, argTs, asliceS, asliceL, bnd, boolV, intV, retQ, aRes, aResV, oneAV, AV.low, AV.low.lows, Nat.reduceAdd, isStringD, isSliceD, isBoolD, setRange, AV.cells, AV.isCell, AV.isAgg, abytes, aconv, aeq, isConst, isByteD, isIfaceD, endQ, Int.reduceToNat, Int.reduceLE, Int.reduceLT, Int.reduceEq, Int.reduceNe, Int.reduceAdd, Int.reduceSub, Int.reduceNeg, Nat.reduceLT, Nat.reduceLeDiff, Ent.ver, Ent.imm, Ent.ty, lits, isEl, newCells, aappend, Nat.reduceBEq, fill, undef, (st1), (st2), (st3), (st4), (st5)]; try simp (disch := omega) only [wrapI64, Int.toNat_natCast, ← Int.natCast_add, nat_add_one, nat_add_two, take_drop_all, List.drop_zero, Nat.sub_zero, Nat.add_sub_cancel_left])
  refine xloop (α := Nat × List UInt8) T0 (fun x => [(0, .str l), (4, .ref σ.length 0 0), (5, i64 x.1)]) (fun _ => σ) (fun x => bl σ.length x.2)
    (fun x => 1 ≤ x.1 ∧ x.1 ≤ l.length ∧ x.2.length ≤ x.1 ∧ qS r = (qS (l.drop x.1)).map fun y => (y.1 + (x.1 - 1), x.2 ++ y.2)) (fun x => l.length - x.1) (by kernel_rfl)
    ⟨(1, []), ⟨by simp, by rw [hr]; simp, by simp, by rw [hr]; simp⟩, by (simp only [(vm1), (vm2), (vm3), (vm4), aDet, ev, tget, tput, ofC, ofC1, pureR, condR, abin, aun, alen, gslot, Nat.reduceEqDiff, reduceIte, argTs, asliceS, asliceL, bnd, boolV, intV, retQ, aRes, aResV, oneAV, AV.low, AV.low.lows, Nat.reduceAdd, isStringD, isSliceD, isBoolD, setRange, AV.cells, AV.isCell, AV.isAgg, abytes, aconv, aeq, isConst, isByteD, isIfaceD, endQ, Int.reduceToNat, Int.reduceLE, Int.reduceLT, Int.reduceEq, Int.reduceNe, Int.reduceAdd, Int.reduceSub, Int.reduceNeg, Nat.reduceLT, Nat.reduceLeDiff, Ent.ver, Ent.imm, Ent.ty, lits, isEl, newCells, aappend, Nat.reduceBEq, fill, undef, (st1), (st2), (st3), (st4), (st5)]; try simp (disch := omega) only [wrapI64, Int.toNat_natCast, ← Int.natCast_add, nat_add_one, nat_add_two, take_drop_all, List.drop_zero, Nat.sub_zero, Nat.add_sub_cancel_left]), rfl, rfl⟩ ?_
  generalize hR : qS r = R
  rintro ⟨i, acc⟩ ⟨h1, hi, ha, hc⟩
  simp only at h1 hi ha hc
  (simp only [(vm1), (vm2), (vm3), (vm4), aDet, ev, tget, tput, ofC, ofC1, pureR, condR, abin, aun, alen, gslot, Nat.reduceEqDiff, reduceIte, argTs, asliceS, asliceL, bnd, boolV, intV, retQ, aRes, aResV, oneAV, AV.low, AV.low.lows, Nat.reduceAdd, isStringD, isSliceD, isBoolD, setRange, AV.cells, AV.isCell, AV.isAgg, abytes, aconv, aeq, isConst, isByteD, isIfaceD, endQ, Int.reduceToNat, Int.reduceLE, Int.reduceLT, Int.reduceEq, Int.reduceNe, Int.reduceAdd, Int.reduceSub, Int.reduceNeg, Nat.reduceLT, Nat.reduceLeDiff, Ent.ver, Ent.imm, Ent.ty, lits, isEl, newCells, aappend, Nat.reduceBEq, fill, undef, (st1), (st2), (st3), (st4), (st5)]; try simp (disch := omega) only [wrapI64, Int.toNat_natCast, ← Int.natCast_add, nat_add_one, nat_add_two, take_drop_all, List.drop_zero, Nat.sub_zero, Nat.add_sub_cancel_left])
  by_cases h : (i : Int) < l.length
  · obtain ⟨e1, e2⟩ := one_at (l := l) (i := i) (by omega)
    rw [e1] at hc
    (simp only [h, (vm1), (vm2), (vm3), (vm4), aDet, ev, tget, tput, ofC, ofC1, pureR, condR, abin, aun, alen, gslot, Nat.reduceEqDiff, reduceIte, argTs, asliceS, asliceL, bnd, boolV, intV, retQ, aRes, aResV, oneAV, AV.low, AV.low.lows, Nat.reduceAdd, isStringD, isSliceD, isBoolD, setRange, AV.cells, AV.isCell, AV.isAgg, abytes, aconv, aeq, isConst, isByteD, isIfaceD, endQ, Int.reduceToNat, Int.reduceLE, Int.reduceLT, Int.reduceEq, Int.reduceNe, Int.reduceAdd, Int.reduceSub, Int.reduceNeg, Nat.reduceLT, Nat.reduceLeDiff, Ent.ver, Ent.imm, Ent.ty, lits, isEl, newCells, aappend, Nat.reduceBEq, fill, undef, (st1), (st2), (st3), (st4), (st5)]; try simp (disch := omega) only [wrapI64, Int.toNat_natCast, ← Int.natCast_add, nat_add_one, nat_add_two, take_drop_all, List.drop_zero, Nat.sub_zero, Nat.add_sub_cancel_left])
    generalize hcc : l.getD i 0 = c at *
    by_cases q1 : (c.toNat : Int) = 34
    · have : c = 34 := (u8_eq c 34 (by omega)).1 q1
      subst this
      (simp only [q1, (vm1), (vm2), (vm3), (vm4), aDet, ev, tget, tput, ofC, ofC1, pureR, condR, abin, aun, alen, gslot, Nat.reduceEqDiff, reduceIte, argTs, asliceS, asliceL, bnd, boolV, intV, retQ, aRes, aResV, oneAV, AV.low, AV.low.lows, Nat.reduceAdd, isStringD, isSliceD, isBoolD, setRange, AV.cells, AV.isCell, AV.isAgg, abytes, aconv, aeq, isConst, isByteD, isIfaceD, endQ, Int.reduceToNat, Int.reduceLE, Int.reduceLT, Int.reduceEq, Int.reduceNe, Int.reduceAdd, Int.reduceSub, Int.reduceNeg, Nat.reduceLT, Nat.reduceLeDiff, Ent.ver, Ent.imm, Ent.ty, lits, isEl, newCells, aappend, Nat.reduceBEq, fill, undef, (st1), (st2), (st3), (st4), (st5)]; try simp (disch := omega) only [wrapI64, Int.toNat_natCast, ← Int.natCast_add, nat_add_one, nat_add_two, take_drop_all, List.drop_zero, Nat.sub_zero, Nat.add_sub_cancel_left])
      refine xWait.of (String_ok σ acc (by omega)) ?_
      rintro _ _ ⟨rfl, l', rfl⟩
      (simp only [(vm1), (vm2), (vm3), (vm4), aDet, ev, tget, tput, ofC, ofC1, pureR, condR, abin, aun, alen, gslot, Nat.reduceEqDiff, reduceIte, argTs, asliceS, asliceL, bnd, boolV, intV, retQ, aRes, aResV, oneAV, AV.low, AV.low.lows, Nat.reduceAdd, isStringD, isSliceD, isBoolD, setRange, AV.cells, AV.isCell, AV.isAgg, abytes, aconv, aeq, isConst, isByteD, isIfaceD, endQ, Int.reduceToNat, Int.reduceLE, Int.reduceLT, Int.reduceEq, Int.reduceNe, Int.reduceAdd, Int.reduceSub, Int.reduceNeg, Nat.reduceLT, Nat.reduceLeDiff, Ent.ver, Ent.imm, Ent.ty, lits, isEl, newCells, aappend, Nat.reduceBEq, fill, undef, (st1), (st2), (st3), (st4), (st5)]; try simp (disch := omega) only [wrapI64, Int.toNat_natCast, ← Int.natCast_add, nat_add_one, nat_add_two, take_drop_all, List.drop_zero, Nat.sub_zero, Nat.add_sub_cancel_left])
      rw [qS_q] at hc
      rw [hc]
      simp only [Option.map_some, List.append_nil]
      rw [show 1 + (i - 1) + 1 = i + 1 by omega]
    · have n1 : c ≠ 34 := fun e => q1 ((u8_eq c 34 (by omega)).2 e)
      (simp only [q1, (vm1), (vm2), (vm3), (vm4), aDet, ev, tget, tput, ofC, ofC1, pureR, condR, abin, aun, alen, gslot, Nat.reduceEqDiff, reduceIte, argTs, asliceS, asliceL, bnd, boolV, intV, retQ, aRes, aResV, oneAV, AV.low, AV.low.lows, Nat.reduceAdd, isStringD, isSliceD, isBoolD, setRange, AV.cells, AV.isCell, AV.isAgg, abytes, aconv, aeq, isConst, isByteD, isIfaceD, endQ, Int.reduceToNat, Int.reduceLE, Int.reduceLT, Int.reduceEq, Int.reduceNe, Int.reduceAdd, Int.reduceSub, Int.reduceNeg, Nat.reduceLT, Nat.reduceLeDiff, Ent.ver, Ent.imm, Ent.ty, lits, isEl, newCells, aappend, Nat.reduceBEq, fill, undef, (st1), (st2), (st3), (st4), (st5)]; try simp (disch := omega) only [wrapI64, Int.toNat_natCast, ← Int.natCast_add, nat_add_one, nat_add_two, take_drop_all, List.drop_zero, Nat.sub_zero, Nat.add_sub_cancel_left])
      refine xWait.go (between_ok _ _ _ _) ?_
      cases q2 : btw 32 c.toNat 126
      · (simp only [(vm1), (vm2), (vm3), (vm4), aDet, ev, tget, tput, ofC, ofC1, pureR, condR, abin, aun, alen, gslot, Nat.reduceEqDiff, reduceIte, argTs, asliceS, asliceL, bnd, boolV, intV, retQ, aRes, aResV, oneAV, AV.low, AV.low.lows, Nat.reduceAdd, isStringD, isSliceD, isBoolD, setRange, AV.cells, AV.isCell, AV.isAgg, abytes, aconv, aeq, isConst, isByteD, isIfaceD, endQ, Int.reduceToNat, Int.reduceLE, Int.reduceLT, Int.reduceEq, Int.reduceNe, Int.reduceAdd, Int.reduceSub, Int.reduceNeg, Nat.reduceLT, Nat.reduceLeDiff, Ent.ver, Ent.imm, Ent.ty, lits, isEl, newCells, aappend, Nat.reduceBEq, fill, undef, (st1), (st2), (st3), (st4), (st5)]; try simp (disch := omega) only [wrapI64, Int.toNat_natCast, ← Int.natCast_add, nat_add_one, nat_add_two, take_drop_all, List.drop_zero, Nat.sub_zero, Nat.add_sub_cancel_left])
        rw [qS_bad c _ n1 q2] at hc
        rw [hc]; rfl
      · (simp only [(vm1), (vm2), (vm3), (vm4), aDet, ev, tget, tput, ofC, ofC1, pureR, condR, abin, aun, alen, gslot, Nat.reduceEqDiff, reduceIte, argTs, asliceS, asliceL, bnd, boolV, intV, retQ, aRes, aResV, oneAV, AV.low, AV.low.lows, Nat.reduceAdd, isStringD, isSliceD, isBoolD, setRange, AV.cells, AV.isCell, AV.isAgg, abytes, aconv, aeq, isConst, isByteD, isIfaceD, endQ, Int.reduceToNat, Int.reduceLE, Int.reduceLT, Int.reduceEq, Int.reduceNe, Int.reduceAdd, Int.reduceSub, Int.reduceNeg, Nat.reduceLT, Nat.reduceLeDiff, Ent.ver, Ent.imm, Ent.ty, lits, isEl, newCells, aappend, Nat.reduceBEq, fill, undef, (st1), (st2), (st3), (st4), (st5)]; try simp (disch := omega) only [wrapI64, Int.toNat_natCast, ← Int.natCast_add, nat_add_one, nat_add_two, take_drop_all, List.drop_zero, Nat.sub_zero, Nat.add_sub_cancel_left])
        by_cases q3 : (c.toNat : Int) = 92
        · have : c = 92 := (u8_eq c 92 (by omega)).1 q3
          subst this
          (simp only [q3, (vm1), (vm2), (vm3), (vm4), aDet, ev, tget, tput, ofC, ofC1, pureR, condR, abin, aun, alen, gslot, Nat.reduceEqDiff, reduceIte, argTs, asliceS, asliceL, bnd, boolV, intV, retQ, aRes, aResV, oneAV, AV.low, AV.low.lows, Nat.reduceAdd, isStringD, isSliceD, isBoolD, setRange, AV.cells, AV.isCell, AV.isAgg, abytes, aconv, aeq, isConst, isByteD, isIfaceD, endQ, Int.reduceToNat, Int.reduceLE, Int.reduceLT, Int.reduceEq, Int.reduceNe, Int.reduceAdd, Int.reduceSub, Int.reduceNeg, Nat.reduceLT, Nat.reduceLeDiff, Ent.ver, Ent.imm, Ent.ty, lits, isEl, newCells, aappend, Nat.reduceBEq, fill, undef, (st1), (st2), (st3), (st4), (st5)]; try simp (disch := omega) only [wrapI64, Int.toNat_natCast, ← Int.natCast_add, nat_add_one, nat_add_two, take_drop_all, List.drop_zero, Nat.sub_zero, Nat.add_sub_cancel_left])
          by_cases q4 : ((i + 1 : Nat) : Int) = l.length
          · (simp only [q4, (vm1), (vm2), (vm3), (vm4), aDet, ev, tget, tput, ofC, ofC1, pureR, condR, abin, aun, alen, gslot, Nat.reduceEqDiff, reduceIte, argTs, asliceS, asliceL, bnd, boolV, intV, retQ, aRes, aResV, oneAV, AV.low, AV.low.lows, Nat.reduceAdd, isStringD, isSliceD, isBoolD, setRange, AV.cells, AV.isCell, AV.isAgg, abytes, aconv, aeq, isConst, isByteD, isIfaceD, endQ, Int.reduceToNat, Int.reduceLE, Int.reduceLT, Int.reduceEq, Int.reduceNe, Int.reduceAdd, Int.reduceSub, Int.reduceNeg, Nat.reduceLT, Nat.reduceLeDiff, Ent.ver, Ent.imm, Ent.ty, lits, isEl, newCells, aappend, Nat.reduceBEq, fill, undef, (st1), (st2), (st3), (st4), (st5)]; try simp (disch := omega) only [wrapI64, Int.toNat_natCast, ← Int.natCast_add, nat_add_one, nat_add_two, take_drop_all, List.drop_zero, Nat.sub_zero, Nat.add_sub_cancel_left])
            rw [List.drop_of_length_le (by omega), qS_end] at hc
            rw [hc]; rfl
          · obtain ⟨e3, e4⟩ := one_at (l := l) (i := i + 1) (by omega)
            rw [e3, qS_esc] at hc
            (simp only [q4, (vm1), (vm2), (vm3), (vm4), aDet, ev, tget, tput, ofC, ofC1, pureR, condR, abin, aun, alen, gslot, Nat.reduceEqDiff, reduceIte, argTs, asliceS, asliceL, bnd, boolV, intV, retQ, aRes, aResV, oneAV, AV.low, AV.low.lows, Nat.reduceAdd, isStringD, isSliceD, isBoolD, setRange, AV.cells, AV.isCell, AV.isAgg, abytes, aconv, aeq, isConst, isByteD, isIfaceD, endQ, Int.reduceToNat, Int.reduceLE, Int.reduceLT, Int.reduceEq, Int.reduceNe, Int.reduceAdd, Int.reduceSub, Int.reduceNeg, Nat.reduceLT, Nat.reduceLeDiff, Ent.ver, Ent.imm, Ent.ty, lits, isEl, newCells, aappend, Nat.reduceBEq, fill, undef, (st1), (st2), (st3), (st4), (st5)]; try simp (disch := omega) only [wrapI64, Int.toNat_natCast, ← Int.natCast_add, nat_add_one, nat_add_two, take_drop_all, List.drop_zero, Nat.sub_zero, Nat.add_sub_cancel_left])
            refine ⟨by omega, ?_⟩
            rw [e4]
            generalize hdd : l.getD (i + 1) 0 = d at *
            refine xWait.go (Contains_ok _ _ _ (by simp)) ?_
            have fin : ∀ (b : UInt8), R = ((qS (l.drop (i + 2))).map fun y => (y.1 + 2, b :: y.2)).map (fun y => (y.1 + (i - 1), acc ++ y.2)) →
                R = (qS (l.drop (i + 2))).map fun y => (y.1 + (i + 2 - 1), (acc ++ [b]) ++ y.2) := fun b hh => by
              rw [hh]; cases qS (l.drop (i + 2)) <;> simp
              omega
            by_cases p1 : d = 110
            · subst p1
              have hb : Lib.contains [110, 34, 92] [110] = true := by rw [contains_esc]; decide
              rw [if_pos rfl] at hc
              rw [hb]
              (simp only [(vm1), (vm2), (vm3), (vm4), aDet, ev, tget, tput, ofC, ofC1, pureR, condR, abin, aun, alen, gslot, Nat.reduceEqDiff, reduceIte, argTs, asliceS, asliceL, bnd, boolV, intV, retQ, aRes, aResV, oneAV, AV.low, AV.low.lows, Nat.reduceAdd, isStringD, isSliceD, isBoolD, setRange, AV.cells, AV.isCell, AV.isAgg, abytes, aconv, aeq, isConst, isByteD, isIfaceD, endQ, Int.reduceToNat, Int.reduceLE, Int.reduceLT, Int.reduceEq, Int.reduceNe, Int.reduceAdd, Int.reduceSub, Int.reduceNeg, Nat.reduceLT, Nat.reduceLeDiff, Ent.ver, Ent.imm, Ent.ty, lits, isEl, newCells, aappend, Nat.reduceBEq, fill, undef, (st1), (st2), (st3), (st4), (st5)]; try simp (disch := omega) only [wrapI64, Int.toNat_natCast, ← Int.natCast_add, nat_add_one, nat_add_two, take_drop_all, List.drop_zero, Nat.sub_zero, Nat.add_sub_cancel_left])
              refine ⟨by omega, ?_⟩
              have e110 : (((110 : UInt8).toNat : Nat) : Int) = 110 := rfl
              (simp only [hdd, e110, (vm1), (vm2), (vm3), (vm4), aDet, ev, tget, tput, ofC, ofC1, pureR, condR, abin, aun, alen, gslot, Nat.reduceEqDiff, reduceIte, argTs, asliceS, asliceL, bnd, boolV, intV, retQ, aRes, aResV, oneAV, AV.low, AV.low.lows, Nat.reduceAdd, isStringD, isSliceD, isBoolD, setRange, AV.cells, AV.isCell, AV.isAgg, abytes, aconv, aeq, isConst, isByteD, isIfaceD, endQ, Int.reduceToNat, Int.reduceLE, Int.reduceLT, Int.reduceEq, Int.reduceNe, Int.reduceAdd, Int.reduceSub, Int.reduceNeg, Nat.reduceLT, Nat.reduceLeDiff, Ent.ver, Ent.imm, Ent.ty, lits, isEl, newCells, aappend, Nat.reduceBEq, fill, undef, (st1), (st2), (st3), (st4), (st5)]; try simp (disch := omega) only [wrapI64, Int.toNat_natCast, ← Int.natCast_add, nat_add_one, nat_add_two, take_drop_all, List.drop_zero, Nat.sub_zero, Nat.add_sub_cancel_left])
              refine xWait.go (WriteByte_ok σ acc 10 (by omega)) ?_
              (simp only [(vm1), (vm2), (vm3), (vm4), aDet, ev, tget, tput, ofC, ofC1, pureR, condR, abin, aun, alen, gslot, Nat.reduceEqDiff, reduceIte, argTs, asliceS, asliceL, bnd, boolV, intV, retQ, aRes, aResV, oneAV, AV.low, AV.low.lows, Nat.reduceAdd, isStringD, isSliceD, isBoolD, setRange, AV.cells, AV.isCell, AV.isAgg, abytes, aconv, aeq, isConst, isByteD, isIfaceD, endQ, Int.reduceToNat, Int.reduceLE, Int.reduceLT, Int.reduceEq, Int.reduceNe, Int.reduceAdd, Int.reduceSub, Int.reduceNeg, Nat.reduceLT, Nat.reduceLeDiff, Ent.ver, Ent.imm, Ent.ty, lits, isEl, newCells, aappend, Nat.reduceBEq, fill, undef, (st1), (st2), (st3), (st4), (st5)]; try simp (disch := omega) only [wrapI64, Int.toNat_natCast, ← Int.natCast_add, nat_add_one, nat_add_two, take_drop_all, List.drop_zero, Nat.sub_zero, Nat.add_sub_cancel_left])
              exact ⟨(i + 2, acc ++ [10]), ⟨by simp only; omega, by simp only; omega, by simp; omega, fin 10 hc⟩, by simp only; omega, rfl, rfl⟩
            · rw [if_neg p1] at hc
              have n5 : ¬ (d.toNat : Int) = 110 := fun e => p1 ((u8_eq d 110 (by omega)).1 e)
              by_cases p2 : d = 34 ∨ d = 92
              · have hb : Lib.contains [110, 34, 92] [d] = true := by
                  rw [contains_esc]; rcases p2 with rfl | rfl <;> decide
                rw [if_pos p2] at hc
                rw [hb]
                (simp only [(vm1), (vm2), (vm3), (vm4), aDet, ev, tget, tput, ofC, ofC1, pureR, condR, abin, aun, alen, gslot, Nat.reduceEqDiff, reduceIte, argTs, asliceS, asliceL, bnd, boolV, intV, retQ, aRes, aResV, oneAV, AV.low, AV.low.lows, Nat.reduceAdd, isStringD, isSliceD, isBoolD, setRange, AV.cells, AV.isCell, AV.isAgg, abytes, aconv, aeq, isConst, isByteD, isIfaceD, endQ, Int.reduceToNat, Int.reduceLE, Int.reduceLT, Int.reduceEq, Int.reduceNe, Int.reduceAdd, Int.reduceSub, Int.reduceNeg, Nat.reduceLT, Nat.reduceLeDiff, Ent.ver, Ent.imm, Ent.ty, lits, isEl, newCells, aappend, Nat.reduceBEq, fill, undef, (st1), (st2), (st3), (st4), (st5)]; try simp (disch := omega) only [wrapI64, Int.toNat_natCast, ← Int.natCast_add, nat_add_one, nat_add_two, take_drop_all, List.drop_zero, Nat.sub_zero, Nat.add_sub_cancel_left])
                refine ⟨by omega, ?_⟩
                (simp only [hdd, n5, (vm1), (vm2), (vm3), (vm4), aDet, ev, tget, tput, ofC, ofC1, pureR, condR, abin, aun, alen, gslot, Nat.reduceEqDiff, reduceIte, argTs, asliceS, asliceL, bnd, boolV, intV, retQ, aRes, aResV, oneAV, AV.low, AV.low.lows, Nat.reduceAdd, isStringD, isSliceD, isBoolD, setRange, AV.cells, AV.isCell, AV.isAgg, abytes, aconv, aeq, isConst, isByteD, isIfaceD, endQ, Int.reduceToNat, Int.reduceLE, Int.reduceLT, Int.reduceEq, Int.reduceNe, Int.reduceAdd, Int.reduceSub, Int.reduceNeg, Nat.reduceLT, Nat.reduceLeDiff, Ent.ver, Ent.imm, Ent.ty, lits, isEl, newCells, aappend, Nat.reduceBEq, fill, undef, (st1), (st2), (st3), (st4), (st5)]; try simp (disch := omega) only [wrapI64, Int.toNat_natCast, ← Int.natCast_add, nat_add_one, nat_add_two, take_drop_all, List.drop_zero, Nat.sub_zero, Nat.add_sub_cancel_left])
                refine xWait.go (WriteByte_ok σ acc d (by omega)) ?_
                (simp only [(vm1), (vm2), (vm3), (vm4), aDet, ev, tget, tput, ofC, ofC1, pureR, condR, abin, aun, alen, gslot, Nat.reduceEqDiff, reduceIte, argTs, asliceS, asliceL, bnd, boolV, intV, retQ, aRes, aResV, oneAV, AV.low, AV.low.lows, Nat.reduceAdd, isStringD, isSliceD, isBoolD, setRange, AV.cells, AV.isCell, AV.isAgg, abytes, aconv, aeq, isConst, isByteD, isIfaceD, endQ, Int.reduceToNat, Int.reduceLE, Int.reduceLT, Int.reduceEq, Int.reduceNe, Int.reduceAdd, Int.reduceSub, Int.reduceNeg, Nat.reduceLT, Nat.reduceLeDiff, Ent.ver, Ent.imm, Ent.ty, lits, isEl, newCells, aappend, Nat.reduceBEq, fill, undef, (st1), (st2), (st3), (st4), (st5)]; try simp (disch := omega) only [wrapI64, Int.toNat_natCast, ← Int.natCast_add, nat_add_one, nat_add_two, take_drop_all, List.drop_zero, Nat.sub_zero, Nat.add_sub_cancel_left])
                exact ⟨(i + 2, acc ++ [d]), ⟨by simp only; omega, by simp only; omega, by simp; omega, fin d hc⟩, by simp only; omega, rfl, rfl⟩
              · have hb : Lib.contains [110, 34, 92] [d] = false := by
                  rw [contains_esc]; simp only [not_or] at p2; simp only [p1, p2.1, p2.2, decide_false, Bool.or_self]
                rw [if_neg p2] at hc
                rw [hb]
                (simp only [(vm1), (vm2), (vm3), (vm4), aDet, ev, tget, tput, ofC, ofC1, pureR, condR, abin, aun, alen, gslot, Nat.reduceEqDiff, reduceIte, argTs, asliceS, asliceL, bnd, boolV, intV, retQ, aRes, aResV, oneAV, AV.low, AV.low.lows, Nat.reduceAdd, isStringD, isSliceD, isBoolD, setRange, AV.cells, AV.isCell, AV.isAgg, abytes, aconv, aeq, isConst, isByteD, isIfaceD, endQ, Int.reduceToNat, Int.reduceLE, Int.reduceLT, Int.reduceEq, Int.reduceNe, Int.reduceAdd, Int.reduceSub, Int.reduceNeg, Nat.reduceLT, Nat.reduceLeDiff, Ent.ver, Ent.imm, Ent.ty, lits, isEl, newCells, aappend, Nat.reduceBEq, fill, undef, (st1), (st2), (st3), (st4), (st5)]; try simp (disch := omega) only [wrapI64, Int.toNat_natCast, ← Int.natCast_add, nat_add_one, nat_add_two, take_drop_all, List.drop_zero, Nat.sub_zero, Nat.add_sub_cancel_left])
                rw [hc]; rfl
        · have n3 : c ≠ 92 := fun e => q3 ((u8_eq c 92 (by omega)).2 e)
          (simp only [q3, (vm1), (vm2), (vm3), (vm4), aDet, ev, tget, tput, ofC, ofC1, pureR, condR, abin, aun, alen, gslot, Nat.reduceEqDiff, reduceIte, argTs, asliceS, asliceL, bnd, boolV, intV, retQ, aRes, aResV, oneAV, AV.low, AV.low.lows, Nat.reduceAdd, isStringD, isSliceD, isBoolD, setRange, AV.cells, AV.isCell, AV.isAgg, abytes, aconv, aeq, isConst, isByteD, isIfaceD, endQ, Int.reduceToNat, Int.reduceLE, Int.reduceLT, Int.reduceEq, Int.reduceNe, Int.reduceAdd, Int.reduceSub, Int.reduceNeg, Nat.reduceLT, Nat.reduceLeDiff, Ent.ver, Ent.imm, Ent.ty, lits, isEl, newCells, aappend, Nat.reduceBEq, fill, undef, (st1), (st2), (st3), (st4), (st5)]; try simp (disch := omega) only [wrapI64, Int.toNat_natCast, ← Int.natCast_add, nat_add_one, nat_add_two, take_drop_all, List.drop_zero, Nat.sub_zero, Nat.add_sub_cancel_left])
          refine xWait.go (WriteByte_ok σ acc c (by omega)) ?_
          (simp only [(vm1), (vm2), (vm3), (vm4), aDet, ev, tget, tput, ofC, ofC1, pureR, condR, abin, aun, alen, gslot, Nat.reduceEqDiff, reduceIte, argTs, asliceS, asliceL, bnd, boolV, intV, retQ, aRes, aResV, oneAV, AV.low, AV.low.lows, Nat.reduceAdd, isStringD, isSliceD, isBoolD, setRange, AV.cells, AV.isCell, AV.isAgg, abytes, aconv, aeq, isConst, isByteD, isIfaceD, endQ, Int.reduceToNat, Int.reduceLE, Int.reduceLT, Int.reduceEq, Int.reduceNe, Int.reduceAdd, Int.reduceSub, Int.reduceNeg, Nat.reduceLT, Nat.reduceLeDiff, Ent.ver, Ent.imm, Ent.ty, lits, isEl, newCells, aappend, Nat.reduceBEq, fill, undef, (st1), (st2), (st3), (st4), (st5)]; try simp (disch := omega) only [wrapI64, Int.toNat_natCast, ← Int.natCast_add, nat_add_one, nat_add_two, take_drop_all, List.drop_zero, Nat.sub_zero, Nat.add_sub_cancel_left])
          refine ⟨(i + 1, acc ++ [c]), ⟨by simp only; omega, by simp only; omega, by simp; omega, ?_⟩, by simp only; omega, rfl, rfl⟩
          rw [qS_plain c _ n1 n3 q2] at hc
          rw [hc]
          cases qS (l.drop (i + 1)) <;> simp only [Option.map_none, Option.map_some, List.append_assoc, List.cons_append, List.nil_append]
          rw [show ∀ k, k + 1 + (i - 1) = k + (i + 1 - 1) from fun k => by omega]
  · (simp only [h, (vm1), (vm2), (vm3), (vm4), aDet, ev, tget, tput, ofC, ofC1, pureR, condR, abin, aun, alen, gslot, Nat.reduceEqDiff, reduceIte, argTs, asliceS, asliceL, bnd, boolV, intV, retQ, aRes, aResV, oneAV, AV.low, AV.low.lows, Nat.reduceAdd, isStringD, isSliceD, isBoolD, setRange, AV.cells, AV.isCell, AV.isAgg, abytes, aconv, aeq, isConst, isByteD, isIfaceD, endQ, Int.reduceToNat, Int.reduceLE, Int.reduceLT, Int.reduceEq, Int.reduceNe, Int.reduceAdd, Int.reduceSub, Int.reduceNeg, Nat.reduceLT, Nat.reduceLeDiff, Ent.ver, Ent.imm, Ent.ty, lits, isEl, newCells, aappend, Nat.reduceBEq, fill, undef, (st1), (st2), (st3), (st4), (st5)]; try simp (disch := omega) only [wrapI64, Int.toNat_natCast, ← Int.natCast_add, nat_add_one, nat_add_two, take_drop_all, List.drop_zero, Nat.sub_zero, Nat.add_sub_cancel_left])
    rw [List.drop_of_length_le (by omega), qS] at hc
    rw [hc]; rfl
end Go.D
