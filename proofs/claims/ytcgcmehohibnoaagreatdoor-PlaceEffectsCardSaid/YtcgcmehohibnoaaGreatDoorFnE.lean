/- The law of effects, given that its example holds. -/
import Derived.Test.YtcgcmehohibnoaaGreatDoorFnD
import Derived.Test.YtcgcmehohibnoaaGreatDoorFnC
import Derived.Lib.SplitLaws
set_option linter.unusedVariables false
set_option linter.unusedSimpArgs false
set_option maxRecDepth 100000
namespace Go.D
open Go Go.Vm Go.Proofs Go.RowKit

/-- The example holds. -/
def AwakeOK : Prop := ∀ σ : List Ent, ACalls E 15 [] σ fun r τ => r = boolV true ∧ τ = σ

theorem effB_iff (l : List Int) : effB l = true ↔ (∀ x ∈ l, atomP x = true) ∧ l.Pairwise (· < ·) := ascP_iff atomP l
theorem uniteI_eff {a b : List Int} (ha : effB a = true) (hb : effB b = true) : effB (uniteI a b) = true := by
  rw [effB_iff] at *
  refine ⟨fun x hx => ?_, uniteI_asc a b⟩
  rcases (uniteI_mem a b x).1 hx with h | h
  · exact ha.1 x h
  · exact hb.1 x h
theorem uniteI_comm (a b : List Int) : uniteI b a = uniteI a b :=
  asc_ext (uniteI_asc b a) (uniteI_asc a b) fun x => by rw [uniteI_mem, uniteI_mem]; exact Or.comm
theorem uniteI_again (a b : List Int) : uniteI (uniteI a b) a = uniteI a b :=
  asc_ext (uniteI_asc _ a) (uniteI_asc a b) fun x => by
    rw [uniteI_mem, uniteI_mem]
    constructor
    · rintro (h | h)
      · exact h
      · exact .inl h
    · exact .inl
theorem minusI_all (a b : List Int) : minusI a (uniteI a b) = [] := by
  unfold minusI
  rw [List.filter_eq_nil_iff]
  intro x hx
  simp [uniteI_mem, hx]
theorem minusI_len (a b : List Int) : (minusI a b).length ≤ a.length := List.length_filter_le _ _

set_option maxHeartbeats 4000000 in
theorem law_effects (haw : AwakeOK) (a b : List Int) (ha : a.length ≤ 9223372036854775807) (hb : b.length ≤ 9223372036854775807) (σ : List Ent) :
    HasBody E 3 ∧ ∀ (s : S) (vs : List Value), s.σ = σ → HInv s → E.Γ s.B s.w → RepL s [.sl (ivs a), .sl (ivs b)] vs →
      Calls E.P 3 vs.toArray s.w fun e w' => ∃ v r s', e = .returned v ∧ s'.w = w' ∧ HInv s' ∧ Ext s s' ∧ Rep s' r v ∧ (r = boolV true ∧ s'.σ = σ) := by
  refine xbody T0 .drop [] Tryz.func3 rfl (by kernel_rfl) (by kernel_rfl) (by simp [Tryz.ntmps3]) (R := fun r τ => r = boolV true ∧ τ = σ) ?_
  (simp only [(vm1), (vm2), (vm3), (vm4), aDet, ev, tget, tput, ofC, ofC1, pureR, condR, abin, aun, alen, gslot, Nat.reduceEqDiff, reduceIte, argTs, asliceS, asliceL, bnd, boolV, intV, retQ, aRes, aResV, oneAV, AV.low, AV.low.lows, Nat.reduceAdd, isStringD, isSliceD, isBoolD, setRange, AV.cells, AV.isCell, AV.isAgg, abytes, aconv, aeq, isConst, isByteD, isIfaceD, endQ, Int.reduceToNat, Int.reduceLE, Int.reduceLT, Int.reduceEq, Int.reduceNe, Int.reduceAdd, Int.reduceSub, Int.reduceNeg, Nat.reduceLT, Nat.reduceLeDiff, Ent.ver, Ent.imm, Ent.ty, lits, isEl, newCells, aappend, Nat.reduceBEq, fill, undef, (st1), (st2), (st3), (st4), (st5), (st6), (st7), (st8)]; try simp (disch := omega) only [wrapI64, Int.toNat_natCast, ← Int.natCast_add, nat_add_one, nat_add_two, take_drop_all, List.drop_zero, Nat.sub_zero, Nat.add_sub_cancel_left])
  refine xWait.go (plUnion_ok a b ha hb _) ?_
  cases he : (effB a && effB b)
  · (simp only [resI, (vm1), (vm2), (vm3), (vm4), aDet, ev, tget, tput, ofC, ofC1, pureR, condR, abin, aun, alen, gslot, Nat.reduceEqDiff, reduceIte, argTs, asliceS, asliceL, bnd, boolV, intV, retQ, aRes, aResV, oneAV, AV.low, AV.low.lows, Nat.reduceAdd, isStringD, isSliceD, isBoolD, setRange, AV.cells, AV.isCell, AV.isAgg, abytes, aconv, aeq, isConst, isByteD, isIfaceD, endQ, Int.reduceToNat, Int.reduceLE, Int.reduceLT, Int.reduceEq, Int.reduceNe, Int.reduceAdd, Int.reduceSub, Int.reduceNeg, Nat.reduceLT, Nat.reduceLeDiff, Ent.ver, Ent.imm, Ent.ty, lits, isEl, newCells, aappend, Nat.reduceBEq, fill, undef, (st1), (st2), (st3), (st4), (st5), (st6), (st7), (st8)]; try simp (disch := omega) only [wrapI64, Int.toNat_natCast, ← Int.natCast_add, nat_add_one, nat_add_two, take_drop_all, List.drop_zero, Nat.sub_zero, Nat.add_sub_cancel_left])
    refine xWait.go (rUnion_ok a b ha hb _) ?_
    (simp only [he, resI, (vm1), (vm2), (vm3), (vm4), aDet, ev, tget, tput, ofC, ofC1, pureR, condR, abin, aun, alen, gslot, Nat.reduceEqDiff, reduceIte, argTs, asliceS, asliceL, bnd, boolV, intV, retQ, aRes, aResV, oneAV, AV.low, AV.low.lows, Nat.reduceAdd, isStringD, isSliceD, isBoolD, setRange, AV.cells, AV.isCell, AV.isAgg, abytes, aconv, aeq, isConst, isByteD, isIfaceD, endQ, Int.reduceToNat, Int.reduceLE, Int.reduceLT, Int.reduceEq, Int.reduceNe, Int.reduceAdd, Int.reduceSub, Int.reduceNeg, Nat.reduceLT, Nat.reduceLeDiff, Ent.ver, Ent.imm, Ent.ty, lits, isEl, newCells, aappend, Nat.reduceBEq, fill, undef, (st1), (st2), (st3), (st4), (st5), (st6), (st7), (st8)]; try simp (disch := omega) only [wrapI64, Int.toNat_natCast, ← Int.natCast_add, nat_add_one, nat_add_two, take_drop_all, List.drop_zero, Nat.sub_zero, Nat.add_sub_cancel_left])
    refine xWait.go (plWithout_ok a b ha hb _) ?_
    (simp only [he, resI, (vm1), (vm2), (vm3), (vm4), aDet, ev, tget, tput, ofC, ofC1, pureR, condR, abin, aun, alen, gslot, Nat.reduceEqDiff, reduceIte, argTs, asliceS, asliceL, bnd, boolV, intV, retQ, aRes, aResV, oneAV, AV.low, AV.low.lows, Nat.reduceAdd, isStringD, isSliceD, isBoolD, setRange, AV.cells, AV.isCell, AV.isAgg, abytes, aconv, aeq, isConst, isByteD, isIfaceD, endQ, Int.reduceToNat, Int.reduceLE, Int.reduceLT, Int.reduceEq, Int.reduceNe, Int.reduceAdd, Int.reduceSub, Int.reduceNeg, Nat.reduceLT, Nat.reduceLeDiff, Ent.ver, Ent.imm, Ent.ty, lits, isEl, newCells, aappend, Nat.reduceBEq, fill, undef, (st1), (st2), (st3), (st4), (st5), (st6), (st7), (st8)]; try simp (disch := omega) only [wrapI64, Int.toNat_natCast, ← Int.natCast_add, nat_add_one, nat_add_two, take_drop_all, List.drop_zero, Nat.sub_zero, Nat.add_sub_cancel_left])
    refine xWait.go (rWithout_ok a b ha hb _) ?_
    (simp only [he, resI, (vm1), (vm2), (vm3), (vm4), aDet, ev, tget, tput, ofC, ofC1, pureR, condR, abin, aun, alen, gslot, Nat.reduceEqDiff, reduceIte, argTs, asliceS, asliceL, bnd, boolV, intV, retQ, aRes, aResV, oneAV, AV.low, AV.low.lows, Nat.reduceAdd, isStringD, isSliceD, isBoolD, setRange, AV.cells, AV.isCell, AV.isAgg, abytes, aconv, aeq, isConst, isByteD, isIfaceD, endQ, Int.reduceToNat, Int.reduceLE, Int.reduceLT, Int.reduceEq, Int.reduceNe, Int.reduceAdd, Int.reduceSub, Int.reduceNeg, Nat.reduceLT, Nat.reduceLeDiff, Ent.ver, Ent.imm, Ent.ty, lits, isEl, newCells, aappend, Nat.reduceBEq, fill, undef, (st1), (st2), (st3), (st4), (st5), (st6), (st7), (st8)]; try simp (disch := omega) only [wrapI64, Int.toNat_natCast, ← Int.natCast_add, nat_add_one, nat_add_two, take_drop_all, List.drop_zero, Nat.sub_zero, Nat.add_sub_cancel_left])
    refine xWait.go (plIsEffect_ok a ha _) ?_
    (simp only [(vm1), (vm2), (vm3), (vm4), aDet, ev, tget, tput, ofC, ofC1, pureR, condR, abin, aun, alen, gslot, Nat.reduceEqDiff, reduceIte, argTs, asliceS, asliceL, bnd, boolV, intV, retQ, aRes, aResV, oneAV, AV.low, AV.low.lows, Nat.reduceAdd, isStringD, isSliceD, isBoolD, setRange, AV.cells, AV.isCell, AV.isAgg, abytes, aconv, aeq, isConst, isByteD, isIfaceD, endQ, Int.reduceToNat, Int.reduceLE, Int.reduceLT, Int.reduceEq, Int.reduceNe, Int.reduceAdd, Int.reduceSub, Int.reduceNeg, Nat.reduceLT, Nat.reduceLeDiff, Ent.ver, Ent.imm, Ent.ty, lits, isEl, newCells, aappend, Nat.reduceBEq, fill, undef, (st1), (st2), (st3), (st4), (st5), (st6), (st7), (st8)]; try simp (disch := omega) only [wrapI64, Int.toNat_natCast, ← Int.natCast_add, nat_add_one, nat_add_two, take_drop_all, List.drop_zero, Nat.sub_zero, Nat.add_sub_cancel_left])
    refine xWait.go (rIsEffect_ok a ha _) ?_
    (simp only [(vm1), (vm2), (vm3), (vm4), aDet, ev, tget, tput, ofC, ofC1, pureR, condR, abin, aun, alen, gslot, Nat.reduceEqDiff, reduceIte, argTs, asliceS, asliceL, bnd, boolV, intV, retQ, aRes, aResV, oneAV, AV.low, AV.low.lows, Nat.reduceAdd, isStringD, isSliceD, isBoolD, setRange, AV.cells, AV.isCell, AV.isAgg, abytes, aconv, aeq, isConst, isByteD, isIfaceD, endQ, Int.reduceToNat, Int.reduceLE, Int.reduceLT, Int.reduceEq, Int.reduceNe, Int.reduceAdd, Int.reduceSub, Int.reduceNeg, Nat.reduceLT, Nat.reduceLeDiff, Ent.ver, Ent.imm, Ent.ty, lits, isEl, newCells, aappend, Nat.reduceBEq, fill, undef, (st1), (st2), (st3), (st4), (st5), (st6), (st7), (st8)]; try simp (disch := omega) only [wrapI64, Int.toNat_natCast, ← Int.natCast_add, nat_add_one, nat_add_two, take_drop_all, List.drop_zero, Nat.sub_zero, Nat.add_sub_cancel_left])
    refine xWait.go (rSameInts_ok [] [] (by simp) (by simp) _) ?_
    (simp only [(vm1), (vm2), (vm3), (vm4), aDet, ev, tget, tput, ofC, ofC1, pureR, condR, abin, aun, alen, gslot, Nat.reduceEqDiff, reduceIte, argTs, asliceS, asliceL, bnd, boolV, intV, retQ, aRes, aResV, oneAV, AV.low, AV.low.lows, Nat.reduceAdd, isStringD, isSliceD, isBoolD, setRange, AV.cells, AV.isCell, AV.isAgg, abytes, aconv, aeq, isConst, isByteD, isIfaceD, endQ, Int.reduceToNat, Int.reduceLE, Int.reduceLT, Int.reduceEq, Int.reduceNe, Int.reduceAdd, Int.reduceSub, Int.reduceNeg, Nat.reduceLT, Nat.reduceLeDiff, Ent.ver, Ent.imm, Ent.ty, lits, isEl, newCells, aappend, Nat.reduceBEq, fill, undef, (st1), (st2), (st3), (st4), (st5), (st6), (st7), (st8)]; try simp (disch := omega) only [wrapI64, Int.toNat_natCast, ← Int.natCast_add, nat_add_one, nat_add_two, take_drop_all, List.drop_zero, Nat.sub_zero, Nat.add_sub_cancel_left])
    refine xWait.go (rSameInts_ok [] [] (by simp) (by simp) _) ?_
    (simp only [(vm1), (vm2), (vm3), (vm4), aDet, ev, tget, tput, ofC, ofC1, pureR, condR, abin, aun, alen, gslot, Nat.reduceEqDiff, reduceIte, argTs, asliceS, asliceL, bnd, boolV, intV, retQ, aRes, aResV, oneAV, AV.low, AV.low.lows, Nat.reduceAdd, isStringD, isSliceD, isBoolD, setRange, AV.cells, AV.isCell, AV.isAgg, abytes, aconv, aeq, isConst, isByteD, isIfaceD, endQ, Int.reduceToNat, Int.reduceLE, Int.reduceLT, Int.reduceEq, Int.reduceNe, Int.reduceAdd, Int.reduceSub, Int.reduceNeg, Nat.reduceLT, Nat.reduceLeDiff, Ent.ver, Ent.imm, Ent.ty, lits, isEl, newCells, aappend, Nat.reduceBEq, fill, undef, (st1), (st2), (st3), (st4), (st5), (st6), (st7), (st8)]; try simp (disch := omega) only [wrapI64, Int.toNat_natCast, ← Int.natCast_add, nat_add_one, nat_add_two, take_drop_all, List.drop_zero, Nat.sub_zero, Nat.add_sub_cancel_left])
    refine xWait.go (haw _) ?_
    (simp only [(vm1), (vm2), (vm3), (vm4), aDet, ev, tget, tput, ofC, ofC1, pureR, condR, abin, aun, alen, gslot, Nat.reduceEqDiff, reduceIte, argTs, asliceS, asliceL, bnd, boolV, intV, retQ, aRes, aResV, oneAV, AV.low, AV.low.lows, Nat.reduceAdd, isStringD, isSliceD, isBoolD, setRange, AV.cells, AV.isCell, AV.isAgg, abytes, aconv, aeq, isConst, isByteD, isIfaceD, endQ, Int.reduceToNat, Int.reduceLE, Int.reduceLT, Int.reduceEq, Int.reduceNe, Int.reduceAdd, Int.reduceSub, Int.reduceNeg, Nat.reduceLT, Nat.reduceLeDiff, Ent.ver, Ent.imm, Ent.ty, lits, isEl, newCells, aappend, Nat.reduceBEq, fill, undef, (st1), (st2), (st3), (st4), (st5), (st6), (st7), (st8)]; try simp (disch := omega) only [wrapI64, Int.toNat_natCast, ← Int.natCast_add, nat_add_one, nat_add_two, take_drop_all, List.drop_zero, Nat.sub_zero, Nat.add_sub_cancel_left])
  · have he' := he
    simp only [Bool.and_eq_true] at he'
    obtain ⟨h1, h2⟩ := he'
    have l1 := eff_len h1
    have l2 := eff_len h2
    have hu := uniteI_eff h1 h2
    have l3 := eff_len hu
    have huj := unite_join a b ((effB_iff a).1 h1).2
    have l4 := minusI_len a b
    (simp only [resI, (vm1), (vm2), (vm3), (vm4), aDet, ev, tget, tput, ofC, ofC1, pureR, condR, abin, aun, alen, gslot, Nat.reduceEqDiff, reduceIte, argTs, asliceS, asliceL, bnd, boolV, intV, retQ, aRes, aResV, oneAV, AV.low, AV.low.lows, Nat.reduceAdd, isStringD, isSliceD, isBoolD, setRange, AV.cells, AV.isCell, AV.isAgg, abytes, aconv, aeq, isConst, isByteD, isIfaceD, endQ, Int.reduceToNat, Int.reduceLE, Int.reduceLT, Int.reduceEq, Int.reduceNe, Int.reduceAdd, Int.reduceSub, Int.reduceNeg, Nat.reduceLT, Nat.reduceLeDiff, Ent.ver, Ent.imm, Ent.ty, lits, isEl, newCells, aappend, Nat.reduceBEq, fill, undef, (st1), (st2), (st3), (st4), (st5), (st6), (st7), (st8)]; try simp (disch := omega) only [wrapI64, Int.toNat_natCast, ← Int.natCast_add, nat_add_one, nat_add_two, take_drop_all, List.drop_zero, Nat.sub_zero, Nat.add_sub_cancel_left])
    refine xWait.go (rUnion_ok a b ha hb _) ?_
    (simp only [he, resI, ← huj, (vm1), (vm2), (vm3), (vm4), aDet, ev, tget, tput, ofC, ofC1, pureR, condR, abin, aun, alen, gslot, Nat.reduceEqDiff, reduceIte, argTs, asliceS, asliceL, bnd, boolV, intV, retQ, aRes, aResV, oneAV, AV.low, AV.low.lows, Nat.reduceAdd, isStringD, isSliceD, isBoolD, setRange, AV.cells, AV.isCell, AV.isAgg, abytes, aconv, aeq, isConst, isByteD, isIfaceD, endQ, Int.reduceToNat, Int.reduceLE, Int.reduceLT, Int.reduceEq, Int.reduceNe, Int.reduceAdd, Int.reduceSub, Int.reduceNeg, Nat.reduceLT, Nat.reduceLeDiff, Ent.ver, Ent.imm, Ent.ty, lits, isEl, newCells, aappend, Nat.reduceBEq, fill, undef, (st1), (st2), (st3), (st4), (st5), (st6), (st7), (st8)]; try simp (disch := omega) only [wrapI64, Int.toNat_natCast, ← Int.natCast_add, nat_add_one, nat_add_two, take_drop_all, List.drop_zero, Nat.sub_zero, Nat.add_sub_cancel_left])
    refine xWait.go (plWithout_ok a b ha hb _) ?_
    (simp only [he, resI, (vm1), (vm2), (vm3), (vm4), aDet, ev, tget, tput, ofC, ofC1, pureR, condR, abin, aun, alen, gslot, Nat.reduceEqDiff, reduceIte, argTs, asliceS, asliceL, bnd, boolV, intV, retQ, aRes, aResV, oneAV, AV.low, AV.low.lows, Nat.reduceAdd, isStringD, isSliceD, isBoolD, setRange, AV.cells, AV.isCell, AV.isAgg, abytes, aconv, aeq, isConst, isByteD, isIfaceD, endQ, Int.reduceToNat, Int.reduceLE, Int.reduceLT, Int.reduceEq, Int.reduceNe, Int.reduceAdd, Int.reduceSub, Int.reduceNeg, Nat.reduceLT, Nat.reduceLeDiff, Ent.ver, Ent.imm, Ent.ty, lits, isEl, newCells, aappend, Nat.reduceBEq, fill, undef, (st1), (st2), (st3), (st4), (st5), (st6), (st7), (st8)]; try simp (disch := omega) only [wrapI64, Int.toNat_natCast, ← Int.natCast_add, nat_add_one, nat_add_two, take_drop_all, List.drop_zero, Nat.sub_zero, Nat.add_sub_cancel_left])
    refine xWait.go (rWithout_ok a b ha hb _) ?_
    (simp only [he, resI, (vm1), (vm2), (vm3), (vm4), aDet, ev, tget, tput, ofC, ofC1, pureR, condR, abin, aun, alen, gslot, Nat.reduceEqDiff, reduceIte, argTs, asliceS, asliceL, bnd, boolV, intV, retQ, aRes, aResV, oneAV, AV.low, AV.low.lows, Nat.reduceAdd, isStringD, isSliceD, isBoolD, setRange, AV.cells, AV.isCell, AV.isAgg, abytes, aconv, aeq, isConst, isByteD, isIfaceD, endQ, Int.reduceToNat, Int.reduceLE, Int.reduceLT, Int.reduceEq, Int.reduceNe, Int.reduceAdd, Int.reduceSub, Int.reduceNeg, Nat.reduceLT, Nat.reduceLeDiff, Ent.ver, Ent.imm, Ent.ty, lits, isEl, newCells, aappend, Nat.reduceBEq, fill, undef, (st1), (st2), (st3), (st4), (st5), (st6), (st7), (st8)]; try simp (disch := omega) only [wrapI64, Int.toNat_natCast, ← Int.natCast_add, nat_add_one, nat_add_two, take_drop_all, List.drop_zero, Nat.sub_zero, Nat.add_sub_cancel_left])
    refine xWait.go (plIsEffect_ok a ha _) ?_
    (simp only [h1, (vm1), (vm2), (vm3), (vm4), aDet, ev, tget, tput, ofC, ofC1, pureR, condR, abin, aun, alen, gslot, Nat.reduceEqDiff, reduceIte, argTs, asliceS, asliceL, bnd, boolV, intV, retQ, aRes, aResV, oneAV, AV.low, AV.low.lows, Nat.reduceAdd, isStringD, isSliceD, isBoolD, setRange, AV.cells, AV.isCell, AV.isAgg, abytes, aconv, aeq, isConst, isByteD, isIfaceD, endQ, Int.reduceToNat, Int.reduceLE, Int.reduceLT, Int.reduceEq, Int.reduceNe, Int.reduceAdd, Int.reduceSub, Int.reduceNeg, Nat.reduceLT, Nat.reduceLeDiff, Ent.ver, Ent.imm, Ent.ty, lits, isEl, newCells, aappend, Nat.reduceBEq, fill, undef, (st1), (st2), (st3), (st4), (st5), (st6), (st7), (st8)]; try simp (disch := omega) only [wrapI64, Int.toNat_natCast, ← Int.natCast_add, nat_add_one, nat_add_two, take_drop_all, List.drop_zero, Nat.sub_zero, Nat.add_sub_cancel_left])
    refine xWait.go (rIsEffect_ok a ha _) ?_
    (simp only [h1, (vm1), (vm2), (vm3), (vm4), aDet, ev, tget, tput, ofC, ofC1, pureR, condR, abin, aun, alen, gslot, Nat.reduceEqDiff, reduceIte, argTs, asliceS, asliceL, bnd, boolV, intV, retQ, aRes, aResV, oneAV, AV.low, AV.low.lows, Nat.reduceAdd, isStringD, isSliceD, isBoolD, setRange, AV.cells, AV.isCell, AV.isAgg, abytes, aconv, aeq, isConst, isByteD, isIfaceD, endQ, Int.reduceToNat, Int.reduceLE, Int.reduceLT, Int.reduceEq, Int.reduceNe, Int.reduceAdd, Int.reduceSub, Int.reduceNeg, Nat.reduceLT, Nat.reduceLeDiff, Ent.ver, Ent.imm, Ent.ty, lits, isEl, newCells, aappend, Nat.reduceBEq, fill, undef, (st1), (st2), (st3), (st4), (st5), (st6), (st7), (st8)]; try simp (disch := omega) only [wrapI64, Int.toNat_natCast, ← Int.natCast_add, nat_add_one, nat_add_two, take_drop_all, List.drop_zero, Nat.sub_zero, Nat.add_sub_cancel_left])
    refine xWait.go (rSameInts_ok (uniteI a b) (uniteI a b) (by omega) (by omega) _) ?_
    (simp only [(vm1), (vm2), (vm3), (vm4), aDet, ev, tget, tput, ofC, ofC1, pureR, condR, abin, aun, alen, gslot, Nat.reduceEqDiff, reduceIte, argTs, asliceS, asliceL, bnd, boolV, intV, retQ, aRes, aResV, oneAV, AV.low, AV.low.lows, Nat.reduceAdd, isStringD, isSliceD, isBoolD, setRange, AV.cells, AV.isCell, AV.isAgg, abytes, aconv, aeq, isConst, isByteD, isIfaceD, endQ, Int.reduceToNat, Int.reduceLE, Int.reduceLT, Int.reduceEq, Int.reduceNe, Int.reduceAdd, Int.reduceSub, Int.reduceNeg, Nat.reduceLT, Nat.reduceLeDiff, Ent.ver, Ent.imm, Ent.ty, lits, isEl, newCells, aappend, Nat.reduceBEq, fill, undef, (st1), (st2), (st3), (st4), (st5), (st6), (st7), (st8)]; try simp (disch := omega) only [wrapI64, Int.toNat_natCast, ← Int.natCast_add, nat_add_one, nat_add_two, take_drop_all, List.drop_zero, Nat.sub_zero, Nat.add_sub_cancel_left])
    refine xWait.go (rSameInts_ok (minusI a b) (minusI a b) (by omega) (by omega) _) ?_
    (simp only [(vm1), (vm2), (vm3), (vm4), aDet, ev, tget, tput, ofC, ofC1, pureR, condR, abin, aun, alen, gslot, Nat.reduceEqDiff, reduceIte, argTs, asliceS, asliceL, bnd, boolV, intV, retQ, aRes, aResV, oneAV, AV.low, AV.low.lows, Nat.reduceAdd, isStringD, isSliceD, isBoolD, setRange, AV.cells, AV.isCell, AV.isAgg, abytes, aconv, aeq, isConst, isByteD, isIfaceD, endQ, Int.reduceToNat, Int.reduceLE, Int.reduceLT, Int.reduceEq, Int.reduceNe, Int.reduceAdd, Int.reduceSub, Int.reduceNeg, Nat.reduceLT, Nat.reduceLeDiff, Ent.ver, Ent.imm, Ent.ty, lits, isEl, newCells, aappend, Nat.reduceBEq, fill, undef, (st1), (st2), (st3), (st4), (st5), (st6), (st7), (st8)]; try simp (disch := omega) only [wrapI64, Int.toNat_natCast, ← Int.natCast_add, nat_add_one, nat_add_two, take_drop_all, List.drop_zero, Nat.sub_zero, Nat.add_sub_cancel_left])
    refine xWait.go (plUnion_ok b a hb ha _) ?_
    (simp only [h1, h2, resI, uniteI_comm, (vm1), (vm2), (vm3), (vm4), aDet, ev, tget, tput, ofC, ofC1, pureR, condR, abin, aun, alen, gslot, Nat.reduceEqDiff, reduceIte, argTs, asliceS, asliceL, bnd, boolV, intV, retQ, aRes, aResV, oneAV, AV.low, AV.low.lows, Nat.reduceAdd, isStringD, isSliceD, isBoolD, setRange, AV.cells, AV.isCell, AV.isAgg, abytes, aconv, aeq, isConst, isByteD, isIfaceD, endQ, Int.reduceToNat, Int.reduceLE, Int.reduceLT, Int.reduceEq, Int.reduceNe, Int.reduceAdd, Int.reduceSub, Int.reduceNeg, Nat.reduceLT, Nat.reduceLeDiff, Ent.ver, Ent.imm, Ent.ty, lits, isEl, newCells, aappend, Nat.reduceBEq, fill, undef, (st1), (st2), (st3), (st4), (st5), (st6), (st7), (st8)]; try simp (disch := omega) only [wrapI64, Int.toNat_natCast, ← Int.natCast_add, nat_add_one, nat_add_two, take_drop_all, List.drop_zero, Nat.sub_zero, Nat.add_sub_cancel_left])
    refine xWait.go (plUnion_ok (uniteI a b) a (by omega) ha _) ?_
    (simp only [h1, hu, resI, uniteI_again, (vm1), (vm2), (vm3), (vm4), aDet, ev, tget, tput, ofC, ofC1, pureR, condR, abin, aun, alen, gslot, Nat.reduceEqDiff, reduceIte, argTs, asliceS, asliceL, bnd, boolV, intV, retQ, aRes, aResV, oneAV, AV.low, AV.low.lows, Nat.reduceAdd, isStringD, isSliceD, isBoolD, setRange, AV.cells, AV.isCell, AV.isAgg, abytes, aconv, aeq, isConst, isByteD, isIfaceD, endQ, Int.reduceToNat, Int.reduceLE, Int.reduceLT, Int.reduceEq, Int.reduceNe, Int.reduceAdd, Int.reduceSub, Int.reduceNeg, Nat.reduceLT, Nat.reduceLeDiff, Ent.ver, Ent.imm, Ent.ty, lits, isEl, newCells, aappend, Nat.reduceBEq, fill, undef, (st1), (st2), (st3), (st4), (st5), (st6), (st7), (st8)]; try simp (disch := omega) only [wrapI64, Int.toNat_natCast, ← Int.natCast_add, nat_add_one, nat_add_two, take_drop_all, List.drop_zero, Nat.sub_zero, Nat.add_sub_cancel_left])
    refine xWait.go (plWithout_ok a (uniteI a b) ha (by omega) _) ?_
    (simp only [h1, hu, resI, minusI_all, ivs_len, List.length_nil, (vm1), (vm2), (vm3), (vm4), aDet, ev, tget, tput, ofC, ofC1, pureR, condR, abin, aun, alen, gslot, Nat.reduceEqDiff, reduceIte, argTs, asliceS, asliceL, bnd, boolV, intV, retQ, aRes, aResV, oneAV, AV.low, AV.low.lows, Nat.reduceAdd, isStringD, isSliceD, isBoolD, setRange, AV.cells, AV.isCell, AV.isAgg, abytes, aconv, aeq, isConst, isByteD, isIfaceD, endQ, Int.reduceToNat, Int.reduceLE, Int.reduceLT, Int.reduceEq, Int.reduceNe, Int.reduceAdd, Int.reduceSub, Int.reduceNeg, Nat.reduceLT, Nat.reduceLeDiff, Ent.ver, Ent.imm, Ent.ty, lits, isEl, newCells, aappend, Nat.reduceBEq, fill, undef, (st1), (st2), (st3), (st4), (st5), (st6), (st7), (st8)]; try simp (disch := omega) only [wrapI64, Int.toNat_natCast, ← Int.natCast_add, nat_add_one, nat_add_two, take_drop_all, List.drop_zero, Nat.sub_zero, Nat.add_sub_cancel_left])
    refine xWait.go (rSameInts_ok (uniteI a b) (uniteI a b) (by omega) (by omega) _) ?_
    (simp only [(vm1), (vm2), (vm3), (vm4), aDet, ev, tget, tput, ofC, ofC1, pureR, condR, abin, aun, alen, gslot, Nat.reduceEqDiff, reduceIte, argTs, asliceS, asliceL, bnd, boolV, intV, retQ, aRes, aResV, oneAV, AV.low, AV.low.lows, Nat.reduceAdd, isStringD, isSliceD, isBoolD, setRange, AV.cells, AV.isCell, AV.isAgg, abytes, aconv, aeq, isConst, isByteD, isIfaceD, endQ, Int.reduceToNat, Int.reduceLE, Int.reduceLT, Int.reduceEq, Int.reduceNe, Int.reduceAdd, Int.reduceSub, Int.reduceNeg, Nat.reduceLT, Nat.reduceLeDiff, Ent.ver, Ent.imm, Ent.ty, lits, isEl, newCells, aappend, Nat.reduceBEq, fill, undef, (st1), (st2), (st3), (st4), (st5), (st6), (st7), (st8)]; try simp (disch := omega) only [wrapI64, Int.toNat_natCast, ← Int.natCast_add, nat_add_one, nat_add_two, take_drop_all, List.drop_zero, Nat.sub_zero, Nat.add_sub_cancel_left])
    refine xWait.go (rSameInts_ok (uniteI a b) (uniteI a b) (by omega) (by omega) _) ?_
    (simp only [ivs_len, List.length_nil, (vm1), (vm2), (vm3), (vm4), aDet, ev, tget, tput, ofC, ofC1, pureR, condR, abin, aun, alen, gslot, Nat.reduceEqDiff, reduceIte, argTs, asliceS, asliceL, bnd, boolV, intV, retQ, aRes, aResV, oneAV, AV.low, AV.low.lows, Nat.reduceAdd, isStringD, isSliceD, isBoolD, setRange, AV.cells, AV.isCell, AV.isAgg, abytes, aconv, aeq, isConst, isByteD, isIfaceD, endQ, Int.reduceToNat, Int.reduceLE, Int.reduceLT, Int.reduceEq, Int.reduceNe, Int.reduceAdd, Int.reduceSub, Int.reduceNeg, Nat.reduceLT, Nat.reduceLeDiff, Ent.ver, Ent.imm, Ent.ty, lits, isEl, newCells, aappend, Nat.reduceBEq, fill, undef, (st1), (st2), (st3), (st4), (st5), (st6), (st7), (st8)]; try simp (disch := omega) only [wrapI64, Int.toNat_natCast, ← Int.natCast_add, nat_add_one, nat_add_two, take_drop_all, List.drop_zero, Nat.sub_zero, Nat.add_sub_cancel_left])
    refine xWait.go (haw _) ?_
    (simp only [(vm1), (vm2), (vm3), (vm4), aDet, ev, tget, tput, ofC, ofC1, pureR, condR, abin, aun, alen, gslot, Nat.reduceEqDiff, reduceIte, argTs, asliceS, asliceL, bnd, boolV, intV, retQ, aRes, aResV, oneAV, AV.low, AV.low.lows, Nat.reduceAdd, isStringD, isSliceD, isBoolD, setRange, AV.cells, AV.isCell, AV.isAgg, abytes, aconv, aeq, isConst, isByteD, isIfaceD, endQ, Int.reduceToNat, Int.reduceLE, Int.reduceLT, Int.reduceEq, Int.reduceNe, Int.reduceAdd, Int.reduceSub, Int.reduceNeg, Nat.reduceLT, Nat.reduceLeDiff, Ent.ver, Ent.imm, Ent.ty, lits, isEl, newCells, aappend, Nat.reduceBEq, fill, undef, (st1), (st2), (st3), (st4), (st5), (st6), (st7), (st8)]; try simp (disch := omega) only [wrapI64, Int.toNat_natCast, ← Int.natCast_add, nat_add_one, nat_add_two, take_drop_all, List.drop_zero, Nat.sub_zero, Nat.add_sub_cancel_left])
end Go.D

/- Small functions of the token readers. -/
set_option linter.unusedVariables false
set_option linter.unusedSimpArgs false
set_option maxRecDepth 100000
namespace Go.D
open Go Go.Vm Go.Proofs Go.RowKit

theorem toU8 (b : UInt8) : ((b.toNat : Int)).toNat.toUInt8 = b := by simp

theorem indexByte_mem : ∀ (l : List UInt8) (c : UInt8), 0 ≤ Lib.indexByte l c ↔ c ∈ l
  | [], c => by simp [Lib.indexByte]
  | b :: l, c => by
    have ih := indexByte_mem l c
    have hge := Lib.indexByte_ge l c
    unfold Lib.indexByte
    by_cases h : b = c
    · simp [h]
    · have h' : c ≠ b := fun e => h e.symm
      simp only [beq_iff_eq, h, if_false, List.mem_cons, h', false_or, ← ih]
      split <;> omega

theorem between_ok (a b c : Int) (σ : List Ent) : ACalls E 146 [u8 a, u8 b, u8 c] σ fun r τ => r = boolV (btw a b c) ∧ τ = σ := by
  refine xacalls T0 .drop [] Tryz.func146 rfl (by kernel_rfl) (by kernel_rfl) (by simp [Tryz.ntmps146]) ?_
  unfold btw
  by_cases h : a ≤ b <;> (simp only [h, (vm1), (vm2), (vm3), (vm4), aDet, ev, tget, tput, ofC, ofC1, pureR, condR, abin, aun, alen, gslot, Nat.reduceEqDiff, reduceIte, argTs, asliceS, asliceL, bnd, boolV, intV, retQ, aRes, aResV, oneAV, AV.low, AV.low.lows, Nat.reduceAdd, isStringD, isSliceD, isBoolD, setRange, AV.cells, AV.isCell, AV.isAgg, abytes, aconv, aeq, isConst, isByteD, isIfaceD, endQ, Int.reduceToNat, Int.reduceLE, Int.reduceLT, Int.reduceEq, Int.reduceNe, Int.reduceAdd, Int.reduceSub, Int.reduceNeg, Nat.reduceLT, Nat.reduceLeDiff, Ent.ver, Ent.imm, Ent.ty, lits, isEl, newCells, aappend, Nat.reduceBEq, fill, undef, (st1), (st2), (st3), (st4), (st5), (st6), (st7), (st8)]; try simp (disch := omega) only [wrapI64, Int.toNat_natCast, ← Int.natCast_add, nat_add_one, nat_add_two, take_drop_all, List.drop_zero, Nat.sub_zero, Nat.add_sub_cancel_left])

theorem isDigit_ok (b : Int) (σ : List Ent) : ACalls E 187 [u8 b] σ fun r τ => r = boolV (btw 48 b 57) ∧ τ = σ := by
  refine xacalls T0 .drop [] Tryz.func187 rfl (by kernel_rfl) (by kernel_rfl) (by simp [Tryz.ntmps187]) ?_
  (simp only [(vm1), (vm2), (vm3), (vm4), aDet, ev, tget, tput, ofC, ofC1, pureR, condR, abin, aun, alen, gslot, Nat.reduceEqDiff, reduceIte, argTs, asliceS, asliceL, bnd, boolV, intV, retQ, aRes, aResV, oneAV, AV.low, AV.low.lows, Nat.reduceAdd, isStringD, isSliceD, isBoolD, setRange, AV.cells, AV.isCell, AV.isAgg, abytes, aconv, aeq, isConst, isByteD, isIfaceD, endQ, Int.reduceToNat, Int.reduceLE, Int.reduceLT, Int.reduceEq, Int.reduceNe, Int.reduceAdd, Int.reduceSub, Int.reduceNeg, Nat.reduceLT, Nat.reduceLeDiff, Ent.ver, Ent.imm, Ent.ty, lits, isEl, newCells, aappend, Nat.reduceBEq, fill, undef, (st1), (st2), (st3), (st4), (st5), (st6), (st7), (st8)]; try simp (disch := omega) only [wrapI64, Int.toNat_natCast, ← Int.natCast_add, nat_add_one, nat_add_two, take_drop_all, List.drop_zero, Nat.sub_zero, Nat.add_sub_cancel_left])
  refine xWait.go (between_ok _ _ _ _) ?_
  (simp only [(vm1), (vm2), (vm3), (vm4), aDet, ev, tget, tput, ofC, ofC1, pureR, condR, abin, aun, alen, gslot, Nat.reduceEqDiff, reduceIte, argTs, asliceS, asliceL, bnd, boolV, intV, retQ, aRes, aResV, oneAV, AV.low, AV.low.lows, Nat.reduceAdd, isStringD, isSliceD, isBoolD, setRange, AV.cells, AV.isCell, AV.isAgg, abytes, aconv, aeq, isConst, isByteD, isIfaceD, endQ, Int.reduceToNat, Int.reduceLE, Int.reduceLT, Int.reduceEq, Int.reduceNe, Int.reduceAdd, Int.reduceSub, Int.reduceNeg, Nat.reduceLT, Nat.reduceLeDiff, Ent.ver, Ent.imm, Ent.ty, lits, isEl, newCells, aappend, Nat.reduceBEq, fill, undef, (st1), (st2), (st3), (st4), (st5), (st6), (st7), (st8)]; try simp (disch := omega) only [wrapI64, Int.toNat_natCast, ← Int.natCast_add, nat_add_one, nat_add_two, take_drop_all, List.drop_zero, Nat.sub_zero, Nat.add_sub_cancel_left])

theorem isPart_ok (b : Int) (σ : List Ent) : ACalls E 186 [u8 b] σ fun r τ => r = boolV (isPart b) ∧ τ = σ := by
  refine xacalls T0 .drop [] Tryz.func186 rfl (by kernel_rfl) (by kernel_rfl) (by simp [Tryz.ntmps186]) ?_
  unfold isPart
  (simp only [(vm1), (vm2), (vm3), (vm4), aDet, ev, tget, tput, ofC, ofC1, pureR, condR, abin, aun, alen, gslot, Nat.reduceEqDiff, reduceIte, argTs, asliceS, asliceL, bnd, boolV, intV, retQ, aRes, aResV, oneAV, AV.low, AV.low.lows, Nat.reduceAdd, isStringD, isSliceD, isBoolD, setRange, AV.cells, AV.isCell, AV.isAgg, abytes, aconv, aeq, isConst, isByteD, isIfaceD, endQ, Int.reduceToNat, Int.reduceLE, Int.reduceLT, Int.reduceEq, Int.reduceNe, Int.reduceAdd, Int.reduceSub, Int.reduceNeg, Nat.reduceLT, Nat.reduceLeDiff, Ent.ver, Ent.imm, Ent.ty, lits, isEl, newCells, aappend, Nat.reduceBEq, fill, undef, (st1), (st2), (st3), (st4), (st5), (st6), (st7), (st8)]; try simp (disch := omega) only [wrapI64, Int.toNat_natCast, ← Int.natCast_add, nat_add_one, nat_add_two, take_drop_all, List.drop_zero, Nat.sub_zero, Nat.add_sub_cancel_left])
  refine xWait.go (between_ok _ _ _ _) ?_
  cases h1 : btw 97 b 122 <;> (simp only [(vm1), (vm2), (vm3), (vm4), aDet, ev, tget, tput, ofC, ofC1, pureR, condR, abin, aun, alen, gslot, Nat.reduceEqDiff, reduceIte, argTs, asliceS, asliceL, bnd, boolV, intV, retQ, aRes, aResV, oneAV, AV.low, AV.low.lows, Nat.reduceAdd, isStringD, isSliceD, isBoolD, setRange, AV.cells, AV.isCell, AV.isAgg, abytes, aconv, aeq, isConst, isByteD, isIfaceD, endQ, Int.reduceToNat, Int.reduceLE, Int.reduceLT, Int.reduceEq, Int.reduceNe, Int.reduceAdd, Int.reduceSub, Int.reduceNeg, Nat.reduceLT, Nat.reduceLeDiff, Ent.ver, Ent.imm, Ent.ty, lits, isEl, newCells, aappend, Nat.reduceBEq, fill, undef, (st1), (st2), (st3), (st4), (st5), (st6), (st7), (st8)]; try simp (disch := omega) only [wrapI64, Int.toNat_natCast, ← Int.natCast_add, nat_add_one, nat_add_two, take_drop_all, List.drop_zero, Nat.sub_zero, Nat.add_sub_cancel_left])
  refine xWait.go (between_ok _ _ _ _) ?_
  cases h2 : btw 65 b 90 <;> (simp only [(vm1), (vm2), (vm3), (vm4), aDet, ev, tget, tput, ofC, ofC1, pureR, condR, abin, aun, alen, gslot, Nat.reduceEqDiff, reduceIte, argTs, asliceS, asliceL, bnd, boolV, intV, retQ, aRes, aResV, oneAV, AV.low, AV.low.lows, Nat.reduceAdd, isStringD, isSliceD, isBoolD, setRange, AV.cells, AV.isCell, AV.isAgg, abytes, aconv, aeq, isConst, isByteD, isIfaceD, endQ, Int.reduceToNat, Int.reduceLE, Int.reduceLT, Int.reduceEq, Int.reduceNe, Int.reduceAdd, Int.reduceSub, Int.reduceNeg, Nat.reduceLT, Nat.reduceLeDiff, Ent.ver, Ent.imm, Ent.ty, lits, isEl, newCells, aappend, Nat.reduceBEq, fill, undef, (st1), (st2), (st3), (st4), (st5), (st6), (st7), (st8)]; try simp (disch := omega) only [wrapI64, Int.toNat_natCast, ← Int.natCast_add, nat_add_one, nat_add_two, take_drop_all, List.drop_zero, Nat.sub_zero, Nat.add_sub_cancel_left])
  refine xWait.go (isDigit_ok _ _) ?_
  cases h3 : btw 48 b 57 <;> (simp only [(vm1), (vm2), (vm3), (vm4), aDet, ev, tget, tput, ofC, ofC1, pureR, condR, abin, aun, alen, gslot, Nat.reduceEqDiff, reduceIte, argTs, asliceS, asliceL, bnd, boolV, intV, retQ, aRes, aResV, oneAV, AV.low, AV.low.lows, Nat.reduceAdd, isStringD, isSliceD, isBoolD, setRange, AV.cells, AV.isCell, AV.isAgg, abytes, aconv, aeq, isConst, isByteD, isIfaceD, endQ, Int.reduceToNat, Int.reduceLE, Int.reduceLT, Int.reduceEq, Int.reduceNe, Int.reduceAdd, Int.reduceSub, Int.reduceNeg, Nat.reduceLT, Nat.reduceLeDiff, Ent.ver, Ent.imm, Ent.ty, lits, isEl, newCells, aappend, Nat.reduceBEq, fill, undef, (st1), (st2), (st3), (st4), (st5), (st6), (st7), (st8)]; try simp (disch := omega) only [wrapI64, Int.toNat_natCast, ← Int.natCast_add, nat_add_one, nat_add_two, take_drop_all, List.drop_zero, Nat.sub_zero, Nat.add_sub_cancel_left])
  by_cases h4 : b = 95 <;> (simp only [h4, (vm1), (vm2), (vm3), (vm4), aDet, ev, tget, tput, ofC, ofC1, pureR, condR, abin, aun, alen, gslot, Nat.reduceEqDiff, reduceIte, argTs, asliceS, asliceL, bnd, boolV, intV, retQ, aRes, aResV, oneAV, AV.low, AV.low.lows, Nat.reduceAdd, isStringD, isSliceD, isBoolD, setRange, AV.cells, AV.isCell, AV.isAgg, abytes, aconv, aeq, isConst, isByteD, isIfaceD, endQ, Int.reduceToNat, Int.reduceLE, Int.reduceLT, Int.reduceEq, Int.reduceNe, Int.reduceAdd, Int.reduceSub, Int.reduceNeg, Nat.reduceLT, Nat.reduceLeDiff, Ent.ver, Ent.imm, Ent.ty, lits, isEl, newCells, aappend, Nat.reduceBEq, fill, undef, (st1), (st2), (st3), (st4), (st5), (st6), (st7), (st8)]; try simp (disch := omega) only [wrapI64, Int.toNat_natCast, ← Int.natCast_add, nat_add_one, nat_add_two, take_drop_all, List.drop_zero, Nat.sub_zero, Nat.add_sub_cancel_left])

theorem word_ok (l : List UInt8) (hl : l.length ≤ 1099511627776) (σ : List Ent) : ACalls E 161 [.str l] σ fun r τ => r = i64 (word l) ∧ τ = σ := by
  refine xacalls T0 .drop [] Tryz.func161 rfl (by kernel_rfl) (by kernel_rfl) (by simp [Tryz.ntmps161]) ?_
  (simp only [(vm1), (vm2), (vm3), (vm4), aDet, ev, tget, tput, ofC, ofC1, pureR, condR, abin, aun, alen, gslot, Nat.reduceEqDiff, reduceIte, argTs, asliceS, asliceL, bnd, boolV, intV, retQ, aRes, aResV, oneAV, AV.low, AV.low.lows, Nat.reduceAdd, isStringD, isSliceD, isBoolD, setRange, AV.cells, AV.isCell, AV.isAgg, abytes, aconv, aeq, isConst, isByteD, isIfaceD, endQ, Int.reduceToNat, Int.reduceLE, Int.reduceLT, Int.reduceEq, Int.reduceNe, Int.reduceAdd, Int.reduceSub, Int.reduceNeg, Nat.reduceLT, Nat.reduceLeDiff, Ent.ver, Ent.imm, Ent.ty, lits, isEl, newCells, aappend, Nat.reduceBEq, fill, undef, (st1), (st2), (st3), (st4), (st5), (st6), (st7), (st8)]; try simp (disch := omega) only [wrapI64, Int.toNat_natCast, ← Int.natCast_add, nat_add_one, nat_add_two, take_drop_all, List.drop_zero, Nat.sub_zero, Nat.add_sub_cancel_left])
  refine xloop (α := Nat) T0 (fun i => [(0, .str l), (3, i64 i)]) (fun _ => σ) (fun _ => []) (fun i => i ≤ l.length ∧ ∀ x ∈ l.take i, pB isPart x = true) (fun i => l.length - i) (by kernel_rfl) ⟨0, by simp, by (simp only [(vm1), (vm2), (vm3), (vm4), aDet, ev, tget, tput, ofC, ofC1, pureR, condR, abin, aun, alen, gslot, Nat.reduceEqDiff, reduceIte, argTs, asliceS, asliceL, bnd, boolV, intV, retQ, aRes, aResV, oneAV, AV.low, AV.low.lows, Nat.reduceAdd, isStringD, isSliceD, isBoolD, setRange, AV.cells, AV.isCell, AV.isAgg, abytes, aconv, aeq, isConst, isByteD, isIfaceD, endQ, Int.reduceToNat, Int.reduceLE, Int.reduceLT, Int.reduceEq, Int.reduceNe, Int.reduceAdd, Int.reduceSub, Int.reduceNeg, Nat.reduceLT, Nat.reduceLeDiff, Ent.ver, Ent.imm, Ent.ty, lits, isEl, newCells, aappend, Nat.reduceBEq, fill, undef, (st1), (st2), (st3), (st4), (st5), (st6), (st7), (st8), Int.natCast_zero]; try simp (disch := omega) only [wrapI64, Int.toNat_natCast, ← Int.natCast_add, nat_add_one, nat_add_two, take_drop_all, List.drop_zero, Nat.sub_zero, Nat.add_sub_cancel_left]), rfl, rfl⟩ ?_
  rintro i ⟨hi, hall⟩
  by_cases h : (i : Int) < l.length
  · (simp only [h, (vm1), (vm2), (vm3), (vm4), aDet, ev, tget, tput, ofC, ofC1, pureR, condR, abin, aun, alen, gslot, Nat.reduceEqDiff, reduceIte, argTs, asliceS, asliceL, bnd, boolV, intV, retQ, aRes, aResV, oneAV, AV.low, AV.low.lows, Nat.reduceAdd, isStringD, isSliceD, isBoolD, setRange, AV.cells, AV.isCell, AV.isAgg, abytes, aconv, aeq, isConst, isByteD, isIfaceD, endQ, Int.reduceToNat, Int.reduceLE, Int.reduceLT, Int.reduceEq, Int.reduceNe, Int.reduceAdd, Int.reduceSub, Int.reduceNeg, Nat.reduceLT, Nat.reduceLeDiff, Ent.ver, Ent.imm, Ent.ty, lits, isEl, newCells, aappend, Nat.reduceBEq, fill, undef, (st1), (st2), (st3), (st4), (st5), (st6), (st7), (st8)]; try simp (disch := omega) only [wrapI64, Int.toNat_natCast, ← Int.natCast_add, nat_add_one, nat_add_two, take_drop_all, List.drop_zero, Nat.sub_zero, Nat.add_sub_cancel_left])
    refine xWait.go (isPart_ok _ _) ?_
    cases hp : isPart (l.getD i 0).toNat
    · (simp only [(vm1), (vm2), (vm3), (vm4), aDet, ev, tget, tput, ofC, ofC1, pureR, condR, abin, aun, alen, gslot, Nat.reduceEqDiff, reduceIte, argTs, asliceS, asliceL, bnd, boolV, intV, retQ, aRes, aResV, oneAV, AV.low, AV.low.lows, Nat.reduceAdd, isStringD, isSliceD, isBoolD, setRange, AV.cells, AV.isCell, AV.isAgg, abytes, aconv, aeq, isConst, isByteD, isIfaceD, endQ, Int.reduceToNat, Int.reduceLE, Int.reduceLT, Int.reduceEq, Int.reduceNe, Int.reduceAdd, Int.reduceSub, Int.reduceNeg, Nat.reduceLT, Nat.reduceLeDiff, Ent.ver, Ent.imm, Ent.ty, lits, isEl, newCells, aappend, Nat.reduceBEq, fill, undef, (st1), (st2), (st3), (st4), (st5), (st6), (st7), (st8)]; try simp (disch := omega) only [wrapI64, Int.toNat_natCast, ← Int.natCast_add, nat_add_one, nat_add_two, take_drop_all, List.drop_zero, Nat.sub_zero, Nat.add_sub_cancel_left])
      exact congrArg (fun n : Nat => i64 n) (takeWhile_len hi hall fun _ => hp).symm
    · (simp only [(vm1), (vm2), (vm3), (vm4), aDet, ev, tget, tput, ofC, ofC1, pureR, condR, abin, aun, alen, gslot, Nat.reduceEqDiff, reduceIte, argTs, asliceS, asliceL, bnd, boolV, intV, retQ, aRes, aResV, oneAV, AV.low, AV.low.lows, Nat.reduceAdd, isStringD, isSliceD, isBoolD, setRange, AV.cells, AV.isCell, AV.isAgg, abytes, aconv, aeq, isConst, isByteD, isIfaceD, endQ, Int.reduceToNat, Int.reduceLE, Int.reduceLT, Int.reduceEq, Int.reduceNe, Int.reduceAdd, Int.reduceSub, Int.reduceNeg, Nat.reduceLT, Nat.reduceLeDiff, Ent.ver, Ent.imm, Ent.ty, lits, isEl, newCells, aappend, Nat.reduceBEq, fill, undef, (st1), (st2), (st3), (st4), (st5), (st6), (st7), (st8)]; try simp (disch := omega) only [wrapI64, Int.toNat_natCast, ← Int.natCast_add, nat_add_one, nat_add_two, take_drop_all, List.drop_zero, Nat.sub_zero, Nat.add_sub_cancel_left])
      exact ⟨i + 1, ⟨by omega, take_succ_all (by omega) hall hp⟩, by omega, rfl⟩
  · (simp only [h, (vm1), (vm2), (vm3), (vm4), aDet, ev, tget, tput, ofC, ofC1, pureR, condR, abin, aun, alen, gslot, Nat.reduceEqDiff, reduceIte, argTs, asliceS, asliceL, bnd, boolV, intV, retQ, aRes, aResV, oneAV, AV.low, AV.low.lows, Nat.reduceAdd, isStringD, isSliceD, isBoolD, setRange, AV.cells, AV.isCell, AV.isAgg, abytes, aconv, aeq, isConst, isByteD, isIfaceD, endQ, Int.reduceToNat, Int.reduceLE, Int.reduceLT, Int.reduceEq, Int.reduceNe, Int.reduceAdd, Int.reduceSub, Int.reduceNeg, Nat.reduceLT, Nat.reduceLeDiff, Ent.ver, Ent.imm, Ent.ty, lits, isEl, newCells, aappend, Nat.reduceBEq, fill, undef, (st1), (st2), (st3), (st4), (st5), (st6), (st7), (st8)]; try simp (disch := omega) only [wrapI64, Int.toNat_natCast, ← Int.natCast_add, nat_add_one, nat_add_two, take_drop_all, List.drop_zero, Nat.sub_zero, Nat.add_sub_cancel_left])
    exact congrArg (fun n : Nat => i64 n) (takeWhile_len hi hall fun hh => absurd (by omega) h).symm
end Go.D

/- Digits; names. -/
set_option linter.unusedVariables false
set_option linter.unusedSimpArgs false
set_option maxRecDepth 100000
namespace Go.D
open Go Go.Vm Go.Proofs Go.RowKit

theorem digits_ok (l : List UInt8) (hl : l.length ≤ 1099511627776) (σ : List Ent) : ACalls E 163 [.str l] σ fun r τ => r = i64 (digits l) ∧ τ = σ := by
  refine xacalls T0 .drop [] Tryz.func163 rfl (by kernel_rfl) (by kernel_rfl) (by simp [Tryz.ntmps163]) ?_
  (simp only [(vm1), (vm2), (vm3), (vm4), aDet, ev, tget, tput, ofC, ofC1, pureR, condR, abin, aun, alen, gslot, Nat.reduceEqDiff, reduceIte, argTs, asliceS, asliceL, bnd, boolV, intV, retQ, aRes, aResV, oneAV, AV.low, AV.low.lows, Nat.reduceAdd, isStringD, isSliceD, isBoolD, setRange, AV.cells, AV.isCell, AV.isAgg, abytes, aconv, aeq, isConst, isByteD, isIfaceD, endQ, Int.reduceToNat, Int.reduceLE, Int.reduceLT, Int.reduceEq, Int.reduceNe, Int.reduceAdd, Int.reduceSub, Int.reduceNeg, Nat.reduceLT, Nat.reduceLeDiff, Ent.ver, Ent.imm, Ent.ty, lits, isEl, newCells, aappend, Nat.reduceBEq, fill, undef, (st1), (st2), (st3), (st4), (st5), (st6), (st7), (st8)]; try simp (disch := omega) only [wrapI64, Int.toNat_natCast, ← Int.natCast_add, nat_add_one, nat_add_two, take_drop_all, List.drop_zero, Nat.sub_zero, Nat.add_sub_cancel_left])
  refine xGuard.cut (.seq (.cut (fun ts g l' => Sub ts [(0, .str l), (3, i64 (negN l))] ∧ g = σ ∧ l' = []) ?_)) ?_
  · rintro ts g l' ⟨hsub, rfl, rfl⟩
    simp only [sub_cons, sub_nil, and_true] at hsub
    obtain ⟨h0, h3⟩ := hsub
    have hn := negN_le l
    by_cases h4 : (negN l : Int) = l.length
    · have : negN l = l.length := by omega
      (simp only [h0, h3, h4, (vm1), (vm2), (vm3), (vm4), aDet, ev, tget, tput, ofC, ofC1, pureR, condR, abin, aun, alen, gslot, Nat.reduceEqDiff, reduceIte, argTs, asliceS, asliceL, bnd, boolV, intV, retQ, aRes, aResV, oneAV, AV.low, AV.low.lows, Nat.reduceAdd, isStringD, isSliceD, isBoolD, setRange, AV.cells, AV.isCell, AV.isAgg, abytes, aconv, aeq, isConst, isByteD, isIfaceD, endQ, Int.reduceToNat, Int.reduceLE, Int.reduceLT, Int.reduceEq, Int.reduceNe, Int.reduceAdd, Int.reduceSub, Int.reduceNeg, Nat.reduceLT, Nat.reduceLeDiff, Ent.ver, Ent.imm, Ent.ty, lits, isEl, newCells, aappend, Nat.reduceBEq, fill, undef, (st1), (st2), (st3), (st4), (st5), (st6), (st7), (st8)]; try simp (disch := omega) only [wrapI64, Int.toNat_natCast, ← Int.natCast_add, nat_add_one, nat_add_two, take_drop_all, List.drop_zero, Nat.sub_zero, Nat.add_sub_cancel_left])
      rw [digits, if_pos this]; rfl
    · have h5 : ¬ negN l = l.length := by omega
      (simp only [h0, h3, h4, (vm1), (vm2), (vm3), (vm4), aDet, ev, tget, tput, ofC, ofC1, pureR, condR, abin, aun, alen, gslot, Nat.reduceEqDiff, reduceIte, argTs, asliceS, asliceL, bnd, boolV, intV, retQ, aRes, aResV, oneAV, AV.low, AV.low.lows, Nat.reduceAdd, isStringD, isSliceD, isBoolD, setRange, AV.cells, AV.isCell, AV.isAgg, abytes, aconv, aeq, isConst, isByteD, isIfaceD, endQ, Int.reduceToNat, Int.reduceLE, Int.reduceLT, Int.reduceEq, Int.reduceNe, Int.reduceAdd, Int.reduceSub, Int.reduceNeg, Nat.reduceLT, Nat.reduceLeDiff, Ent.ver, Ent.imm, Ent.ty, lits, isEl, newCells, aappend, Nat.reduceBEq, fill, undef, (st1), (st2), (st3), (st4), (st5), (st6), (st7), (st8)]; try simp (disch := omega) only [wrapI64, Int.toNat_natCast, ← Int.natCast_add, nat_add_one, nat_add_two, take_drop_all, List.drop_zero, Nat.sub_zero, Nat.add_sub_cancel_left])
      refine ⟨by omega, ?_⟩
      refine xWait.go (isDigit_ok _ _) ?_
      rw [digits, if_neg h5]
      cases h6 : btw 48 (l.getD (negN l) 0).toNat 57
      · (simp only [h0, h3, (vm1), (vm2), (vm3), (vm4), aDet, ev, tget, tput, ofC, ofC1, pureR, condR, abin, aun, alen, gslot, Nat.reduceEqDiff, reduceIte, argTs, asliceS, asliceL, bnd, boolV, intV, retQ, aRes, aResV, oneAV, AV.low, AV.low.lows, Nat.reduceAdd, isStringD, isSliceD, isBoolD, setRange, AV.cells, AV.isCell, AV.isAgg, abytes, aconv, aeq, isConst, isByteD, isIfaceD, endQ, Int.reduceToNat, Int.reduceLE, Int.reduceLT, Int.reduceEq, Int.reduceNe, Int.reduceAdd, Int.reduceSub, Int.reduceNeg, Nat.reduceLT, Nat.reduceLeDiff, Ent.ver, Ent.imm, Ent.ty, lits, isEl, newCells, aappend, Nat.reduceBEq, fill, undef, (st1), (st2), (st3), (st4), (st5), (st6), (st7), (st8), isDig, h6]; try simp (disch := omega) only [wrapI64, Int.toNat_natCast, ← Int.natCast_add, nat_add_one, nat_add_two, take_drop_all, List.drop_zero, Nat.sub_zero, Nat.add_sub_cancel_left])
      · (simp only [h0, h3, (vm1), (vm2), (vm3), (vm4), aDet, ev, tget, tput, ofC, ofC1, pureR, condR, abin, aun, alen, gslot, Nat.reduceEqDiff, reduceIte, argTs, asliceS, asliceL, bnd, boolV, intV, retQ, aRes, aResV, oneAV, AV.low, AV.low.lows, Nat.reduceAdd, isStringD, isSliceD, isBoolD, setRange, AV.cells, AV.isCell, AV.isAgg, abytes, aconv, aeq, isConst, isByteD, isIfaceD, endQ, Int.reduceToNat, Int.reduceLE, Int.reduceLT, Int.reduceEq, Int.reduceNe, Int.reduceAdd, Int.reduceSub, Int.reduceNeg, Nat.reduceLT, Nat.reduceLeDiff, Ent.ver, Ent.imm, Ent.ty, lits, isEl, newCells, aappend, Nat.reduceBEq, fill, undef, (st1), (st2), (st3), (st4), (st5), (st6), (st7), (st8), isDig, h6]; try simp (disch := omega) only [wrapI64, Int.toNat_natCast, ← Int.natCast_add, nat_add_one, nat_add_two, take_drop_all, List.drop_zero, Nat.sub_zero, Nat.add_sub_cancel_left])
        refine ⟨by omega, ?_⟩
        by_cases h7 : ((l.getD (negN l) 0).toNat : Int) = 48
        · (simp only [h0, h3, h7, (vm1), (vm2), (vm3), (vm4), aDet, ev, tget, tput, ofC, ofC1, pureR, condR, abin, aun, alen, gslot, Nat.reduceEqDiff, reduceIte, argTs, asliceS, asliceL, bnd, boolV, intV, retQ, aRes, aResV, oneAV, AV.low, AV.low.lows, Nat.reduceAdd, isStringD, isSliceD, isBoolD, setRange, AV.cells, AV.isCell, AV.isAgg, abytes, aconv, aeq, isConst, isByteD, isIfaceD, endQ, Int.reduceToNat, Int.reduceLE, Int.reduceLT, Int.reduceEq, Int.reduceNe, Int.reduceAdd, Int.reduceSub, Int.reduceNeg, Nat.reduceLT, Nat.reduceLeDiff, Ent.ver, Ent.imm, Ent.ty, lits, isEl, newCells, aappend, Nat.reduceBEq, fill, undef, (st1), (st2), (st3), (st4), (st5), (st6), (st7), (st8)]; try simp (disch := omega) only [wrapI64, Int.toNat_natCast, ← Int.natCast_add, nat_add_one, nat_add_two, take_drop_all, List.drop_zero, Nat.sub_zero, Nat.add_sub_cancel_left])
        · (simp only [h0, h3, h7, (vm1), (vm2), (vm3), (vm4), aDet, ev, tget, tput, ofC, ofC1, pureR, condR, abin, aun, alen, gslot, Nat.reduceEqDiff, reduceIte, argTs, asliceS, asliceL, bnd, boolV, intV, retQ, aRes, aResV, oneAV, AV.low, AV.low.lows, Nat.reduceAdd, isStringD, isSliceD, isBoolD, setRange, AV.cells, AV.isCell, AV.isAgg, abytes, aconv, aeq, isConst, isByteD, isIfaceD, endQ, Int.reduceToNat, Int.reduceLE, Int.reduceLT, Int.reduceEq, Int.reduceNe, Int.reduceAdd, Int.reduceSub, Int.reduceNeg, Nat.reduceLT, Nat.reduceLeDiff, Ent.ver, Ent.imm, Ent.ty, lits, isEl, newCells, aappend, Nat.reduceBEq, fill, undef, (st1), (st2), (st3), (st4), (st5), (st6), (st7), (st8)]; try simp (disch := omega) only [wrapI64, Int.toNat_natCast, ← Int.natCast_add, nat_add_one, nat_add_two, take_drop_all, List.drop_zero, Nat.sub_zero, Nat.add_sub_cancel_left])
          refine xloop (α := Nat) T0 (fun i => [(0, .str l), (3, i64 (negN l + i : Nat))]) (fun _ => g) (fun _ => []) (fun i => i ≤ (l.drop (negN l)).length ∧ ∀ x ∈ (l.drop (negN l)).take i, pB isDig x = true) (fun i => l.length - i) (by kernel_rfl)
            ⟨0, by simp, by (simp only [h0, h3, (vm1), (vm2), (vm3), (vm4), aDet, ev, tget, tput, ofC, ofC1, pureR, condR, abin, aun, alen, gslot, Nat.reduceEqDiff, reduceIte, argTs, asliceS, asliceL, bnd, boolV, intV, retQ, aRes, aResV, oneAV, AV.low, AV.low.lows, Nat.reduceAdd, isStringD, isSliceD, isBoolD, setRange, AV.cells, AV.isCell, AV.isAgg, abytes, aconv, aeq, isConst, isByteD, isIfaceD, endQ, Int.reduceToNat, Int.reduceLE, Int.reduceLT, Int.reduceEq, Int.reduceNe, Int.reduceAdd, Int.reduceSub, Int.reduceNeg, Nat.reduceLT, Nat.reduceLeDiff, Ent.ver, Ent.imm, Ent.ty, lits, isEl, newCells, aappend, Nat.reduceBEq, fill, undef, (st1), (st2), (st3), (st4), (st5), (st6), (st7), (st8)]; try simp (disch := omega) only [wrapI64, Int.toNat_natCast, ← Int.natCast_add, nat_add_one, nat_add_two, take_drop_all, List.drop_zero, Nat.sub_zero, Nat.add_sub_cancel_left]), rfl, rfl⟩ ?_
          rintro i ⟨hi, hall⟩
          have hd : (l.drop (negN l)).getD i 0 = l.getD (negN l + i) 0 := by simp [List.getD]
          have hlen : (l.drop (negN l)).length = l.length - negN l := List.length_drop
          by_cases h8 : ((negN l + i : Nat) : Int) < l.length
          · (simp only [h8, (vm1), (vm2), (vm3), (vm4), aDet, ev, tget, tput, ofC, ofC1, pureR, condR, abin, aun, alen, gslot, Nat.reduceEqDiff, reduceIte, argTs, asliceS, asliceL, bnd, boolV, intV, retQ, aRes, aResV, oneAV, AV.low, AV.low.lows, Nat.reduceAdd, isStringD, isSliceD, isBoolD, setRange, AV.cells, AV.isCell, AV.isAgg, abytes, aconv, aeq, isConst, isByteD, isIfaceD, endQ, Int.reduceToNat, Int.reduceLE, Int.reduceLT, Int.reduceEq, Int.reduceNe, Int.reduceAdd, Int.reduceSub, Int.reduceNeg, Nat.reduceLT, Nat.reduceLeDiff, Ent.ver, Ent.imm, Ent.ty, lits, isEl, newCells, aappend, Nat.reduceBEq, fill, undef, (st1), (st2), (st3), (st4), (st5), (st6), (st7), (st8)]; try simp (disch := omega) only [wrapI64, Int.toNat_natCast, ← Int.natCast_add, nat_add_one, nat_add_two, take_drop_all, List.drop_zero, Nat.sub_zero, Nat.add_sub_cancel_left])
            refine xWait.go (isDigit_ok _ _) ?_
            cases hp : btw 48 (l.getD (negN l + i) 0).toNat 57
            · (simp only [(vm1), (vm2), (vm3), (vm4), aDet, ev, tget, tput, ofC, ofC1, pureR, condR, abin, aun, alen, gslot, Nat.reduceEqDiff, reduceIte, argTs, asliceS, asliceL, bnd, boolV, intV, retQ, aRes, aResV, oneAV, AV.low, AV.low.lows, Nat.reduceAdd, isStringD, isSliceD, isBoolD, setRange, AV.cells, AV.isCell, AV.isAgg, abytes, aconv, aeq, isConst, isByteD, isIfaceD, endQ, Int.reduceToNat, Int.reduceLE, Int.reduceLT, Int.reduceEq, Int.reduceNe, Int.reduceAdd, Int.reduceSub, Int.reduceNeg, Nat.reduceLT, Nat.reduceLeDiff, Ent.ver, Ent.imm, Ent.ty, lits, isEl, newCells, aappend, Nat.reduceBEq, fill, undef, (st1), (st2), (st3), (st4), (st5), (st6), (st7), (st8)]; try simp (disch := omega) only [wrapI64, Int.toNat_natCast, ← Int.natCast_add, nat_add_one, nat_add_two, take_drop_all, List.drop_zero, Nat.sub_zero, Nat.add_sub_cancel_left])
              rw [takeWhile_len hi hall fun _ => by rw [hd]; exact hp]
            · (simp only [(vm1), (vm2), (vm3), (vm4), aDet, ev, tget, tput, ofC, ofC1, pureR, condR, abin, aun, alen, gslot, Nat.reduceEqDiff, reduceIte, argTs, asliceS, asliceL, bnd, boolV, intV, retQ, aRes, aResV, oneAV, AV.low, AV.low.lows, Nat.reduceAdd, isStringD, isSliceD, isBoolD, setRange, AV.cells, AV.isCell, AV.isAgg, abytes, aconv, aeq, isConst, isByteD, isIfaceD, endQ, Int.reduceToNat, Int.reduceLE, Int.reduceLT, Int.reduceEq, Int.reduceNe, Int.reduceAdd, Int.reduceSub, Int.reduceNeg, Nat.reduceLT, Nat.reduceLeDiff, Ent.ver, Ent.imm, Ent.ty, lits, isEl, newCells, aappend, Nat.reduceBEq, fill, undef, (st1), (st2), (st3), (st4), (st5), (st6), (st7), (st8)]; try simp (disch := omega) only [wrapI64, Int.toNat_natCast, ← Int.natCast_add, nat_add_one, nat_add_two, take_drop_all, List.drop_zero, Nat.sub_zero, Nat.add_sub_cancel_left])
              exact ⟨i + 1, ⟨by omega, take_succ_all (by omega) hall (by rw [hd]; exact hp)⟩, by omega, rfl⟩
          · (simp only [h8, (vm1), (vm2), (vm3), (vm4), aDet, ev, tget, tput, ofC, ofC1, pureR, condR, abin, aun, alen, gslot, Nat.reduceEqDiff, reduceIte, argTs, asliceS, asliceL, bnd, boolV, intV, retQ, aRes, aResV, oneAV, AV.low, AV.low.lows, Nat.reduceAdd, isStringD, isSliceD, isBoolD, setRange, AV.cells, AV.isCell, AV.isAgg, abytes, aconv, aeq, isConst, isByteD, isIfaceD, endQ, Int.reduceToNat, Int.reduceLE, Int.reduceLT, Int.reduceEq, Int.reduceNe, Int.reduceAdd, Int.reduceSub, Int.reduceNeg, Nat.reduceLT, Nat.reduceLeDiff, Ent.ver, Ent.imm, Ent.ty, lits, isEl, newCells, aappend, Nat.reduceBEq, fill, undef, (st1), (st2), (st3), (st4), (st5), (st6), (st7), (st8)]; try simp (disch := omega) only [wrapI64, Int.toNat_natCast, ← Int.natCast_add, nat_add_one, nat_add_two, take_drop_all, List.drop_zero, Nat.sub_zero, Nat.add_sub_cancel_left])
            rw [takeWhile_len hi hall fun hh => absurd (by omega) h8]
  · by_cases h1 : (1 : Int) < l.length
    · (simp only [h1, (vm1), (vm2), (vm3), (vm4), aDet, ev, tget, tput, ofC, ofC1, pureR, condR, abin, aun, alen, gslot, Nat.reduceEqDiff, reduceIte, argTs, asliceS, asliceL, bnd, boolV, intV, retQ, aRes, aResV, oneAV, AV.low, AV.low.lows, Nat.reduceAdd, isStringD, isSliceD, isBoolD, setRange, AV.cells, AV.isCell, AV.isAgg, abytes, aconv, aeq, isConst, isByteD, isIfaceD, endQ, Int.reduceToNat, Int.reduceLE, Int.reduceLT, Int.reduceEq, Int.reduceNe, Int.reduceAdd, Int.reduceSub, Int.reduceNeg, Nat.reduceLT, Nat.reduceLeDiff, Ent.ver, Ent.imm, Ent.ty, lits, isEl, newCells, aappend, Nat.reduceBEq, fill, undef, (st1), (st2), (st3), (st4), (st5), (st6), (st7), (st8)]; try simp (disch := omega) only [wrapI64, Int.toNat_natCast, ← Int.natCast_add, nat_add_one, nat_add_two, take_drop_all, List.drop_zero, Nat.sub_zero, Nat.add_sub_cancel_left])
      refine ⟨by omega, ?_⟩
      by_cases h2 : ((l.getD 0 0).toNat : Int) = 45
      · (simp only [h2, (vm1), (vm2), (vm3), (vm4), aDet, ev, tget, tput, ofC, ofC1, pureR, condR, abin, aun, alen, gslot, Nat.reduceEqDiff, reduceIte, argTs, asliceS, asliceL, bnd, boolV, intV, retQ, aRes, aResV, oneAV, AV.low, AV.low.lows, Nat.reduceAdd, isStringD, isSliceD, isBoolD, setRange, AV.cells, AV.isCell, AV.isAgg, abytes, aconv, aeq, isConst, isByteD, isIfaceD, endQ, Int.reduceToNat, Int.reduceLE, Int.reduceLT, Int.reduceEq, Int.reduceNe, Int.reduceAdd, Int.reduceSub, Int.reduceNeg, Nat.reduceLT, Nat.reduceLeDiff, Ent.ver, Ent.imm, Ent.ty, lits, isEl, newCells, aappend, Nat.reduceBEq, fill, undef, (st1), (st2), (st3), (st4), (st5), (st6), (st7), (st8)]; try simp (disch := omega) only [wrapI64, Int.toNat_natCast, ← Int.natCast_add, nat_add_one, nat_add_two, take_drop_all, List.drop_zero, Nat.sub_zero, Nat.add_sub_cancel_left])
        refine ⟨by omega, ?_⟩
        refine xWait.go (between_ok _ _ _ _) ?_
        cases h3 : btw 49 (l.getD 1 0).toNat 57 <;> (simp only [(vm1), (vm2), (vm3), (vm4), aDet, ev, tget, tput, ofC, ofC1, pureR, condR, abin, aun, alen, gslot, Nat.reduceEqDiff, reduceIte, argTs, asliceS, asliceL, bnd, boolV, intV, retQ, aRes, aResV, oneAV, AV.low, AV.low.lows, Nat.reduceAdd, isStringD, isSliceD, isBoolD, setRange, AV.cells, AV.isCell, AV.isAgg, abytes, aconv, aeq, isConst, isByteD, isIfaceD, endQ, Int.reduceToNat, Int.reduceLE, Int.reduceLT, Int.reduceEq, Int.reduceNe, Int.reduceAdd, Int.reduceSub, Int.reduceNeg, Nat.reduceLT, Nat.reduceLeDiff, Ent.ver, Ent.imm, Ent.ty, lits, isEl, newCells, aappend, Nat.reduceBEq, fill, undef, (st1), (st2), (st3), (st4), (st5), (st6), (st7), (st8)]; try simp (disch := omega) only [wrapI64, Int.toNat_natCast, ← Int.natCast_add, nat_add_one, nat_add_two, take_drop_all, List.drop_zero, Nat.sub_zero, Nat.add_sub_cancel_left])
        · have : negN l = 0 := by
            have : negB l = false := by simp only [negB, h3, Bool.and_false]
            simp [negN, this]
          rw [this]; rfl
        · have : negN l = 1 := by
            have : negB l = true := by simp only [negB, h1, h2, h3, decide_true, Bool.and_self]
            simp [negN, this]
          rw [this]; rfl
      · (simp only [h2, (vm1), (vm2), (vm3), (vm4), aDet, ev, tget, tput, ofC, ofC1, pureR, condR, abin, aun, alen, gslot, Nat.reduceEqDiff, reduceIte, argTs, asliceS, asliceL, bnd, boolV, intV, retQ, aRes, aResV, oneAV, AV.low, AV.low.lows, Nat.reduceAdd, isStringD, isSliceD, isBoolD, setRange, AV.cells, AV.isCell, AV.isAgg, abytes, aconv, aeq, isConst, isByteD, isIfaceD, endQ, Int.reduceToNat, Int.reduceLE, Int.reduceLT, Int.reduceEq, Int.reduceNe, Int.reduceAdd, Int.reduceSub, Int.reduceNeg, Nat.reduceLT, Nat.reduceLeDiff, Ent.ver, Ent.imm, Ent.ty, lits, isEl, newCells, aappend, Nat.reduceBEq, fill, undef, (st1), (st2), (st3), (st4), (st5), (st6), (st7), (st8)]; try simp (disch := omega) only [wrapI64, Int.toNat_natCast, ← Int.natCast_add, nat_add_one, nat_add_two, take_drop_all, List.drop_zero, Nat.sub_zero, Nat.add_sub_cancel_left])
        have : negN l = 0 := by
          have : negB l = false := by simp only [negB, h2, decide_false, Bool.false_and, Bool.and_false]
          simp [negN, this]
        rw [this]; rfl
    · (simp only [h1, (vm1), (vm2), (vm3), (vm4), aDet, ev, tget, tput, ofC, ofC1, pureR, condR, abin, aun, alen, gslot, Nat.reduceEqDiff, reduceIte, argTs, asliceS, asliceL, bnd, boolV, intV, retQ, aRes, aResV, oneAV, AV.low, AV.low.lows, Nat.reduceAdd, isStringD, isSliceD, isBoolD, setRange, AV.cells, AV.isCell, AV.isAgg, abytes, aconv, aeq, isConst, isByteD, isIfaceD, endQ, Int.reduceToNat, Int.reduceLE, Int.reduceLT, Int.reduceEq, Int.reduceNe, Int.reduceAdd, Int.reduceSub, Int.reduceNeg, Nat.reduceLT, Nat.reduceLeDiff, Ent.ver, Ent.imm, Ent.ty, lits, isEl, newCells, aappend, Nat.reduceBEq, fill, undef, (st1), (st2), (st3), (st4), (st5), (st6), (st7), (st8)]; try simp (disch := omega) only [wrapI64, Int.toNat_natCast, ← Int.natCast_add, nat_add_one, nat_add_two, take_drop_all, List.drop_zero, Nat.sub_zero, Nat.add_sub_cancel_left])
      have : negN l = 0 := by
        have : negB l = false := by simp only [negB, h1, decide_false, Bool.false_and, Bool.and_false]
        simp [negN, this]
      rw [this]; rfl
end Go.D

/- Key words; signs. -/
set_option linter.unusedVariables false
set_option linter.unusedSimpArgs false
set_option maxRecDepth 100000
namespace Go.D
open Go Go.Vm Go.Proofs Go.RowKit

theorem fields_keys : Lib.fields keysText = keys := by kernel_rfl
theorem fields_signs : Lib.fields signsText = signs := by kernel_rfl
/-- A text cut at each space. -/
def spl : List UInt8 → List (List UInt8)
  | [] => [[]]
  | b :: l => if b = 32 then [] :: spl l else match spl l with
    | p :: r => (b :: p) :: r
    | [] => [[b]]
theorem index_none : ∀ {s : List UInt8}, (32 : UInt8) ∉ s → Lib.index s [32] = -1
  | [], _ => rfl
  | b :: l, h => by
    have h1 : b ≠ 32 := fun e => h (by simp [e])
    have h2 : (32 : UInt8) ∉ l := fun e => h (by simp [e])
    unfold Lib.index
    rw [index_none h2]
    simp [List.isPrefixOf, Ne.symm h1]
theorem index_some : ∀ {s : List UInt8}, (32 : UInt8) ∈ s → 0 ≤ Lib.index s [32]
  | [], h => by simp at h
  | b :: l, h => by
    unfold Lib.index
    by_cases h1 : b = 32
    · simp [List.isPrefixOf, h1]
    · have h2 : (32 : UInt8) ∈ l := by rcases List.mem_cons.1 h with e | e; exact absurd e.symm h1; exact e
      have := index_some h2
      have h3 : ¬ Lib.index l [32] = -1 := by omega
      simp [List.isPrefixOf, Ne.symm h1, h3]
      omega
theorem splitK_spl : ∀ s : List UInt8, Lib.splitK [32] 0 (s.count 32) s = spl s
  | [] => rfl
  | b :: l => by
    have ih := splitK_spl l
    by_cases h1 : b = 32
    · subst h1
      rw [List.count_cons_self, Lib.splitK, spl, if_pos rfl, ← ih]
      have : Lib.index (32 :: l) [32] = 0 := by unfold Lib.index; simp [List.isPrefixOf]
      simp [this]
    · rw [List.count_cons_of_ne h1, spl, if_neg h1]
      cases hc : l.count 32 with
      | zero => rw [hc] at ih; rw [← ih]; rfl
      | succ k =>
        have hm : (32 : UInt8) ∈ l := List.count_pos_iff.1 (by omega)
        have h0 := index_some hm
        have h3 : ¬ Lib.index l [32] = -1 := by omega
        have hi : Lib.index (b :: l) [32] = Lib.index l [32] + 1 := by
          conv => lhs; unfold Lib.index
          simp [List.isPrefixOf, Ne.symm h1, h3]
        have h4 : ¬ Lib.index l [32] + 1 = -1 := by omega
        have h5 : (Lib.index l [32] + 1).toNat = (Lib.index l [32]).toNat + 1 := by omega
        rw [hc, Lib.splitK] at ih
        rw [Lib.splitK, hi]
        simp only [beq_iff_eq, h3, h4, if_false, h5, List.length_cons, List.length_nil, Nat.add_zero] at ih ⊢
        rw [← ih]
        simp
theorem spl_keys : spl keysText = keys := by kernel_rfl
theorem split_keys : (Lib.splitB ⟨#[32]⟩ 0 (Lib.countB ⟨⟨keysText⟩⟩ ⟨#[32]⟩) ⟨⟨keysText⟩⟩).map (fun b => b.data.toList) = keys := by
  rw [Lib.splitB_data, ← spl_keys, ← splitK_spl]
  have : Lib.countB ⟨⟨keysText⟩⟩ ⟨#[32]⟩ = keysText.count 32 := Lib.count_one 32 keysText
  rw [this]
theorem ascii_keys : ∀ (j : Nat) b, keysText[j]? = some b → b.toNat < 128 := fun j b h => by
  have : keysText.all (fun b => decide (b.toNat < 128)) = true := by kernel_rfl
  simpa using List.all_eq_true.1 this b (List.mem_of_getElem? h)
theorem ascii_signs : ∀ (j : Nat) b, signsText[j]? = some b → b.toNat < 128 := fun j b h => by
  have : signsText.all (fun b => decide (b.toNat < 128)) = true := by kernel_rfl
  simpa using List.all_eq_true.1 this b (List.mem_of_getElem? h)

theorem isKey_ok (l : List UInt8) (hl : l.length ≤ 1099511627776) (σ : List Ent) : ACalls E 162 [.str l] σ fun r τ => r = boolV (decide (l ∈ keys)) ∧ τ = σ := by
  refine xacalls T0 .drop [] Tryz.func162 rfl (by kernel_rfl) (by kernel_rfl) (by simp [Tryz.ntmps162]) ?_
  (simp only [(vm1), (vm2), (vm3), (vm4), aDet, ev, tget, tput, ofC, ofC1, pureR, condR, abin, aun, alen, gslot, Nat.reduceEqDiff, reduceIte, argTs, asliceS, asliceL, bnd, boolV, intV, retQ, aRes, aResV, oneAV, AV.low, AV.low.lows, Nat.reduceAdd, isStringD, isSliceD, isBoolD, setRange, AV.cells, AV.isCell, AV.isAgg, abytes, aconv, aeq, isConst, isByteD, isIfaceD, endQ, Int.reduceToNat, Int.reduceLE, Int.reduceLT, Int.reduceEq, Int.reduceNe, Int.reduceAdd, Int.reduceSub, Int.reduceNeg, Nat.reduceLT, Nat.reduceLeDiff, Ent.ver, Ent.imm, Ent.ty, lits, isEl, newCells, aappend, Nat.reduceBEq, fill, undef, (st1), (st2), (st3), (st4), (st5), (st6), (st7), (st8)]; try simp (disch := omega) only [wrapI64, Int.toNat_natCast, ← Int.natCast_add, nat_add_one, nat_add_two, take_drop_all, List.drop_zero, Nat.sub_zero, Nat.add_sub_cancel_left])
  refine xWait.go (Fields_ok keysText σ (by decide) ascii_keys) ?_
  rw [fields_keys]
  (simp only [(vm1), (vm2), (vm3), (vm4), aDet, ev, tget, tput, ofC, ofC1, pureR, condR, abin, aun, alen, gslot, Nat.reduceEqDiff, reduceIte, argTs, asliceS, asliceL, bnd, boolV, intV, retQ, aRes, aResV, oneAV, AV.low, AV.low.lows, Nat.reduceAdd, isStringD, isSliceD, isBoolD, setRange, AV.cells, AV.isCell, AV.isAgg, abytes, aconv, aeq, isConst, isByteD, isIfaceD, endQ, Int.reduceToNat, Int.reduceLE, Int.reduceLT, Int.reduceEq, Int.reduceNe, Int.reduceAdd, Int.reduceSub, Int.reduceNeg, Nat.reduceLT, Nat.reduceLeDiff, Ent.ver, Ent.imm, Ent.ty, lits, isEl, newCells, aappend, Nat.reduceBEq, fill, undef, (st1), (st2), (st3), (st4), (st5), (st6), (st7), (st8)]; try simp (disch := omega) only [wrapI64, Int.toNat_natCast, ← Int.natCast_add, nat_add_one, nat_add_two, take_drop_all, List.drop_zero, Nat.sub_zero, Nat.add_sub_cancel_left])
  refine xWait.go (slicesContains_ok keys l σ (by decide)) ?_
  (simp only [(vm1), (vm2), (vm3), (vm4), aDet, ev, tget, tput, ofC, ofC1, pureR, condR, abin, aun, alen, gslot, Nat.reduceEqDiff, reduceIte, argTs, asliceS, asliceL, bnd, boolV, intV, retQ, aRes, aResV, oneAV, AV.low, AV.low.lows, Nat.reduceAdd, isStringD, isSliceD, isBoolD, setRange, AV.cells, AV.isCell, AV.isAgg, abytes, aconv, aeq, isConst, isByteD, isIfaceD, endQ, Int.reduceToNat, Int.reduceLE, Int.reduceLT, Int.reduceEq, Int.reduceNe, Int.reduceAdd, Int.reduceSub, Int.reduceNeg, Nat.reduceLT, Nat.reduceLeDiff, Ent.ver, Ent.imm, Ent.ty, lits, isEl, newCells, aappend, Nat.reduceBEq, fill, undef, (st1), (st2), (st3), (st4), (st5), (st6), (st7), (st8)]; try simp (disch := omega) only [wrapI64, Int.toNat_natCast, ← Int.natCast_add, nat_add_one, nat_add_two, take_drop_all, List.drop_zero, Nat.sub_zero, Nat.add_sub_cancel_left])

theorem splitKeys_ok (σ : List Ent) : ACalls E 206 [.str keysText, .str [32]] σ fun r τ => r = .sl (keys.map .str) ∧ τ = σ := by
  refine acalls_lib ⟨_, Tryz.func206, by kernel_rfl, by kernel_rfl⟩ fun s vs hI hΓ hr => ?_
  obtain ⟨v, w, rfl, hv, hw⟩ := repL2 hr
  rw [rep_str hv, rep_str hw]
  obtain ⟨m, hm⟩ := hΓ.2.1
  refine (Tryz.strings_Split ⟨⟨keysText⟩⟩ ⟨⟨[32]⟩⟩ m s.w (by decide) hm (by decide)).mono fun e w' ⟨h1, h2⟩ => ⟨_, h1, by rw [h2]; exact below_alloc _ _, ?_⟩
  have hk := split_keys
  have hm2 : ∀ bs : List ByteArray, bs.map Value.string = (bs.map fun b => b.data.toList).map fun l => Value.string ⟨⟨l⟩⟩ := fun bs => by simp
  have hlen : Lib.countB ⟨⟨keysText⟩⟩ ⟨⟨[32]⟩⟩ + 1 = keys.length := by
    have : Lib.countB ⟨⟨keysText⟩⟩ ⟨#[32]⟩ = keysText.count 32 := Lib.count_one 32 keysText
    rw [this]; decide
  rw [h2, hm2, hlen]
  have := rep_mk_strs hI keys 9
  rw [← hk] at this ⊢
  exact this

theorem getD_str {ss : List (List UInt8)} {i : Nat} (h : i < ss.length) : (ss.map AV.str).getD i .un = .str (ss.getD i []) := by
  simp [List.getD, h]

theorem IsKey_ok (l : List UInt8) (hl : l.length ≤ 1099511627776) (σ : List Ent) : ACalls E 197 [.str l] σ fun r τ => r = boolV (decide (l ∈ keys)) ∧ τ = σ := by
  refine xacalls T0 .drop [] Tryz.func197 rfl (by kernel_rfl) (by kernel_rfl) (by simp [Tryz.ntmps197]) ?_
  (simp only [(vm1), (vm2), (vm3), (vm4), aDet, ev, tget, tput, ofC, ofC1, pureR, condR, abin, aun, alen, gslot, Nat.reduceEqDiff, reduceIte, argTs, asliceS, asliceL, bnd, boolV, intV, retQ, aRes, aResV, oneAV, AV.low, AV.low.lows, Nat.reduceAdd, isStringD, isSliceD, isBoolD, setRange, AV.cells, AV.isCell, AV.isAgg, abytes, aconv, aeq, isConst, isByteD, isIfaceD, endQ, Int.reduceToNat, Int.reduceLE, Int.reduceLT, Int.reduceEq, Int.reduceNe, Int.reduceAdd, Int.reduceSub, Int.reduceNeg, Nat.reduceLT, Nat.reduceLeDiff, Ent.ver, Ent.imm, Ent.ty, lits, isEl, newCells, aappend, Nat.reduceBEq, fill, undef, (st1), (st2), (st3), (st4), (st5), (st6), (st7), (st8)]; try simp (disch := omega) only [wrapI64, Int.toNat_natCast, ← Int.natCast_add, nat_add_one, nat_add_two, take_drop_all, List.drop_zero, Nat.sub_zero, Nat.add_sub_cancel_left])
  refine xWait.go (splitKeys_ok σ) ?_
  have hk : keys.length < 1000 := by decide
  (simp only [(vm1), (vm2), (vm3), (vm4), aDet, ev, tget, tput, ofC, ofC1, pureR, condR, abin, aun, alen, gslot, Nat.reduceEqDiff, reduceIte, argTs, asliceS, asliceL, bnd, boolV, intV, retQ, aRes, aResV, oneAV, AV.low, AV.low.lows, Nat.reduceAdd, isStringD, isSliceD, isBoolD, setRange, AV.cells, AV.isCell, AV.isAgg, abytes, aconv, aeq, isConst, isByteD, isIfaceD, endQ, Int.reduceToNat, Int.reduceLE, Int.reduceLT, Int.reduceEq, Int.reduceNe, Int.reduceAdd, Int.reduceSub, Int.reduceNeg, Nat.reduceLT, Nat.reduceLeDiff, Ent.ver, Ent.imm, Ent.ty, lits, isEl, newCells, aappend, Nat.reduceBEq, fill, undef, (st1), (st2), (st3), (st4), (st5), (st6), (st7), (st8)]; try simp (disch := omega) only [wrapI64, Int.toNat_natCast, ← Int.natCast_add, nat_add_one, nat_add_two, take_drop_all, List.drop_zero, Nat.sub_zero, Nat.add_sub_cancel_left])
  refine xloop (α := Nat) T0 (fun i => [(0, .str l), (3, .sl (keys.map .str)), (4, i64 i)]) (fun _ => σ) (fun _ => []) (fun i => i ≤ keys.length ∧ l ∉ keys.take i) (fun i => keys.length - i) (by kernel_rfl) ⟨0, by simp, by (simp only [(vm1), (vm2), (vm3), (vm4), aDet, ev, tget, tput, ofC, ofC1, pureR, condR, abin, aun, alen, gslot, Nat.reduceEqDiff, reduceIte, argTs, asliceS, asliceL, bnd, boolV, intV, retQ, aRes, aResV, oneAV, AV.low, AV.low.lows, Nat.reduceAdd, isStringD, isSliceD, isBoolD, setRange, AV.cells, AV.isCell, AV.isAgg, abytes, aconv, aeq, isConst, isByteD, isIfaceD, endQ, Int.reduceToNat, Int.reduceLE, Int.reduceLT, Int.reduceEq, Int.reduceNe, Int.reduceAdd, Int.reduceSub, Int.reduceNeg, Nat.reduceLT, Nat.reduceLeDiff, Ent.ver, Ent.imm, Ent.ty, lits, isEl, newCells, aappend, Nat.reduceBEq, fill, undef, (st1), (st2), (st3), (st4), (st5), (st6), (st7), (st8), Int.natCast_zero]; try simp (disch := omega) only [wrapI64, Int.toNat_natCast, ← Int.natCast_add, nat_add_one, nat_add_two, take_drop_all, List.drop_zero, Nat.sub_zero, Nat.add_sub_cancel_left]), rfl, rfl⟩ ?_
  rintro i ⟨hi, hall⟩
  by_cases h : (i : Int) < keys.length
  · have hlt : i < keys.length := by omega
    (simp only [h, (vm1), (vm2), (vm3), (vm4), aDet, ev, tget, tput, ofC, ofC1, pureR, condR, abin, aun, alen, gslot, Nat.reduceEqDiff, reduceIte, argTs, asliceS, asliceL, bnd, boolV, intV, retQ, aRes, aResV, oneAV, AV.low, AV.low.lows, Nat.reduceAdd, isStringD, isSliceD, isBoolD, setRange, AV.cells, AV.isCell, AV.isAgg, abytes, aconv, aeq, isConst, isByteD, isIfaceD, endQ, Int.reduceToNat, Int.reduceLE, Int.reduceLT, Int.reduceEq, Int.reduceNe, Int.reduceAdd, Int.reduceSub, Int.reduceNeg, Nat.reduceLT, Nat.reduceLeDiff, Ent.ver, Ent.imm, Ent.ty, lits, isEl, newCells, aappend, Nat.reduceBEq, fill, undef, (st1), (st2), (st3), (st4), (st5), (st6), (st7), (st8), List.length_map, isEl, getD_str hlt]; try simp (disch := omega) only [wrapI64, Int.toNat_natCast, ← Int.natCast_add, nat_add_one, nat_add_two, take_drop_all, List.drop_zero, Nat.sub_zero, Nat.add_sub_cancel_left])
    by_cases h2 : keys.getD i [] = l
    · (simp only [h2, (vm1), (vm2), (vm3), (vm4), aDet, ev, tget, tput, ofC, ofC1, pureR, condR, abin, aun, alen, gslot, Nat.reduceEqDiff, reduceIte, argTs, asliceS, asliceL, bnd, boolV, intV, retQ, aRes, aResV, oneAV, AV.low, AV.low.lows, Nat.reduceAdd, isStringD, isSliceD, isBoolD, setRange, AV.cells, AV.isCell, AV.isAgg, abytes, aconv, aeq, isConst, isByteD, isIfaceD, endQ, Int.reduceToNat, Int.reduceLE, Int.reduceLT, Int.reduceEq, Int.reduceNe, Int.reduceAdd, Int.reduceSub, Int.reduceNeg, Nat.reduceLT, Nat.reduceLeDiff, Ent.ver, Ent.imm, Ent.ty, lits, isEl, newCells, aappend, Nat.reduceBEq, fill, undef, (st1), (st2), (st3), (st4), (st5), (st6), (st7), (st8)]; try simp (disch := omega) only [wrapI64, Int.toNat_natCast, ← Int.natCast_add, nat_add_one, nat_add_two, take_drop_all, List.drop_zero, Nat.sub_zero, Nat.add_sub_cancel_left])
      have : l ∈ keys := by rw [← h2]; simp [hlt]
      simp [this]
    · (simp only [h2, (vm1), (vm2), (vm3), (vm4), aDet, ev, tget, tput, ofC, ofC1, pureR, condR, abin, aun, alen, gslot, Nat.reduceEqDiff, reduceIte, argTs, asliceS, asliceL, bnd, boolV, intV, retQ, aRes, aResV, oneAV, AV.low, AV.low.lows, Nat.reduceAdd, isStringD, isSliceD, isBoolD, setRange, AV.cells, AV.isCell, AV.isAgg, abytes, aconv, aeq, isConst, isByteD, isIfaceD, endQ, Int.reduceToNat, Int.reduceLE, Int.reduceLT, Int.reduceEq, Int.reduceNe, Int.reduceAdd, Int.reduceSub, Int.reduceNeg, Nat.reduceLT, Nat.reduceLeDiff, Ent.ver, Ent.imm, Ent.ty, lits, isEl, newCells, aappend, Nat.reduceBEq, fill, undef, (st1), (st2), (st3), (st4), (st5), (st6), (st7), (st8)]; try simp (disch := omega) only [wrapI64, Int.toNat_natCast, ← Int.natCast_add, nat_add_one, nat_add_two, take_drop_all, List.drop_zero, Nat.sub_zero, Nat.add_sub_cancel_left])
      refine ⟨i + 1, ⟨by omega, fun hm => ?_⟩, by omega, rfl⟩
      rw [List.take_add_one, List.mem_append] at hm
      rcases hm with hm | hm
      · exact hall hm
      · simp [hlt] at hm; exact h2 (by simp [hlt, hm])
  · (simp only [h, (vm1), (vm2), (vm3), (vm4), aDet, ev, tget, tput, ofC, ofC1, pureR, condR, abin, aun, alen, gslot, Nat.reduceEqDiff, reduceIte, argTs, asliceS, asliceL, bnd, boolV, intV, retQ, aRes, aResV, oneAV, AV.low, AV.low.lows, Nat.reduceAdd, isStringD, isSliceD, isBoolD, setRange, AV.cells, AV.isCell, AV.isAgg, abytes, aconv, aeq, isConst, isByteD, isIfaceD, endQ, Int.reduceToNat, Int.reduceLE, Int.reduceLT, Int.reduceEq, Int.reduceNe, Int.reduceAdd, Int.reduceSub, Int.reduceNeg, Nat.reduceLT, Nat.reduceLeDiff, Ent.ver, Ent.imm, Ent.ty, lits, isEl, newCells, aappend, Nat.reduceBEq, fill, undef, (st1), (st2), (st3), (st4), (st5), (st6), (st7), (st8), List.length_map]; try simp (disch := omega) only [wrapI64, Int.toNat_natCast, ← Int.natCast_add, nat_add_one, nat_add_two, take_drop_all, List.drop_zero, Nat.sub_zero, Nat.add_sub_cancel_left])
    rw [List.take_of_length_le (by omega)] at hall
    simp [hall]
end Go.D

/- Long names; texts; comments; numbers. -/
set_option linter.unusedVariables false
set_option linter.unusedSimpArgs false
set_option maxRecDepth 100000
namespace Go.D
open Go Go.Vm Go.Proofs Go.RowKit

theorem long_ok (l : List UInt8) (hl : l.length ≤ 1099511627776) (σ : List Ent) : ACalls E 143 [.str l] σ fun r τ => r = .tup [i64 (long true l).1, .str (long true l).2] ∧ τ = σ := by
  refine xacalls T0 .drop [] Tryz.func143 rfl (by kernel_rfl) (by kernel_rfl) (by simp [Tryz.ntmps143]) ?_
  (simp only [(vm1), (vm2), (vm3), (vm4), aDet, ev, tget, tput, ofC, ofC1, pureR, condR, abin, aun, alen, gslot, Nat.reduceEqDiff, reduceIte, argTs, asliceS, asliceL, bnd, boolV, intV, retQ, aRes, aResV, oneAV, AV.low, AV.low.lows, Nat.reduceAdd, isStringD, isSliceD, isBoolD, setRange, AV.cells, AV.isCell, AV.isAgg, abytes, aconv, aeq, isConst, isByteD, isIfaceD, endQ, Int.reduceToNat, Int.reduceLE, Int.reduceLT, Int.reduceEq, Int.reduceNe, Int.reduceAdd, Int.reduceSub, Int.reduceNeg, Nat.reduceLT, Nat.reduceLeDiff, Ent.ver, Ent.imm, Ent.ty, lits, isEl, newCells, aappend, Nat.reduceBEq, fill, undef, (st1), (st2), (st3), (st4), (st5), (st6), (st7), (st8)]; try simp (disch := omega) only [wrapI64, Int.toNat_natCast, ← Int.natCast_add, nat_add_one, nat_add_two, take_drop_all, List.drop_zero, Nat.sub_zero, Nat.add_sub_cancel_left])
  refine xloop (α := Nat) T0 (fun i => [(0, .str l), (4, i64 i)]) (fun _ => σ) (fun _ => []) (fun i => i ≤ l.length ∧ long true l = if (long (decide (i = 0)) (l.drop i)).2 = [] then (0, []) else (i + (long (decide (i = 0)) (l.drop i)).1, (long (decide (i = 0)) (l.drop i)).2)) (fun i => l.length - i) (by kernel_rfl)
    ⟨0, ⟨by omega, ?_⟩, by (simp only [(vm1), (vm2), (vm3), (vm4), aDet, ev, tget, tput, ofC, ofC1, pureR, condR, abin, aun, alen, gslot, Nat.reduceEqDiff, reduceIte, argTs, asliceS, asliceL, bnd, boolV, intV, retQ, aRes, aResV, oneAV, AV.low, AV.low.lows, Nat.reduceAdd, isStringD, isSliceD, isBoolD, setRange, AV.cells, AV.isCell, AV.isAgg, abytes, aconv, aeq, isConst, isByteD, isIfaceD, endQ, Int.reduceToNat, Int.reduceLE, Int.reduceLT, Int.reduceEq, Int.reduceNe, Int.reduceAdd, Int.reduceSub, Int.reduceNeg, Nat.reduceLT, Nat.reduceLeDiff, Ent.ver, Ent.imm, Ent.ty, lits, isEl, newCells, aappend, Nat.reduceBEq, fill, undef, (st1), (st2), (st3), (st4), (st5), (st6), (st7), (st8), Int.natCast_zero]; try simp (disch := omega) only [wrapI64, Int.toNat_natCast, ← Int.natCast_add, nat_add_one, nat_add_two, take_drop_all, List.drop_zero, Nat.sub_zero, Nat.add_sub_cancel_left]), rfl, rfl⟩ ?_
  · simp only [decide_true, List.drop_zero, Nat.zero_add]
    split
    · rename_i h; exact long_none _ _ h
    · rfl
  generalize long true l = R
  rintro i ⟨hi, hall⟩
  have hdl : (l.drop i).length = l.length - i := List.length_drop
  have hg : ∀ j, (l.drop i).getD j 0 = l.getD (i + j) 0 := fun j => by simp [List.getD]
  by_cases h : (i : Int) < l.length
  · (simp only [h, (vm1), (vm2), (vm3), (vm4), aDet, ev, tget, tput, ofC, ofC1, pureR, condR, abin, aun, alen, gslot, Nat.reduceEqDiff, reduceIte, argTs, asliceS, asliceL, bnd, boolV, intV, retQ, aRes, aResV, oneAV, AV.low, AV.low.lows, Nat.reduceAdd, isStringD, isSliceD, isBoolD, setRange, AV.cells, AV.isCell, AV.isAgg, abytes, aconv, aeq, isConst, isByteD, isIfaceD, endQ, Int.reduceToNat, Int.reduceLE, Int.reduceLT, Int.reduceEq, Int.reduceNe, Int.reduceAdd, Int.reduceSub, Int.reduceNeg, Nat.reduceLT, Nat.reduceLeDiff, Ent.ver, Ent.imm, Ent.ty, lits, isEl, newCells, aappend, Nat.reduceBEq, fill, undef, (st1), (st2), (st3), (st4), (st5), (st6), (st7), (st8)]; try simp (disch := omega) only [wrapI64, Int.toNat_natCast, ← Int.natCast_add, nat_add_one, nat_add_two, take_drop_all, List.drop_zero, Nat.sub_zero, Nat.add_sub_cancel_left])
    refine ⟨by omega, ?_⟩
    refine xWait.go (word_ok _ (by omega) _) ?_
    have hw := word_le (l.drop i)
    have e := long.eq_def (decide (i = 0)) (l.drop i)
    rw [if_neg (by omega), hg, hg, Nat.add_zero, hdl] at e
    (simp only [(vm1), (vm2), (vm3), (vm4), aDet, ev, tget, tput, ofC, ofC1, pureR, condR, abin, aun, alen, gslot, Nat.reduceEqDiff, reduceIte, argTs, asliceS, asliceL, bnd, boolV, intV, retQ, aRes, aResV, oneAV, AV.low, AV.low.lows, Nat.reduceAdd, isStringD, isSliceD, isBoolD, setRange, AV.cells, AV.isCell, AV.isAgg, abytes, aconv, aeq, isConst, isByteD, isIfaceD, endQ, Int.reduceToNat, Int.reduceLE, Int.reduceLT, Int.reduceEq, Int.reduceNe, Int.reduceAdd, Int.reduceSub, Int.reduceNeg, Nat.reduceLT, Nat.reduceLeDiff, Ent.ver, Ent.imm, Ent.ty, lits, isEl, newCells, aappend, Nat.reduceBEq, fill, undef, (st1), (st2), (st3), (st4), (st5), (st6), (st7), (st8)]; try simp (disch := omega) only [wrapI64, Int.toNat_natCast, ← Int.natCast_add, nat_add_one, nat_add_two, take_drop_all, List.drop_zero, Nat.sub_zero, Nat.add_sub_cancel_left])
    refine ⟨by omega, ?_⟩
    refine xWait.go (between_ok _ _ _ _) ?_
    cases h1 : btw 97 (l.getD i 0).toNat 122
    · rw [if_neg (by rw [h1]; simp)] at e
      (simp only [(vm1), (vm2), (vm3), (vm4), aDet, ev, tget, tput, ofC, ofC1, pureR, condR, abin, aun, alen, gslot, Nat.reduceEqDiff, reduceIte, argTs, asliceS, asliceL, bnd, boolV, intV, retQ, aRes, aResV, oneAV, AV.low, AV.low.lows, Nat.reduceAdd, isStringD, isSliceD, isBoolD, setRange, AV.cells, AV.isCell, AV.isAgg, abytes, aconv, aeq, isConst, isByteD, isIfaceD, endQ, Int.reduceToNat, Int.reduceLE, Int.reduceLT, Int.reduceEq, Int.reduceNe, Int.reduceAdd, Int.reduceSub, Int.reduceNeg, Nat.reduceLT, Nat.reduceLeDiff, Ent.ver, Ent.imm, Ent.ty, lits, isEl, newCells, aappend, Nat.reduceBEq, fill, undef, (st1), (st2), (st3), (st4), (st5), (st6), (st7), (st8)]; try simp (disch := omega) only [wrapI64, Int.toNat_natCast, ← Int.natCast_add, nat_add_one, nat_add_two, take_drop_all, List.drop_zero, Nat.sub_zero, Nat.add_sub_cancel_left])
      refine ⟨by omega, ?_⟩
      refine xWait.go (between_ok _ _ _ _) ?_
      cases h2 : btw 65 (l.getD i 0).toNat 90
      · rw [if_neg (by rw [h2]; simp)] at e
        rw [e] at hall
        (simp only [(vm1), (vm2), (vm3), (vm4), aDet, ev, tget, tput, ofC, ofC1, pureR, condR, abin, aun, alen, gslot, Nat.reduceEqDiff, reduceIte, argTs, asliceS, asliceL, bnd, boolV, intV, retQ, aRes, aResV, oneAV, AV.low, AV.low.lows, Nat.reduceAdd, isStringD, isSliceD, isBoolD, setRange, AV.cells, AV.isCell, AV.isAgg, abytes, aconv, aeq, isConst, isByteD, isIfaceD, endQ, Int.reduceToNat, Int.reduceLE, Int.reduceLT, Int.reduceEq, Int.reduceNe, Int.reduceAdd, Int.reduceSub, Int.reduceNeg, Nat.reduceLT, Nat.reduceLeDiff, Ent.ver, Ent.imm, Ent.ty, lits, isEl, newCells, aappend, Nat.reduceBEq, fill, undef, (st1), (st2), (st3), (st4), (st5), (st6), (st7), (st8)]; try simp (disch := omega) only [wrapI64, Int.toNat_natCast, ← Int.natCast_add, nat_add_one, nat_add_two, take_drop_all, List.drop_zero, Nat.sub_zero, Nat.add_sub_cancel_left])
        rw [hall]; rfl
      · rw [if_pos h2] at e
        (simp only [(vm1), (vm2), (vm3), (vm4), aDet, ev, tget, tput, ofC, ofC1, pureR, condR, abin, aun, alen, gslot, Nat.reduceEqDiff, reduceIte, argTs, asliceS, asliceL, bnd, boolV, intV, retQ, aRes, aResV, oneAV, AV.low, AV.low.lows, Nat.reduceAdd, isStringD, isSliceD, isBoolD, setRange, AV.cells, AV.isCell, AV.isAgg, abytes, aconv, aeq, isConst, isByteD, isIfaceD, endQ, Int.reduceToNat, Int.reduceLE, Int.reduceLT, Int.reduceEq, Int.reduceNe, Int.reduceAdd, Int.reduceSub, Int.reduceNeg, Nat.reduceLT, Nat.reduceLeDiff, Ent.ver, Ent.imm, Ent.ty, lits, isEl, newCells, aappend, Nat.reduceBEq, fill, undef, (st1), (st2), (st3), (st4), (st5), (st6), (st7), (st8)]; try simp (disch := omega) only [wrapI64, Int.toNat_natCast, ← Int.natCast_add, nat_add_one, nat_add_two, take_drop_all, List.drop_zero, Nat.sub_zero, Nat.add_sub_cancel_left])
        by_cases h3 : ((i + word (l.drop i) : Nat) : Int) = l.length
        · rw [if_pos (.inl (by omega))] at e
          rw [e, if_neg (by simp [kCon])] at hall
          (simp only [h3, (vm1), (vm2), (vm3), (vm4), aDet, ev, tget, tput, ofC, ofC1, pureR, condR, abin, aun, alen, gslot, Nat.reduceEqDiff, reduceIte, argTs, asliceS, asliceL, bnd, boolV, intV, retQ, aRes, aResV, oneAV, AV.low, AV.low.lows, Nat.reduceAdd, isStringD, isSliceD, isBoolD, setRange, AV.cells, AV.isCell, AV.isAgg, abytes, aconv, aeq, isConst, isByteD, isIfaceD, endQ, Int.reduceToNat, Int.reduceLE, Int.reduceLT, Int.reduceEq, Int.reduceNe, Int.reduceAdd, Int.reduceSub, Int.reduceNeg, Nat.reduceLT, Nat.reduceLeDiff, Ent.ver, Ent.imm, Ent.ty, lits, isEl, newCells, aappend, Nat.reduceBEq, fill, undef, (st1), (st2), (st3), (st4), (st5), (st6), (st7), (st8)]; try simp (disch := omega) only [wrapI64, Int.toNat_natCast, ← Int.natCast_add, nat_add_one, nat_add_two, take_drop_all, List.drop_zero, Nat.sub_zero, Nat.add_sub_cancel_left])
          rw [hall, ← h3]; rfl
        · (simp only [h3, (vm1), (vm2), (vm3), (vm4), aDet, ev, tget, tput, ofC, ofC1, pureR, condR, abin, aun, alen, gslot, Nat.reduceEqDiff, reduceIte, argTs, asliceS, asliceL, bnd, boolV, intV, retQ, aRes, aResV, oneAV, AV.low, AV.low.lows, Nat.reduceAdd, isStringD, isSliceD, isBoolD, setRange, AV.cells, AV.isCell, AV.isAgg, abytes, aconv, aeq, isConst, isByteD, isIfaceD, endQ, Int.reduceToNat, Int.reduceLE, Int.reduceLT, Int.reduceEq, Int.reduceNe, Int.reduceAdd, Int.reduceSub, Int.reduceNeg, Nat.reduceLT, Nat.reduceLeDiff, Ent.ver, Ent.imm, Ent.ty, lits, isEl, newCells, aappend, Nat.reduceBEq, fill, undef, (st1), (st2), (st3), (st4), (st5), (st6), (st7), (st8)]; try simp (disch := omega) only [wrapI64, Int.toNat_natCast, ← Int.natCast_add, nat_add_one, nat_add_two, take_drop_all, List.drop_zero, Nat.sub_zero, Nat.add_sub_cancel_left])
          (simp only [(vm1), (vm2), (vm3), (vm4), aDet, ev, tget, tput, ofC, ofC1, pureR, condR, abin, aun, alen, gslot, Nat.reduceEqDiff, reduceIte, argTs, asliceS, asliceL, bnd, boolV, intV, retQ, aRes, aResV, oneAV, AV.low, AV.low.lows, Nat.reduceAdd, isStringD, isSliceD, isBoolD, setRange, AV.cells, AV.isCell, AV.isAgg, abytes, aconv, aeq, isConst, isByteD, isIfaceD, endQ, Int.reduceToNat, Int.reduceLE, Int.reduceLT, Int.reduceEq, Int.reduceNe, Int.reduceAdd, Int.reduceSub, Int.reduceNeg, Nat.reduceLT, Nat.reduceLeDiff, Ent.ver, Ent.imm, Ent.ty, lits, isEl, newCells, aappend, Nat.reduceBEq, fill, undef, (st1), (st2), (st3), (st4), (st5), (st6), (st7), (st8)]; try simp (disch := omega) only [wrapI64, Int.toNat_natCast, ← Int.natCast_add, nat_add_one, nat_add_two, take_drop_all, List.drop_zero, Nat.sub_zero, Nat.add_sub_cancel_left])
          refine ⟨by omega, ?_⟩
          by_cases h5 : ((l.getD (i + word (l.drop i)) 0).toNat : Int) = 46
          · rw [if_neg (by omega)] at e
            (simp only [h5, (vm1), (vm2), (vm3), (vm4), aDet, ev, tget, tput, ofC, ofC1, pureR, condR, abin, aun, alen, gslot, Nat.reduceEqDiff, reduceIte, argTs, asliceS, asliceL, bnd, boolV, intV, retQ, aRes, aResV, oneAV, AV.low, AV.low.lows, Nat.reduceAdd, isStringD, isSliceD, isBoolD, setRange, AV.cells, AV.isCell, AV.isAgg, abytes, aconv, aeq, isConst, isByteD, isIfaceD, endQ, Int.reduceToNat, Int.reduceLE, Int.reduceLT, Int.reduceEq, Int.reduceNe, Int.reduceAdd, Int.reduceSub, Int.reduceNeg, Nat.reduceLT, Nat.reduceLeDiff, Ent.ver, Ent.imm, Ent.ty, lits, isEl, newCells, aappend, Nat.reduceBEq, fill, undef, (st1), (st2), (st3), (st4), (st5), (st6), (st7), (st8)]; try simp (disch := omega) only [wrapI64, Int.toNat_natCast, ← Int.natCast_add, nat_add_one, nat_add_two, take_drop_all, List.drop_zero, Nat.sub_zero, Nat.add_sub_cancel_left])
            refine ⟨i + (word (l.drop i) + 1), ⟨by omega, ?_⟩, by omega, rfl⟩
            rw [e] at hall
            rw [hall, List.drop_drop]
            have : i + (word (l.drop i) + 1) ≠ 0 := by omega
            simp only [this, decide_false]
            by_cases h6 : (long false (l.drop (i + (word (l.drop i) + 1)))).2 = []
            · simp [h6]
            · simp [h6]; omega
          · rw [if_pos (.inr (by omega))] at e
            rw [e, if_neg (by simp [kCon])] at hall
            (simp only [h5, (vm1), (vm2), (vm3), (vm4), aDet, ev, tget, tput, ofC, ofC1, pureR, condR, abin, aun, alen, gslot, Nat.reduceEqDiff, reduceIte, argTs, asliceS, asliceL, bnd, boolV, intV, retQ, aRes, aResV, oneAV, AV.low, AV.low.lows, Nat.reduceAdd, isStringD, isSliceD, isBoolD, setRange, AV.cells, AV.isCell, AV.isAgg, abytes, aconv, aeq, isConst, isByteD, isIfaceD, endQ, Int.reduceToNat, Int.reduceLE, Int.reduceLT, Int.reduceEq, Int.reduceNe, Int.reduceAdd, Int.reduceSub, Int.reduceNeg, Nat.reduceLT, Nat.reduceLeDiff, Ent.ver, Ent.imm, Ent.ty, lits, isEl, newCells, aappend, Nat.reduceBEq, fill, undef, (st1), (st2), (st3), (st4), (st5), (st6), (st7), (st8)]; try simp (disch := omega) only [wrapI64, Int.toNat_natCast, ← Int.natCast_add, nat_add_one, nat_add_two, take_drop_all, List.drop_zero, Nat.sub_zero, Nat.add_sub_cancel_left])
            rw [hall]; rfl
    · rw [if_pos h1] at e
      (simp only [(vm1), (vm2), (vm3), (vm4), aDet, ev, tget, tput, ofC, ofC1, pureR, condR, abin, aun, alen, gslot, Nat.reduceEqDiff, reduceIte, argTs, asliceS, asliceL, bnd, boolV, intV, retQ, aRes, aResV, oneAV, AV.low, AV.low.lows, Nat.reduceAdd, isStringD, isSliceD, isBoolD, setRange, AV.cells, AV.isCell, AV.isAgg, abytes, aconv, aeq, isConst, isByteD, isIfaceD, endQ, Int.reduceToNat, Int.reduceLE, Int.reduceLT, Int.reduceEq, Int.reduceNe, Int.reduceAdd, Int.reduceSub, Int.reduceNeg, Nat.reduceLT, Nat.reduceLeDiff, Ent.ver, Ent.imm, Ent.ty, lits, isEl, newCells, aappend, Nat.reduceBEq, fill, undef, (st1), (st2), (st3), (st4), (st5), (st6), (st7), (st8)]; try simp (disch := omega) only [wrapI64, Int.toNat_natCast, ← Int.natCast_add, nat_add_one, nat_add_two, take_drop_all, List.drop_zero, Nat.sub_zero, Nat.add_sub_cancel_left])
      by_cases h3 : (i : Int) = 0
      · (simp only [h3, (vm1), (vm2), (vm3), (vm4), aDet, ev, tget, tput, ofC, ofC1, pureR, condR, abin, aun, alen, gslot, Nat.reduceEqDiff, reduceIte, argTs, asliceS, asliceL, bnd, boolV, intV, retQ, aRes, aResV, oneAV, AV.low, AV.low.lows, Nat.reduceAdd, isStringD, isSliceD, isBoolD, setRange, AV.cells, AV.isCell, AV.isAgg, abytes, aconv, aeq, isConst, isByteD, isIfaceD, endQ, Int.reduceToNat, Int.reduceLE, Int.reduceLT, Int.reduceEq, Int.reduceNe, Int.reduceAdd, Int.reduceSub, Int.reduceNeg, Nat.reduceLT, Nat.reduceLeDiff, Ent.ver, Ent.imm, Ent.ty, lits, isEl, newCells, aappend, Nat.reduceBEq, fill, undef, (st1), (st2), (st3), (st4), (st5), (st6), (st7), (st8)]; try simp (disch := omega) only [wrapI64, Int.toNat_natCast, ← Int.natCast_add, nat_add_one, nat_add_two, take_drop_all, List.drop_zero, Nat.sub_zero, Nat.add_sub_cancel_left])
        have hi0 : i = 0 := by omega
        subst hi0
        refine ⟨by omega, ?_⟩
        refine xWait.go (isKey_ok _ (by simp; omega) _) ?_
        simp only [List.drop_zero] at e hall hw
        by_cases h4 : l.take (word l) ∈ keys
        · rw [if_pos (by simpa using h4)] at e
          rw [e, if_neg (by simp [kKey])] at hall
          (simp only [h4, (vm1), (vm2), (vm3), (vm4), aDet, ev, tget, tput, ofC, ofC1, pureR, condR, abin, aun, alen, gslot, Nat.reduceEqDiff, reduceIte, argTs, asliceS, asliceL, bnd, boolV, intV, retQ, aRes, aResV, oneAV, AV.low, AV.low.lows, Nat.reduceAdd, isStringD, isSliceD, isBoolD, setRange, AV.cells, AV.isCell, AV.isAgg, abytes, aconv, aeq, isConst, isByteD, isIfaceD, endQ, Int.reduceToNat, Int.reduceLE, Int.reduceLT, Int.reduceEq, Int.reduceNe, Int.reduceAdd, Int.reduceSub, Int.reduceNeg, Nat.reduceLT, Nat.reduceLeDiff, Ent.ver, Ent.imm, Ent.ty, lits, isEl, newCells, aappend, Nat.reduceBEq, fill, undef, (st1), (st2), (st3), (st4), (st5), (st6), (st7), (st8)]; try simp (disch := omega) only [wrapI64, Int.toNat_natCast, ← Int.natCast_add, nat_add_one, nat_add_two, take_drop_all, List.drop_zero, Nat.sub_zero, Nat.add_sub_cancel_left])
          rw [hall, Nat.zero_add]; rfl
        · rw [if_neg (by simpa using h4)] at e
          rw [e, if_neg (by simp [kName])] at hall
          (simp only [h4, (vm1), (vm2), (vm3), (vm4), aDet, ev, tget, tput, ofC, ofC1, pureR, condR, abin, aun, alen, gslot, Nat.reduceEqDiff, reduceIte, argTs, asliceS, asliceL, bnd, boolV, intV, retQ, aRes, aResV, oneAV, AV.low, AV.low.lows, Nat.reduceAdd, isStringD, isSliceD, isBoolD, setRange, AV.cells, AV.isCell, AV.isAgg, abytes, aconv, aeq, isConst, isByteD, isIfaceD, endQ, Int.reduceToNat, Int.reduceLE, Int.reduceLT, Int.reduceEq, Int.reduceNe, Int.reduceAdd, Int.reduceSub, Int.reduceNeg, Nat.reduceLT, Nat.reduceLeDiff, Ent.ver, Ent.imm, Ent.ty, lits, isEl, newCells, aappend, Nat.reduceBEq, fill, undef, (st1), (st2), (st3), (st4), (st5), (st6), (st7), (st8)]; try simp (disch := omega) only [wrapI64, Int.toNat_natCast, ← Int.natCast_add, nat_add_one, nat_add_two, take_drop_all, List.drop_zero, Nat.sub_zero, Nat.add_sub_cancel_left])
          rw [hall, Nat.zero_add]; rfl
      · (simp only [h3, (vm1), (vm2), (vm3), (vm4), aDet, ev, tget, tput, ofC, ofC1, pureR, condR, abin, aun, alen, gslot, Nat.reduceEqDiff, reduceIte, argTs, asliceS, asliceL, bnd, boolV, intV, retQ, aRes, aResV, oneAV, AV.low, AV.low.lows, Nat.reduceAdd, isStringD, isSliceD, isBoolD, setRange, AV.cells, AV.isCell, AV.isAgg, abytes, aconv, aeq, isConst, isByteD, isIfaceD, endQ, Int.reduceToNat, Int.reduceLE, Int.reduceLT, Int.reduceEq, Int.reduceNe, Int.reduceAdd, Int.reduceSub, Int.reduceNeg, Nat.reduceLT, Nat.reduceLeDiff, Ent.ver, Ent.imm, Ent.ty, lits, isEl, newCells, aappend, Nat.reduceBEq, fill, undef, (st1), (st2), (st3), (st4), (st5), (st6), (st7), (st8)]; try simp (disch := omega) only [wrapI64, Int.toNat_natCast, ← Int.natCast_add, nat_add_one, nat_add_two, take_drop_all, List.drop_zero, Nat.sub_zero, Nat.add_sub_cancel_left])
        have : i ≠ 0 := by omega
        simp only [this, decide_false] at e hall
        rw [if_neg (by simp)] at e
        rw [e, if_neg (by simp [kName])] at hall
        rw [hall]; rfl
  · have : i = l.length := by omega
    (simp only [h, (vm1), (vm2), (vm3), (vm4), aDet, ev, tget, tput, ofC, ofC1, pureR, condR, abin, aun, alen, gslot, Nat.reduceEqDiff, reduceIte, argTs, asliceS, asliceL, bnd, boolV, intV, retQ, aRes, aResV, oneAV, AV.low, AV.low.lows, Nat.reduceAdd, isStringD, isSliceD, isBoolD, setRange, AV.cells, AV.isCell, AV.isAgg, abytes, aconv, aeq, isConst, isByteD, isIfaceD, endQ, Int.reduceToNat, Int.reduceLE, Int.reduceLT, Int.reduceEq, Int.reduceNe, Int.reduceAdd, Int.reduceSub, Int.reduceNeg, Nat.reduceLT, Nat.reduceLeDiff, Ent.ver, Ent.imm, Ent.ty, lits, isEl, newCells, aappend, Nat.reduceBEq, fill, undef, (st1), (st2), (st3), (st4), (st5), (st6), (st7), (st8)]; try simp (disch := omega) only [wrapI64, Int.toNat_natCast, ← Int.natCast_add, nat_add_one, nat_add_two, take_drop_all, List.drop_zero, Nat.sub_zero, Nat.add_sub_cancel_left])
    rw [this, List.drop_length, long] at hall
    simp at hall
    rw [hall]; rfl
end Go.D

/- Kinds of types, and how many nodes they may have. -/
set_option linter.unusedVariables false
set_option linter.unusedSimpArgs false
set_option maxRecDepth 100000
namespace Go.D
open Go Go.Vm Go.Proofs Go.RowKit

/-- Whether a text is a con's name, short or long. -/
def conB (t : List UInt8) : Bool := decide ((long true t).1 = t.length) && decide ((long true t).2 = kCon)

theorem IsCon_ok (t : List UInt8) (hl : t.length ≤ 1099511627776) (σ : List Ent) : ACalls E 93 [.str t] σ fun r τ => r = boolV (conB t) ∧ τ = σ := by
  refine xacalls T0 .drop [] Tryz.func93 rfl (by kernel_rfl) (by kernel_rfl) (by simp [Tryz.ntmps93]) ?_
  (simp only [(vm1), (vm2), (vm3), (vm4), aDet, ev, tget, tput, ofC, ofC1, pureR, condR, abin, aun, alen, gslot, Nat.reduceEqDiff, reduceIte, argTs, asliceS, asliceL, bnd, boolV, intV, retQ, aRes, aResV, oneAV, AV.low, AV.low.lows, Nat.reduceAdd, isStringD, isSliceD, isBoolD, setRange, AV.cells, AV.isCell, AV.isAgg, abytes, aconv, aeq, isConst, isByteD, isIfaceD, endQ, Int.reduceToNat, Int.reduceLE, Int.reduceLT, Int.reduceEq, Int.reduceNe, Int.reduceAdd, Int.reduceSub, Int.reduceNeg, Nat.reduceLT, Nat.reduceLeDiff, Ent.ver, Ent.imm, Ent.ty, lits, isEl, newCells, aappend, Nat.reduceBEq, fill, undef, (st1), (st2), (st3), (st4), (st5), (st6), (st7), (st8)]; try simp (disch := omega) only [wrapI64, Int.toNat_natCast, ← Int.natCast_add, nat_add_one, nat_add_two, take_drop_all, List.drop_zero, Nat.sub_zero, Nat.add_sub_cancel_left])
  suffices h : ACalls E 122 [.agg [.str kCon, .str t, i64 0]] σ fun r τ => r = boolV (conB t) ∧ τ = σ by
    refine xWait.go h ?_
    (simp only [(vm1), (vm2), (vm3), (vm4), aDet, ev, tget, tput, ofC, ofC1, pureR, condR, abin, aun, alen, gslot, Nat.reduceEqDiff, reduceIte, argTs, asliceS, asliceL, bnd, boolV, intV, retQ, aRes, aResV, oneAV, AV.low, AV.low.lows, Nat.reduceAdd, isStringD, isSliceD, isBoolD, setRange, AV.cells, AV.isCell, AV.isAgg, abytes, aconv, aeq, isConst, isByteD, isIfaceD, endQ, Int.reduceToNat, Int.reduceLE, Int.reduceLT, Int.reduceEq, Int.reduceNe, Int.reduceAdd, Int.reduceSub, Int.reduceNeg, Nat.reduceLT, Nat.reduceLeDiff, Ent.ver, Ent.imm, Ent.ty, lits, isEl, newCells, aappend, Nat.reduceBEq, fill, undef, (st1), (st2), (st3), (st4), (st5), (st6), (st7), (st8)]; try simp (disch := omega) only [wrapI64, Int.toNat_natCast, ← Int.natCast_add, nat_add_one, nat_add_two, take_drop_all, List.drop_zero, Nat.sub_zero, Nat.add_sub_cancel_left])
  refine xacalls T0 .drop [] Tryz.func122 rfl (by kernel_rfl) (by kernel_rfl) (by simp [Tryz.ntmps122]) ?_
  have n1 : ¬ ([99, 111, 110] : List UInt8) = [110, 97, 109, 101] := by decide
  (simp only [kCon, n1, (vm1), (vm2), (vm3), (vm4), aDet, ev, tget, tput, ofC, ofC1, pureR, condR, abin, aun, alen, gslot, Nat.reduceEqDiff, reduceIte, argTs, asliceS, asliceL, bnd, boolV, intV, retQ, aRes, aResV, oneAV, AV.low, AV.low.lows, Nat.reduceAdd, isStringD, isSliceD, isBoolD, setRange, AV.cells, AV.isCell, AV.isAgg, abytes, aconv, aeq, isConst, isByteD, isIfaceD, endQ, Int.reduceToNat, Int.reduceLE, Int.reduceLT, Int.reduceEq, Int.reduceNe, Int.reduceAdd, Int.reduceSub, Int.reduceNeg, Nat.reduceLT, Nat.reduceLeDiff, Ent.ver, Ent.imm, Ent.ty, lits, isEl, newCells, aappend, Nat.reduceBEq, fill, undef, (st1), (st2), (st3), (st4), (st5), (st6), (st7), (st8)]; try simp (disch := omega) only [wrapI64, Int.toNat_natCast, ← Int.natCast_add, nat_add_one, nat_add_two, take_drop_all, List.drop_zero, Nat.sub_zero, Nat.add_sub_cancel_left])
  refine xWait.go (long_ok t hl _) ?_
  (simp only [(vm1), (vm2), (vm3), (vm4), aDet, ev, tget, tput, ofC, ofC1, pureR, condR, abin, aun, alen, gslot, Nat.reduceEqDiff, reduceIte, argTs, asliceS, asliceL, bnd, boolV, intV, retQ, aRes, aResV, oneAV, AV.low, AV.low.lows, Nat.reduceAdd, isStringD, isSliceD, isBoolD, setRange, AV.cells, AV.isCell, AV.isAgg, abytes, aconv, aeq, isConst, isByteD, isIfaceD, endQ, Int.reduceToNat, Int.reduceLE, Int.reduceLT, Int.reduceEq, Int.reduceNe, Int.reduceAdd, Int.reduceSub, Int.reduceNeg, Nat.reduceLT, Nat.reduceLeDiff, Ent.ver, Ent.imm, Ent.ty, lits, isEl, newCells, aappend, Nat.reduceBEq, fill, undef, (st1), (st2), (st3), (st4), (st5), (st6), (st7), (st8)]; try simp (disch := omega) only [wrapI64, Int.toNat_natCast, ← Int.natCast_add, nat_add_one, nat_add_two, take_drop_all, List.drop_zero, Nat.sub_zero, Nat.add_sub_cancel_left])
  have fin : conB t = (decide (((long true t).1 : Int) = t.length) && decide ((long true t).2 = kCon)) := by
    have : ((((long true t).1 : Nat) : Int) = t.length) = ((long true t).1 = t.length) := propext ⟨fun h => by omega, fun h => by omega⟩
    unfold conB; simp only [this]
  rw [fin]
  by_cases q : ((long true t).1 : Int) = t.length
  · (simp only [q, (vm1), (vm2), (vm3), (vm4), aDet, ev, tget, tput, ofC, ofC1, pureR, condR, abin, aun, alen, gslot, Nat.reduceEqDiff, reduceIte, argTs, asliceS, asliceL, bnd, boolV, intV, retQ, aRes, aResV, oneAV, AV.low, AV.low.lows, Nat.reduceAdd, isStringD, isSliceD, isBoolD, setRange, AV.cells, AV.isCell, AV.isAgg, abytes, aconv, aeq, isConst, isByteD, isIfaceD, endQ, Int.reduceToNat, Int.reduceLE, Int.reduceLT, Int.reduceEq, Int.reduceNe, Int.reduceAdd, Int.reduceSub, Int.reduceNeg, Nat.reduceLT, Nat.reduceLeDiff, Ent.ver, Ent.imm, Ent.ty, lits, isEl, newCells, aappend, Nat.reduceBEq, fill, undef, (st1), (st2), (st3), (st4), (st5), (st6), (st7), (st8)]; try simp (disch := omega) only [wrapI64, Int.toNat_natCast, ← Int.natCast_add, nat_add_one, nat_add_two, take_drop_all, List.drop_zero, Nat.sub_zero, Nat.add_sub_cancel_left]); rfl
  · (simp only [q, (vm1), (vm2), (vm3), (vm4), aDet, ev, tget, tput, ofC, ofC1, pureR, condR, abin, aun, alen, gslot, Nat.reduceEqDiff, reduceIte, argTs, asliceS, asliceL, bnd, boolV, intV, retQ, aRes, aResV, oneAV, AV.low, AV.low.lows, Nat.reduceAdd, isStringD, isSliceD, isBoolD, setRange, AV.cells, AV.isCell, AV.isAgg, abytes, aconv, aeq, isConst, isByteD, isIfaceD, endQ, Int.reduceToNat, Int.reduceLE, Int.reduceLT, Int.reduceEq, Int.reduceNe, Int.reduceAdd, Int.reduceSub, Int.reduceNeg, Nat.reduceLT, Nat.reduceLeDiff, Ent.ver, Ent.imm, Ent.ty, lits, isEl, newCells, aappend, Nat.reduceBEq, fill, undef, (st1), (st2), (st3), (st4), (st5), (st6), (st7), (st8)]; try simp (disch := omega) only [wrapI64, Int.toNat_natCast, ← Int.natCast_add, nat_add_one, nat_add_two, take_drop_all, List.drop_zero, Nat.sub_zero, Nat.add_sub_cancel_left])
end Go.D
