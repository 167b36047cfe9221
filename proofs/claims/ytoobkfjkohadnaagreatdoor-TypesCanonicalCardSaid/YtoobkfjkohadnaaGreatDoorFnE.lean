/- Whether types are the same, by the document; the canonical type. -/
import Derived.Test.YtoobkfjkohadnaaGreatDoorFnD
import Derived.Test.YtoobkfjkohadnaaGreatDoorVmE
set_option linter.unusedVariables false
set_option linter.unusedSimpArgs false
set_option linter.unnecessarySimpa false
set_option maxRecDepth 100000
namespace Go.D
open Go Go.Vm Go.Proofs Go.RowKit

def ST2 (t : Tr) : Prop := ∀ (u : Tr) (σ : List Ent), lenT t → lenT u → ACalls E 18 [tyV t, tyV u] σ fun r τ => r = boolV (sameB t u) ∧ τ = σ
set_option maxHeartbeats 4000000 in
theorem sameTypes_ok (us us' : List Tr) (hl : us.length ≤ 9223372036854775807) (hl2 : us'.length ≤ 9223372036854775807) (hf : ∀ (u u' : Tr) (σ : List Ent), u ∈ us → u' ∈ us' → ACalls E 18 [tyV u, tyV u'] σ fun r τ => r = boolV (sameB u u') ∧ τ = σ) (σ : List Ent) :
    ACalls E 50 [.sl (tysV us), .sl (tysV us')] σ fun r τ => r = boolV (decide (us.length = us'.length) && sameBs us us') ∧ τ = σ := by
  refine xacalls T0 .drop [] Tryz.func50 rfl (by kernel_rfl) (by kernel_rfl) (by simp [Tryz.ntmps50]) ?_
  by_cases hn : (us.length : Int) = us'.length
  rotate_left
  · have : ¬ us.length = us'.length := fun h => hn (by omega)
    (simp only [tysV_len, hn, (vm1), (vm2), (vm3), (vm4), aDet, ev, tget, tput, ofC, ofC1, pureR, condR, abin, aun, alen, gslot, Nat.reduceEqDiff, reduceIte, argTs, asliceS, asliceL, bnd, boolV, intV, retQ, aRes, aResV, oneAV, AV.low, AV.low.lows, Nat.reduceAdd, isStringD, isSliceD, isBoolD, setRange, AV.cells, AV.isCell, AV.isAgg, abytes, aconv, aeq, isConst, isByteD, isIfaceD, endQ, Int.reduceToNat, Int.reduceLE, Int.reduceLT, Int.reduceEq, Int.reduceNe, Int.reduceAdd, Int.reduceSub, Int.reduceNeg, Nat.reduceLT, Nat.reduceLeDiff, Ent.ver, Ent.imm, Ent.ty, lits, isEl, newCells, aappend, Nat.reduceBEq, fill, undef, (st1), (st2), (st3), (st4), (st5), aMap, mget, mput, mclock, ksOK, keq, mres, fillA, isArrD, arrE, Nat.reduceMul]; try simp (disch := omega) only [wrapI64, Int.toNat_natCast, ← Int.natCast_add, nat_add_one, nat_add_two, take_drop_all, List.drop_zero, Nat.sub_zero, Nat.add_sub_cancel_left])
    simp only [this, decide_false, Bool.false_and]
  have hn' : us.length = us'.length := by omega
  (simp only [tysV_len, hn, (vm1), (vm2), (vm3), (vm4), aDet, ev, tget, tput, ofC, ofC1, pureR, condR, abin, aun, alen, gslot, Nat.reduceEqDiff, reduceIte, argTs, asliceS, asliceL, bnd, boolV, intV, retQ, aRes, aResV, oneAV, AV.low, AV.low.lows, Nat.reduceAdd, isStringD, isSliceD, isBoolD, setRange, AV.cells, AV.isCell, AV.isAgg, abytes, aconv, aeq, isConst, isByteD, isIfaceD, endQ, Int.reduceToNat, Int.reduceLE, Int.reduceLT, Int.reduceEq, Int.reduceNe, Int.reduceAdd, Int.reduceSub, Int.reduceNeg, Nat.reduceLT, Nat.reduceLeDiff, Ent.ver, Ent.imm, Ent.ty, lits, isEl, newCells, aappend, Nat.reduceBEq, fill, undef, (st1), (st2), (st3), (st4), (st5), aMap, mget, mput, mclock, ksOK, keq, mres, fillA, isArrD, arrE, Nat.reduceMul]; try simp (disch := omega) only [wrapI64, Int.toNat_natCast, ← Int.natCast_add, nat_add_one, nat_add_two, take_drop_all, List.drop_zero, Nat.sub_zero, Nat.add_sub_cancel_left])
  refine xloop (α := Nat) T0 (fun x => [(0, .sl (tysV us)), (1, .sl (tysV us')), (12, i64 us'.length), (13, i64 x)]) (fun _ => σ) (fun x => [])
    (fun x => x ≤ us.length ∧ sameBs (us.take x) (us'.take x) = true) (fun x => us.length - x) (by kernel_rfl)
    ⟨0, ⟨by simp, by simp only [List.take_zero, sameBs]⟩, by (simp only [(vm1), (vm2), (vm3), (vm4), aDet, ev, tget, tput, ofC, ofC1, pureR, condR, abin, aun, alen, gslot, Nat.reduceEqDiff, reduceIte, argTs, asliceS, asliceL, bnd, boolV, intV, retQ, aRes, aResV, oneAV, AV.low, AV.low.lows, Nat.reduceAdd, isStringD, isSliceD, isBoolD, setRange, AV.cells, AV.isCell, AV.isAgg, abytes, aconv, aeq, isConst, isByteD, isIfaceD, endQ, Int.reduceToNat, Int.reduceLE, Int.reduceLT, Int.reduceEq, Int.reduceNe, Int.reduceAdd, Int.reduceSub, Int.reduceNeg, Nat.reduceLT, Nat.reduceLeDiff, Ent.ver, Ent.imm, Ent.ty, lits, isEl, newCells, aappend, Nat.reduceBEq, fill, undef, (st1), (st2), (st3), (st4), (st5), aMap, mget, mput, mclock, ksOK, keq, mres, fillA, isArrD, arrE, Nat.reduceMul, Int.natCast_zero]; try simp (disch := omega) only [wrapI64, Int.toNat_natCast, ← Int.natCast_add, nat_add_one, nat_add_two, take_drop_all, List.drop_zero, Nat.sub_zero, Nat.add_sub_cancel_left]), rfl, rfl⟩ ?_
  rintro i ⟨hi, hs⟩
  by_cases h : (i : Int) < us'.length
  · have hi1 : i < us.length := by omega
    have hi2 : i < us'.length := by omega
    have hu : us[i]? = some us[i] := List.getElem?_eq_getElem hi1
    have hu' : us'[i]? = some us'[i] := List.getElem?_eq_getElem hi2
    obtain ⟨s1, s2⟩ := take_split us i _ hu
    obtain ⟨s3, s4⟩ := take_split us' i _ hu'
    have hm := List.getElem_mem hi1
    have hm' := List.getElem_mem hi2
    generalize us[i] = u at *
    generalize us'[i] = u' at *
    have hlt : (us.take i).length = (us'.take i).length := by simp; omega
    have hg := tysV_get hu
    have hg' := tysV_get hu'
    have hc := fun σ' => hf u u' σ' hm hm'
    cases u with
    | mk a b cs =>
    cases u' with
    | mk a' b' cs' =>
    simp only [tyV] at hg hg' hc
    (simp only [h, hg, hg', tysV_len, hn, (vm1), (vm2), (vm3), (vm4), aDet, ev, tget, tput, ofC, ofC1, pureR, condR, abin, aun, alen, gslot, Nat.reduceEqDiff, reduceIte, argTs, asliceS, asliceL, bnd, boolV, intV, retQ, aRes, aResV, oneAV, AV.low, AV.low.lows, Nat.reduceAdd, isStringD, isSliceD, isBoolD, setRange, AV.cells, AV.isCell, AV.isAgg, abytes, aconv, aeq, isConst, isByteD, isIfaceD, endQ, Int.reduceToNat, Int.reduceLE, Int.reduceLT, Int.reduceEq, Int.reduceNe, Int.reduceAdd, Int.reduceSub, Int.reduceNeg, Nat.reduceLT, Nat.reduceLeDiff, Ent.ver, Ent.imm, Ent.ty, lits, isEl, newCells, aappend, Nat.reduceBEq, fill, undef, (st1), (st2), (st3), (st4), (st5), aMap, mget, mput, mclock, ksOK, keq, mres, fillA, isArrD, arrE, Nat.reduceMul]; try simp (disch := omega) only [wrapI64, Int.toNat_natCast, ← Int.natCast_add, nat_add_one, nat_add_two, take_drop_all, List.drop_zero, Nat.sub_zero, Nat.add_sub_cancel_left])
    refine ydraw T0 [] (by kernel_rfl) (by kernel_rfl) (by kernel_rfl) (by kernel_rfl) ?_
    (simp only [h, hg, hg', tysV_len, hn, (vm1), (vm2), (vm3), (vm4), aDet, ev, tget, tput, ofC, ofC1, pureR, condR, abin, aun, alen, gslot, Nat.reduceEqDiff, reduceIte, argTs, asliceS, asliceL, bnd, boolV, intV, retQ, aRes, aResV, oneAV, AV.low, AV.low.lows, Nat.reduceAdd, isStringD, isSliceD, isBoolD, setRange, AV.cells, AV.isCell, AV.isAgg, abytes, aconv, aeq, isConst, isByteD, isIfaceD, endQ, Int.reduceToNat, Int.reduceLE, Int.reduceLT, Int.reduceEq, Int.reduceNe, Int.reduceAdd, Int.reduceSub, Int.reduceNeg, Nat.reduceLT, Nat.reduceLeDiff, Ent.ver, Ent.imm, Ent.ty, lits, isEl, newCells, aappend, Nat.reduceBEq, fill, undef, (st1), (st2), (st3), (st4), (st5), aMap, mget, mput, mclock, ksOK, keq, mres, fillA, isArrD, arrE, Nat.reduceMul]; try simp (disch := omega) only [wrapI64, Int.toNat_natCast, ← Int.natCast_add, nat_add_one, nat_add_two, take_drop_all, List.drop_zero, Nat.sub_zero, Nat.add_sub_cancel_left])
    refine yNext.go (by rfl) _ rfl (hc _) ?_
    cases hb : sameB (.mk a b cs) (.mk a' b' cs')
    · (simp only [(vm1), (vm2), (vm3), (vm4), aDet, ev, tget, tput, ofC, ofC1, pureR, condR, abin, aun, alen, gslot, Nat.reduceEqDiff, reduceIte, argTs, asliceS, asliceL, bnd, boolV, intV, retQ, aRes, aResV, oneAV, AV.low, AV.low.lows, Nat.reduceAdd, isStringD, isSliceD, isBoolD, setRange, AV.cells, AV.isCell, AV.isAgg, abytes, aconv, aeq, isConst, isByteD, isIfaceD, endQ, Int.reduceToNat, Int.reduceLE, Int.reduceLT, Int.reduceEq, Int.reduceNe, Int.reduceAdd, Int.reduceSub, Int.reduceNeg, Nat.reduceLT, Nat.reduceLeDiff, Ent.ver, Ent.imm, Ent.ty, lits, isEl, newCells, aappend, Nat.reduceBEq, fill, undef, (st1), (st2), (st3), (st4), (st5), aMap, mget, mput, mclock, ksOK, keq, mres, fillA, isArrD, arrE, Nat.reduceMul]; try simp (disch := omega) only [wrapI64, Int.toNat_natCast, ← Int.natCast_add, nat_add_one, nat_add_two, take_drop_all, List.drop_zero, Nat.sub_zero, Nat.add_sub_cancel_left])
      rw [s2, s4, sameBs_app _ _ _ _ hlt]
      simp only [sameBs, hb, Bool.false_and, Bool.and_false]
    · (simp only [(vm1), (vm2), (vm3), (vm4), aDet, ev, tget, tput, ofC, ofC1, pureR, condR, abin, aun, alen, gslot, Nat.reduceEqDiff, reduceIte, argTs, asliceS, asliceL, bnd, boolV, intV, retQ, aRes, aResV, oneAV, AV.low, AV.low.lows, Nat.reduceAdd, isStringD, isSliceD, isBoolD, setRange, AV.cells, AV.isCell, AV.isAgg, abytes, aconv, aeq, isConst, isByteD, isIfaceD, endQ, Int.reduceToNat, Int.reduceLE, Int.reduceLT, Int.reduceEq, Int.reduceNe, Int.reduceAdd, Int.reduceSub, Int.reduceNeg, Nat.reduceLT, Nat.reduceLeDiff, Ent.ver, Ent.imm, Ent.ty, lits, isEl, newCells, aappend, Nat.reduceBEq, fill, undef, (st1), (st2), (st3), (st4), (st5), aMap, mget, mput, mclock, ksOK, keq, mres, fillA, isArrD, arrE, Nat.reduceMul]; try simp (disch := omega) only [wrapI64, Int.toNat_natCast, ← Int.natCast_add, nat_add_one, nat_add_two, take_drop_all, List.drop_zero, Nat.sub_zero, Nat.add_sub_cancel_left])
      refine ⟨i + 1, ⟨by omega, ?_⟩, by omega, rfl⟩
      rw [s1, s3, sameBs_app _ _ _ _ hlt, hs]
      simp only [sameBs, hb, Bool.and_self]
  · have hie : i = us.length := by omega
    subst hie
    (simp only [h, (vm1), (vm2), (vm3), (vm4), aDet, ev, tget, tput, ofC, ofC1, pureR, condR, abin, aun, alen, gslot, Nat.reduceEqDiff, reduceIte, argTs, asliceS, asliceL, bnd, boolV, intV, retQ, aRes, aResV, oneAV, AV.low, AV.low.lows, Nat.reduceAdd, isStringD, isSliceD, isBoolD, setRange, AV.cells, AV.isCell, AV.isAgg, abytes, aconv, aeq, isConst, isByteD, isIfaceD, endQ, Int.reduceToNat, Int.reduceLE, Int.reduceLT, Int.reduceEq, Int.reduceNe, Int.reduceAdd, Int.reduceSub, Int.reduceNeg, Nat.reduceLT, Nat.reduceLeDiff, Ent.ver, Ent.imm, Ent.ty, lits, isEl, newCells, aappend, Nat.reduceBEq, fill, undef, (st1), (st2), (st3), (st4), (st5), aMap, mget, mput, mclock, ksOK, keq, mres, fillA, isArrD, arrE, Nat.reduceMul]; try simp (disch := omega) only [wrapI64, Int.toNat_natCast, ← Int.natCast_add, nat_add_one, nat_add_two, take_drop_all, List.drop_zero, Nat.sub_zero, Nat.add_sub_cancel_left])
    rw [List.take_of_length_le (Nat.le_refl _), hn', List.take_of_length_le (Nat.le_refl _)] at hs
    rw [hs]; simp [hn']
set_option maxHeartbeats 4000000 in
theorem SameType2_step (d n : List UInt8) (us : List Tr) (ih : ∀ u ∈ us, ST2 u) : ST2 (.mk d n us) := by
  intro u σ hl hl2
  cases u with
  | mk d' n' us' =>
  simp only [lenT] at hl hl2
  refine xacalls T0 .drop [] Tryz.func18 rfl (by kernel_rfl) (by kernel_rfl) (by simp [Tryz.ntmps18]) ?_
  simp only [sameB]
  by_cases hd : d = d'
  rotate_left
  · (simp only [tyV, hd, (vm1), (vm2), (vm3), (vm4), aDet, ev, tget, tput, ofC, ofC1, pureR, condR, abin, aun, alen, gslot, Nat.reduceEqDiff, reduceIte, argTs, asliceS, asliceL, bnd, boolV, intV, retQ, aRes, aResV, oneAV, AV.low, AV.low.lows, Nat.reduceAdd, isStringD, isSliceD, isBoolD, setRange, AV.cells, AV.isCell, AV.isAgg, abytes, aconv, aeq, isConst, isByteD, isIfaceD, endQ, Int.reduceToNat, Int.reduceLE, Int.reduceLT, Int.reduceEq, Int.reduceNe, Int.reduceAdd, Int.reduceSub, Int.reduceNeg, Nat.reduceLT, Nat.reduceLeDiff, Ent.ver, Ent.imm, Ent.ty, lits, isEl, newCells, aappend, Nat.reduceBEq, fill, undef, (st1), (st2), (st3), (st4), (st5), aMap, mget, mput, mclock, ksOK, keq, mres, fillA, isArrD, arrE, Nat.reduceMul]; try simp (disch := omega) only [wrapI64, Int.toNat_natCast, ← Int.natCast_add, nat_add_one, nat_add_two, take_drop_all, List.drop_zero, Nat.sub_zero, Nat.add_sub_cancel_left])
  by_cases hn : n = n'
  rotate_left
  · (simp only [tyV, hd, hn, (vm1), (vm2), (vm3), (vm4), aDet, ev, tget, tput, ofC, ofC1, pureR, condR, abin, aun, alen, gslot, Nat.reduceEqDiff, reduceIte, argTs, asliceS, asliceL, bnd, boolV, intV, retQ, aRes, aResV, oneAV, AV.low, AV.low.lows, Nat.reduceAdd, isStringD, isSliceD, isBoolD, setRange, AV.cells, AV.isCell, AV.isAgg, abytes, aconv, aeq, isConst, isByteD, isIfaceD, endQ, Int.reduceToNat, Int.reduceLE, Int.reduceLT, Int.reduceEq, Int.reduceNe, Int.reduceAdd, Int.reduceSub, Int.reduceNeg, Nat.reduceLT, Nat.reduceLeDiff, Ent.ver, Ent.imm, Ent.ty, lits, isEl, newCells, aappend, Nat.reduceBEq, fill, undef, (st1), (st2), (st3), (st4), (st5), aMap, mget, mput, mclock, ksOK, keq, mres, fillA, isArrD, arrE, Nat.reduceMul]; try simp (disch := omega) only [wrapI64, Int.toNat_natCast, ← Int.natCast_add, nat_add_one, nat_add_two, take_drop_all, List.drop_zero, Nat.sub_zero, Nat.add_sub_cancel_left])
  · (simp only [tyV, hd, hn, (vm1), (vm2), (vm3), (vm4), aDet, ev, tget, tput, ofC, ofC1, pureR, condR, abin, aun, alen, gslot, Nat.reduceEqDiff, reduceIte, argTs, asliceS, asliceL, bnd, boolV, intV, retQ, aRes, aResV, oneAV, AV.low, AV.low.lows, Nat.reduceAdd, isStringD, isSliceD, isBoolD, setRange, AV.cells, AV.isCell, AV.isAgg, abytes, aconv, aeq, isConst, isByteD, isIfaceD, endQ, Int.reduceToNat, Int.reduceLE, Int.reduceLT, Int.reduceEq, Int.reduceNe, Int.reduceAdd, Int.reduceSub, Int.reduceNeg, Nat.reduceLT, Nat.reduceLeDiff, Ent.ver, Ent.imm, Ent.ty, lits, isEl, newCells, aappend, Nat.reduceBEq, fill, undef, (st1), (st2), (st3), (st4), (st5), aMap, mget, mput, mclock, ksOK, keq, mres, fillA, isArrD, arrE, Nat.reduceMul]; try simp (disch := omega) only [wrapI64, Int.toNat_natCast, ← Int.natCast_add, nat_add_one, nat_add_two, take_drop_all, List.drop_zero, Nat.sub_zero, Nat.add_sub_cancel_left])
    refine xWait.go (sameTypes_ok us us' hl.2.1 hl2.2.1 (fun u u' σ' h h' => ih u h u' σ' (lenTs_mem hl.2.2 h) (lenTs_mem hl2.2.2 h')) _) ?_
    (simp only [(vm1), (vm2), (vm3), (vm4), aDet, ev, tget, tput, ofC, ofC1, pureR, condR, abin, aun, alen, gslot, Nat.reduceEqDiff, reduceIte, argTs, asliceS, asliceL, bnd, boolV, intV, retQ, aRes, aResV, oneAV, AV.low, AV.low.lows, Nat.reduceAdd, isStringD, isSliceD, isBoolD, setRange, AV.cells, AV.isCell, AV.isAgg, abytes, aconv, aeq, isConst, isByteD, isIfaceD, endQ, Int.reduceToNat, Int.reduceLE, Int.reduceLT, Int.reduceEq, Int.reduceNe, Int.reduceAdd, Int.reduceSub, Int.reduceNeg, Nat.reduceLT, Nat.reduceLeDiff, Ent.ver, Ent.imm, Ent.ty, lits, isEl, newCells, aappend, Nat.reduceBEq, fill, undef, (st1), (st2), (st3), (st4), (st5), aMap, mget, mput, mclock, ksOK, keq, mres, fillA, isArrD, arrE, Nat.reduceMul]; try simp (disch := omega) only [wrapI64, Int.toNat_natCast, ← Int.natCast_add, nat_add_one, nat_add_two, take_drop_all, List.drop_zero, Nat.sub_zero, Nat.add_sub_cancel_left])
    try rfl
theorem SameType2_ok : ∀ (m : Nat) (t : Tr), SizeOf.sizeOf t ≤ m → ST2 t
  | 0, .mk d n us, h => by simp at h
  | m + 1, .mk d n us, h => SameType2_step d n us fun u hu => SameType2_ok m u (by
      have := List.sizeOf_lt_of_mem hu
      simp at h; omega)
end Go.D

/- The canonical type. -/
set_option linter.unusedVariables false
set_option linter.unusedSimpArgs false
set_option linter.unnecessarySimpa false
set_option maxRecDepth 100000
namespace Go.D
open Go Go.Vm Go.Proofs Go.RowKit

theorem wrapU8 {x : Int} (h0 : 0 ≤ x) (h1 : x ≤ 255) : IntKind.u8.wrap x = x := by
  have hb : IntKind.u8.bits = 8 := rfl
  have hs : IntKind.u8.signed = false := rfl
  simp only [IntKind.wrap, hb, hs, Bool.false_and, Bool.false_eq_true, if_false]
  omega
/-- The i-th variable. -/
def letter (i : Nat) : List UInt8 := [39, (97 + i).toUInt8]
/-- The first variables in place of others. -/
def letS : Nat → List (List UInt8) → Sub'
  | _, [] => []
  | i, n :: r => (n, .mk kiVar (letter i) []) :: letS (i + 1) r
def mapN (s : Sub') : Ent := .map (mEntsN true 0 s) s.length
def canT (t : Tr) : Tr := putT (letS 0 (ordT t [])) t
def canR (t : Tr) : Tr × Int := if validT conB t = true then (canT t, 0) else (.mk [] [] [], 40)
theorem letS_app : ∀ (i : Nat) (l : List (List UInt8)) (n : List UInt8), letS i (l ++ [n]) = letS i l ++ [(n, .mk kiVar (letter (i + l.length)) [])]
  | i, [], n => by simp [letS]
  | i, a :: l, n => by
    have : i + 1 + l.length = i + (l.length + 1) := by omega
    simp only [List.cons_append, letS, letS_app (i + 1) l n, List.length_cons, this]
theorem letS_look : ∀ (i : Nat) (l : List (List UInt8)) (n : List UInt8), n ∉ l → Sub'.look (letS i l) n = none
  | i, [], n, _ => rfl
  | i, a :: l, n, h => by
    simp only [letS, Sub'.look]
    rw [if_neg (fun hh => h (by simp [hh]))]
    exact letS_look (i + 1) l n (fun hh => h (by simp [hh]))
theorem letS_len : ∀ (i : Nat) (l : List (List UInt8)), (letS i l).length = l.length
  | i, [] => rfl
  | i, a :: l => by simp [letS, letS_len (i + 1) l]
set_option maxHeartbeats 4000000 in
theorem Canonical_ok (t : Tr) (hl : lenT t) (hcl : ∀ σ', okT t → ACalls E 47 [tyV (canT t)] σ' fun r τ => r = tyV (canT t) ∧ τ = σ') (σ : List Ent) :
    ACalls E 22 [tyV t] σ fun r τ => r = .tup [tyV (canR t).1, i64 (canR t).2] ∧ τ = σ := by
  refine xacalls T0 .freeze [] Tryz.func22 rfl (by kernel_rfl) (by kernel_rfl) (by simp [Tryz.ntmps22]) ?_
  have h1 := fun σ' => ValidType_ok t hl σ'
  unfold canR
  cases hv : validT conB t
  · simp only [Bool.false_eq_true, if_false]
    cases t with
    | mk d n us =>
    simp only [tyV, hv] at h1
    (simp only [tyV, tysV, (vm1), (vm2), (vm3), (vm4), aDet, ev, tget, tput, ofC, ofC1, pureR, condR, abin, aun, alen, gslot, Nat.reduceEqDiff, reduceIte, argTs, asliceS, asliceL, bnd, boolV, intV, retQ, aRes, aResV, oneAV, AV.low, AV.low.lows, Nat.reduceAdd, isStringD, isSliceD, isBoolD, setRange, AV.cells, AV.isCell, AV.isAgg, abytes, aconv, aeq, isConst, isByteD, isIfaceD, endQ, Int.reduceToNat, Int.reduceLE, Int.reduceLT, Int.reduceEq, Int.reduceNe, Int.reduceAdd, Int.reduceSub, Int.reduceNeg, Nat.reduceLT, Nat.reduceLeDiff, Ent.ver, Ent.imm, Ent.ty, lits, isEl, newCells, aappend, Nat.reduceBEq, fill, undef, (st1), (st2), (st3), (st4), (st5), aMap, mget, mput, mclock, ksOK, keq, mres, fillA, isArrD, arrE, Nat.reduceMul]; try simp (disch := omega) only [wrapI64, Int.toNat_natCast, ← Int.natCast_add, nat_add_one, nat_add_two, take_drop_all, List.drop_zero, Nat.sub_zero, Nat.add_sub_cancel_left])
    refine xWait.go (h1 _) ?_
    (simp only [(vm1), (vm2), (vm3), (vm4), aDet, ev, tget, tput, ofC, ofC1, pureR, condR, abin, aun, alen, gslot, Nat.reduceEqDiff, reduceIte, argTs, asliceS, asliceL, bnd, boolV, intV, retQ, aRes, aResV, oneAV, AV.low, AV.low.lows, Nat.reduceAdd, isStringD, isSliceD, isBoolD, setRange, AV.cells, AV.isCell, AV.isAgg, abytes, aconv, aeq, isConst, isByteD, isIfaceD, endQ, Int.reduceToNat, Int.reduceLE, Int.reduceLT, Int.reduceEq, Int.reduceNe, Int.reduceAdd, Int.reduceSub, Int.reduceNeg, Nat.reduceLT, Nat.reduceLeDiff, Ent.ver, Ent.imm, Ent.ty, lits, isEl, newCells, aappend, Nat.reduceBEq, fill, undef, (st1), (st2), (st3), (st4), (st5), aMap, mget, mput, mclock, ksOK, keq, mres, fillA, isArrD, arrE, Nat.reduceMul]; try simp (disch := omega) only [wrapI64, Int.toNat_natCast, ← Int.natCast_add, nat_add_one, nat_add_two, take_drop_all, List.drop_zero, Nat.sub_zero, Nat.add_sub_cancel_left])
    exact ⟨_, .tup (.cons (.agg (.cons (.refl _) (.cons (.refl _) (.cons .none .nil)))) (.cons (.refl _) .nil)), by simp only [AV.low, AV.low.lows, Bool.and_self], rfl⟩
  · have ok : okT t := ⟨hl, by unfold validT at hv; simp only [Bool.and_eq_true] at hv; exact hv.1⟩
    simp only [if_true]
    have h2 := fun σ' => order_ok t ok σ'
    have h3 := fun s σ' m hm => put_ok _ t (Nat.le_refl _) true s σ' m ok hm
    have h4 := fun σ' => hcl σ' ok
    unfold canT at h4 ⊢
    generalize hns : ordT t [] = names at *
    rcases hcn : putT (letS 0 names) t with ⟨d3, n3, us3⟩
    rw [hcn] at h4
    cases t with
    | mk d n us =>
    simp only [tyV, hv] at h1 h2 h4 h3
    (simp only [tyV, (vm1), (vm2), (vm3), (vm4), aDet, ev, tget, tput, ofC, ofC1, pureR, condR, abin, aun, alen, gslot, Nat.reduceEqDiff, reduceIte, argTs, asliceS, asliceL, bnd, boolV, intV, retQ, aRes, aResV, oneAV, AV.low, AV.low.lows, Nat.reduceAdd, isStringD, isSliceD, isBoolD, setRange, AV.cells, AV.isCell, AV.isAgg, abytes, aconv, aeq, isConst, isByteD, isIfaceD, endQ, Int.reduceToNat, Int.reduceLE, Int.reduceLT, Int.reduceEq, Int.reduceNe, Int.reduceAdd, Int.reduceSub, Int.reduceNeg, Nat.reduceLT, Nat.reduceLeDiff, Ent.ver, Ent.imm, Ent.ty, lits, isEl, newCells, aappend, Nat.reduceBEq, fill, undef, (st1), (st2), (st3), (st4), (st5), aMap, mget, mput, mclock, ksOK, keq, mres, fillA, isArrD, arrE, Nat.reduceMul]; try simp (disch := omega) only [wrapI64, Int.toNat_natCast, ← Int.natCast_add, nat_add_one, nat_add_two, take_drop_all, List.drop_zero, Nat.sub_zero, Nat.add_sub_cancel_left])
    refine xWait.go (h1 _) ?_
    (simp only [(vm1), (vm2), (vm3), (vm4), aDet, ev, tget, tput, ofC, ofC1, pureR, condR, abin, aun, alen, gslot, Nat.reduceEqDiff, reduceIte, argTs, asliceS, asliceL, bnd, boolV, intV, retQ, aRes, aResV, oneAV, AV.low, AV.low.lows, Nat.reduceAdd, isStringD, isSliceD, isBoolD, setRange, AV.cells, AV.isCell, AV.isAgg, abytes, aconv, aeq, isConst, isByteD, isIfaceD, endQ, Int.reduceToNat, Int.reduceLE, Int.reduceLT, Int.reduceEq, Int.reduceNe, Int.reduceAdd, Int.reduceSub, Int.reduceNeg, Nat.reduceLT, Nat.reduceLeDiff, Ent.ver, Ent.imm, Ent.ty, lits, isEl, newCells, aappend, Nat.reduceBEq, fill, undef, (st1), (st2), (st3), (st4), (st5), aMap, mget, mput, mclock, ksOK, keq, mres, fillA, isArrD, arrE, Nat.reduceMul]; try simp (disch := omega) only [wrapI64, Int.toNat_natCast, ← Int.natCast_add, nat_add_one, nat_add_two, take_drop_all, List.drop_zero, Nat.sub_zero, Nat.add_sub_cancel_left])
    refine xWait.of (h2 _) ?_
    rintro r τ ⟨w, L, rfl, rfl, hrow, hnd, hvb⟩
    have hfew := vars_few hnd hvb
    rw [List.append_assoc] at hrow ⊢
    rw [List.take_left, List.drop_left]
    have hlk : ∀ i u, names[i]? = some u → Sub'.look (letS 0 (names.take i)) u = none := fun i u hu => letS_look 0 _ u fun hh => by
      obtain ⟨s1, s2⟩ : names.take (i + 1) = names.take i ++ [u] ∧ True := ⟨by rw [List.take_add_one, hu]; rfl, trivial⟩
      have hsub : (names.take (i + 1)).Nodup := hnd.sublist (List.take_sublist _ _)
      rw [s1, List.nodup_append] at hsub
      exact hsub.2.2 u hh u (by simp) rfl
    have hrow' : names ≠ [] → ∃ w0, w = σ.length + (w0 + 3) ∧ L[w0]? = some (.arr 9 (strsV names) (names.length - 1) 0) := fun hne => by
      obtain ⟨q1, q2⟩ := hrow hne
      simp only [List.length_append, List.length_cons, List.length_nil] at q1
      refine ⟨w - σ.length - 3, by omega, ?_⟩
      rw [List.getElem?_append_right (by omega), List.getElem?_append_right (by simp; omega)] at q2
      simpa using q2
    have hlen : (rowN w names) = rowN w names := rfl
    rcases names with _ | ⟨a0, ar⟩
    · (simp only [rowN, List.cons_append, List.nil_append, (vm1), (vm2), (vm3), (vm4), aDet, ev, tget, tput, ofC, ofC1, pureR, condR, abin, aun, alen, gslot, Nat.reduceEqDiff, reduceIte, argTs, asliceS, asliceL, bnd, boolV, intV, retQ, aRes, aResV, oneAV, AV.low, AV.low.lows, Nat.reduceAdd, isStringD, isSliceD, isBoolD, setRange, AV.cells, AV.isCell, AV.isAgg, abytes, aconv, aeq, isConst, isByteD, isIfaceD, endQ, Int.reduceToNat, Int.reduceLE, Int.reduceLT, Int.reduceEq, Int.reduceNe, Int.reduceAdd, Int.reduceSub, Int.reduceNeg, Nat.reduceLT, Nat.reduceLeDiff, Ent.ver, Ent.imm, Ent.ty, lits, isEl, newCells, aappend, Nat.reduceBEq, fill, undef, (st1), (st2), (st3), (st4), (st5), aMap, mget, mput, mclock, ksOK, keq, mres, fillA, isArrD, arrE, Nat.reduceMul]; try simp (disch := omega) only [wrapI64, Int.toNat_natCast, ← Int.natCast_add, nat_add_one, nat_add_two, take_drop_all, List.drop_zero, Nat.sub_zero, Nat.add_sub_cancel_left])
      refine xloop (α := Nat) T0 (fun i => [(1, .ref σ.length 0 0), (2, .ref (σ.length + 1) 0 0), (4, .mp (σ.length + 2)), (14, i64 0), (15, i64 0)]) (fun _ => σ) (fun _ => .arr 24 [.str d, .str n, .sl (tysV us)] 0 0 :: .arr 24 [.str [], .str [], .v (.slice none 0 0)] 0 0 :: .map [] 0 :: L) (fun i => i = 0) (fun i => i) (by kernel_rfl)
        ⟨0, rfl, by (simp only [(vm1), (vm2), (vm3), (vm4), aDet, ev, tget, tput, ofC, ofC1, pureR, condR, abin, aun, alen, gslot, Nat.reduceEqDiff, reduceIte, argTs, asliceS, asliceL, bnd, boolV, intV, retQ, aRes, aResV, oneAV, AV.low, AV.low.lows, Nat.reduceAdd, isStringD, isSliceD, isBoolD, setRange, AV.cells, AV.isCell, AV.isAgg, abytes, aconv, aeq, isConst, isByteD, isIfaceD, endQ, Int.reduceToNat, Int.reduceLE, Int.reduceLT, Int.reduceEq, Int.reduceNe, Int.reduceAdd, Int.reduceSub, Int.reduceNeg, Nat.reduceLT, Nat.reduceLeDiff, Ent.ver, Ent.imm, Ent.ty, lits, isEl, newCells, aappend, Nat.reduceBEq, fill, undef, (st1), (st2), (st3), (st4), (st5), aMap, mget, mput, mclock, ksOK, keq, mres, fillA, isArrD, arrE, Nat.reduceMul]; try simp (disch := omega) only [wrapI64, Int.toNat_natCast, ← Int.natCast_add, nat_add_one, nat_add_two, take_drop_all, List.drop_zero, Nat.sub_zero, Nat.add_sub_cancel_left]), rfl, rfl⟩ ?_
      rintro i hi
      (simp only [(vm1), (vm2), (vm3), (vm4), aDet, ev, tget, tput, ofC, ofC1, pureR, condR, abin, aun, alen, gslot, Nat.reduceEqDiff, reduceIte, argTs, asliceS, asliceL, bnd, boolV, intV, retQ, aRes, aResV, oneAV, AV.low, AV.low.lows, Nat.reduceAdd, isStringD, isSliceD, isBoolD, setRange, AV.cells, AV.isCell, AV.isAgg, abytes, aconv, aeq, isConst, isByteD, isIfaceD, endQ, Int.reduceToNat, Int.reduceLE, Int.reduceLT, Int.reduceEq, Int.reduceNe, Int.reduceAdd, Int.reduceSub, Int.reduceNeg, Nat.reduceLT, Nat.reduceLeDiff, Ent.ver, Ent.imm, Ent.ty, lits, isEl, newCells, aappend, Nat.reduceBEq, fill, undef, (st1), (st2), (st3), (st4), (st5), aMap, mget, mput, mclock, ksOK, keq, mres, fillA, isArrD, arrE, Nat.reduceMul]; try simp (disch := omega) only [wrapI64, Int.toNat_natCast, ← Int.natCast_add, nat_add_one, nat_add_two, take_drop_all, List.drop_zero, Nat.sub_zero, Nat.add_sub_cancel_left])
      have h5 := h3 [] (σ ++ .arr 24 [.str d, .str n, .sl (tysV us)] 0 0 :: .arr 24 [.str [], .str [], .v (.slice none 0 0)] 0 0 :: .map [] 0 :: L) (σ.length + 2) (by rw [List.getElem?_append_right (by omega), Nat.add_sub_cancel_left]; rfl)
      simp only [letS] at hcn
      rw [hcn] at h5
      simp only [tyV] at h5
      refine xWait.go h5 ?_
      (simp only [(vm1), (vm2), (vm3), (vm4), aDet, ev, tget, tput, ofC, ofC1, pureR, condR, abin, aun, alen, gslot, Nat.reduceEqDiff, reduceIte, argTs, asliceS, asliceL, bnd, boolV, intV, retQ, aRes, aResV, oneAV, AV.low, AV.low.lows, Nat.reduceAdd, isStringD, isSliceD, isBoolD, setRange, AV.cells, AV.isCell, AV.isAgg, abytes, aconv, aeq, isConst, isByteD, isIfaceD, endQ, Int.reduceToNat, Int.reduceLE, Int.reduceLT, Int.reduceEq, Int.reduceNe, Int.reduceAdd, Int.reduceSub, Int.reduceNeg, Nat.reduceLT, Nat.reduceLeDiff, Ent.ver, Ent.imm, Ent.ty, lits, isEl, newCells, aappend, Nat.reduceBEq, fill, undef, (st1), (st2), (st3), (st4), (st5), aMap, mget, mput, mclock, ksOK, keq, mres, fillA, isArrD, arrE, Nat.reduceMul]; try simp (disch := omega) only [wrapI64, Int.toNat_natCast, ← Int.natCast_add, nat_add_one, nat_add_two, take_drop_all, List.drop_zero, Nat.sub_zero, Nat.add_sub_cancel_left])
      refine xWait.go (h4 _) ?_
      (simp only [(vm1), (vm2), (vm3), (vm4), aDet, ev, tget, tput, ofC, ofC1, pureR, condR, abin, aun, alen, gslot, Nat.reduceEqDiff, reduceIte, argTs, asliceS, asliceL, bnd, boolV, intV, retQ, aRes, aResV, oneAV, AV.low, AV.low.lows, Nat.reduceAdd, isStringD, isSliceD, isBoolD, setRange, AV.cells, AV.isCell, AV.isAgg, abytes, aconv, aeq, isConst, isByteD, isIfaceD, endQ, Int.reduceToNat, Int.reduceLE, Int.reduceLT, Int.reduceEq, Int.reduceNe, Int.reduceAdd, Int.reduceSub, Int.reduceNeg, Nat.reduceLT, Nat.reduceLeDiff, Ent.ver, Ent.imm, Ent.ty, lits, isEl, newCells, aappend, Nat.reduceBEq, fill, undef, (st1), (st2), (st3), (st4), (st5), aMap, mget, mput, mclock, ksOK, keq, mres, fillA, isArrD, arrE, Nat.reduceMul]; try simp (disch := omega) only [wrapI64, Int.toNat_natCast, ← Int.natCast_add, nat_add_one, nat_add_two, take_drop_all, List.drop_zero, Nat.sub_zero, Nat.add_sub_cancel_left])
      exact ⟨_, .refl _, by simp only [AV.low, AV.low.lows, tysV_low, Bool.and_self], rfl⟩
    · obtain ⟨w0, rfl, hw0⟩ := hrow' (by simp)
      (simp only [rowN, List.cons_append, List.nil_append, (vm1), (vm2), (vm3), (vm4), aDet, ev, tget, tput, ofC, ofC1, pureR, condR, abin, aun, alen, gslot, Nat.reduceEqDiff, reduceIte, argTs, asliceS, asliceL, bnd, boolV, intV, retQ, aRes, aResV, oneAV, AV.low, AV.low.lows, Nat.reduceAdd, isStringD, isSliceD, isBoolD, setRange, AV.cells, AV.isCell, AV.isAgg, abytes, aconv, aeq, isConst, isByteD, isIfaceD, endQ, Int.reduceToNat, Int.reduceLE, Int.reduceLT, Int.reduceEq, Int.reduceNe, Int.reduceAdd, Int.reduceSub, Int.reduceNeg, Nat.reduceLT, Nat.reduceLeDiff, Ent.ver, Ent.imm, Ent.ty, lits, isEl, newCells, aappend, Nat.reduceBEq, fill, undef, (st1), (st2), (st3), (st4), (st5), aMap, mget, mput, mclock, ksOK, keq, mres, fillA, isArrD, arrE, Nat.reduceMul]; try simp (disch := omega) only [wrapI64, Int.toNat_natCast, ← Int.natCast_add, nat_add_one, nat_add_two, take_drop_all, List.drop_zero, Nat.sub_zero, Nat.add_sub_cancel_left])
      simp only [List.length_cons] at hw0 hfew
      refine xloop (α := Nat) T0 (fun i => [(1, .ref σ.length 0 0), (2, .ref (σ.length + 1) 0 0), (4, .mp (σ.length + 2)), (13, .rsl (σ.length + (w0 + 3)) ar.length 0 (ar.length + 1) 1), (14, i64 (ar.length + 1 : Nat)), (15, i64 i)]) (fun _ => σ) (fun i => .arr 24 [.str d, .str n, .sl (tysV us)] 0 0 :: .arr 24 [.str [], .str [], .v (.slice none 0 0)] 0 0 :: mapN (letS 0 ((a0 :: ar).take i)) :: L) (fun i => i ≤ ar.length + 1) (fun i => ar.length + 1 - i) (by kernel_rfl)
        ⟨0, by omega, by (simp only [(vm1), (vm2), (vm3), (vm4), aDet, ev, tget, tput, ofC, ofC1, pureR, condR, abin, aun, alen, gslot, Nat.reduceEqDiff, reduceIte, argTs, asliceS, asliceL, bnd, boolV, intV, retQ, aRes, aResV, oneAV, AV.low, AV.low.lows, Nat.reduceAdd, isStringD, isSliceD, isBoolD, setRange, AV.cells, AV.isCell, AV.isAgg, abytes, aconv, aeq, isConst, isByteD, isIfaceD, endQ, Int.reduceToNat, Int.reduceLE, Int.reduceLT, Int.reduceEq, Int.reduceNe, Int.reduceAdd, Int.reduceSub, Int.reduceNeg, Nat.reduceLT, Nat.reduceLeDiff, Ent.ver, Ent.imm, Ent.ty, lits, isEl, newCells, aappend, Nat.reduceBEq, fill, undef, (st1), (st2), (st3), (st4), (st5), aMap, mget, mput, mclock, ksOK, keq, mres, fillA, isArrD, arrE, Nat.reduceMul, Int.natCast_zero]; try simp (disch := omega) only [wrapI64, Int.toNat_natCast, ← Int.natCast_add, nat_add_one, nat_add_two, take_drop_all, List.drop_zero, Nat.sub_zero, Nat.add_sub_cancel_left]), rfl, rfl⟩ ?_
      rintro i hi
      by_cases h : (i : Int) < (ar.length + 1 : Nat)
      · have hi' : i < (a0 :: ar).length := by simp only [List.length_cons]; omega
        have hu : (a0 :: ar)[i]? = some (a0 :: ar)[i] := List.getElem?_eq_getElem hi'
        have hst : (strsV (a0 :: ar))[i]? = some (.str (a0 :: ar)[i]) := strsV_get hi'
        have hln := hlk i _ hu
        have hnx : letS 0 ((a0 :: ar).take (i + 1)) = letS 0 ((a0 :: ar).take i) ++ [((a0 :: ar)[i], .mk kiVar (letter i) [])] := by
          rw [List.take_add_one, hu]
          show letS 0 ((a0 :: ar).take i ++ [(a0 :: ar)[i]]) = _
          rw [letS_app, List.length_take, Nat.min_eq_left (by omega), Nat.zero_add]
        generalize (a0 :: ar)[i] = u at *
        have hslen : (letS 0 ((a0 :: ar).take i)).length = i := by rw [letS_len, List.length_take]; omega
        generalize hss : letS 0 ((a0 :: ar).take i) = ss at *
        have hput := mputN true u (.mk kiVar (letter i) []) 0 ss hln
        simp only [tyN, argV, if_true, Nat.zero_add] at hput
        have hb : IntKind.u8.wrap (97 + (i : Int)) = ((97 + i).toUInt8.toNat : Int) := by
          have h1 : ((97 + i).toUInt8).toNat = 97 + i := by
            show (UInt8.ofNat (97 + i)).toNat = 97 + i
            rw [UInt8.toNat_ofNat']
            exact Nat.mod_eq_of_lt (by omega)
          rw [h1]; exact (wrapU8 (by omega) (by omega)).trans (by omega)
        have hav : avBytes [.v (.int .u8 (IntKind.u8.wrap (97 + (i : Int))))] = some [(97 + i).toUInt8] := by
          rw [hb]; simp only [avBytes, avByte_of, Option.bind_some, Option.map_some]
        (simp only [mapN, h, hw0, hst, mgetN, hln, Option.map_none, Option.isSome_none, Bool.false_eq_true, if_false, hav, Option.bind_some, Option.map_some, (vm1), (vm2), (vm3), (vm4), aDet, ev, tget, tput, ofC, ofC1, pureR, condR, abin, aun, alen, gslot, Nat.reduceEqDiff, reduceIte, argTs, asliceS, asliceL, bnd, boolV, intV, retQ, aRes, aResV, oneAV, AV.low, AV.low.lows, Nat.reduceAdd, isStringD, isSliceD, isBoolD, setRange, AV.cells, AV.isCell, AV.isAgg, abytes, aconv, aeq, isConst, isByteD, isIfaceD, endQ, Int.reduceToNat, Int.reduceLE, Int.reduceLT, Int.reduceEq, Int.reduceNe, Int.reduceAdd, Int.reduceSub, Int.reduceNeg, Nat.reduceLT, Nat.reduceLeDiff, Ent.ver, Ent.imm, Ent.ty, lits, isEl, newCells, aappend, Nat.reduceBEq, fill, undef, (st1), (st2), (st3), (st4), (st5), aMap, mget, mput, mclock, ksOK, keq, mres, fillA, isArrD, arrE, Nat.reduceMul]; try simp (disch := omega) only [wrapI64, Int.toNat_natCast, ← Int.natCast_add, nat_add_one, nat_add_two, take_drop_all, List.drop_zero, Nat.sub_zero, Nat.add_sub_cancel_left])
        refine ⟨by omega, ?_⟩
        rw [hav]
        simp only [letter] at hput hnx
        (simp only [Option.map_some, Option.bind_some, hput, mgetN, hln, Option.map_none, Option.isSome_none, Bool.false_eq_true, if_false, List.cons_append, List.nil_append, (vm1), (vm2), (vm3), (vm4), aDet, ev, tget, tput, ofC, ofC1, pureR, condR, abin, aun, alen, gslot, Nat.reduceEqDiff, reduceIte, argTs, asliceS, asliceL, bnd, boolV, intV, retQ, aRes, aResV, oneAV, AV.low, AV.low.lows, Nat.reduceAdd, isStringD, isSliceD, isBoolD, setRange, AV.cells, AV.isCell, AV.isAgg, abytes, aconv, aeq, isConst, isByteD, isIfaceD, endQ, Int.reduceToNat, Int.reduceLE, Int.reduceLT, Int.reduceEq, Int.reduceNe, Int.reduceAdd, Int.reduceSub, Int.reduceNeg, Nat.reduceLT, Nat.reduceLeDiff, Ent.ver, Ent.imm, Ent.ty, lits, isEl, newCells, aappend, Nat.reduceBEq, fill, undef, (st1), (st2), (st3), (st4), (st5), aMap, mget, mput, mclock, ksOK, keq, mres, fillA, isArrD, arrE, Nat.reduceMul]; try simp (disch := omega) only [wrapI64, Int.toNat_natCast, ← Int.natCast_add, nat_add_one, nat_add_two, take_drop_all, List.drop_zero, Nat.sub_zero, Nat.add_sub_cancel_left])
        refine ⟨⟨rfl, fun e he => keysN true tab _ _ 0 ss e he⟩, i + 1, by omega, by omega, rfl, ?_⟩
        rw [hnx, List.length_append]
        rfl
      · have hie : i = ar.length + 1 := by omega
        subst hie
        have htk : (a0 :: ar).take (ar.length + 1) = a0 :: ar := List.take_of_length_le (by simp)
        (simp only [h, htk, (vm1), (vm2), (vm3), (vm4), aDet, ev, tget, tput, ofC, ofC1, pureR, condR, abin, aun, alen, gslot, Nat.reduceEqDiff, reduceIte, argTs, asliceS, asliceL, bnd, boolV, intV, retQ, aRes, aResV, oneAV, AV.low, AV.low.lows, Nat.reduceAdd, isStringD, isSliceD, isBoolD, setRange, AV.cells, AV.isCell, AV.isAgg, abytes, aconv, aeq, isConst, isByteD, isIfaceD, endQ, Int.reduceToNat, Int.reduceLE, Int.reduceLT, Int.reduceEq, Int.reduceNe, Int.reduceAdd, Int.reduceSub, Int.reduceNeg, Nat.reduceLT, Nat.reduceLeDiff, Ent.ver, Ent.imm, Ent.ty, lits, isEl, newCells, aappend, Nat.reduceBEq, fill, undef, (st1), (st2), (st3), (st4), (st5), aMap, mget, mput, mclock, ksOK, keq, mres, fillA, isArrD, arrE, Nat.reduceMul]; try simp (disch := omega) only [wrapI64, Int.toNat_natCast, ← Int.natCast_add, nat_add_one, nat_add_two, take_drop_all, List.drop_zero, Nat.sub_zero, Nat.add_sub_cancel_left])
        have h5 := h3 (letS 0 (a0 :: ar)) (σ ++ .arr 24 [.str d, .str n, .sl (tysV us)] 0 0 :: .arr 24 [.str [], .str [], .v (.slice none 0 0)] 0 0 :: mapN (letS 0 (a0 :: ar)) :: L) (σ.length + 2) (by rw [List.getElem?_append_right (by omega), Nat.add_sub_cancel_left]; rfl)
        rw [hcn] at h5
        simp only [tyV] at h5
        refine xWait.go h5 ?_
        (simp only [(vm1), (vm2), (vm3), (vm4), aDet, ev, tget, tput, ofC, ofC1, pureR, condR, abin, aun, alen, gslot, Nat.reduceEqDiff, reduceIte, argTs, asliceS, asliceL, bnd, boolV, intV, retQ, aRes, aResV, oneAV, AV.low, AV.low.lows, Nat.reduceAdd, isStringD, isSliceD, isBoolD, setRange, AV.cells, AV.isCell, AV.isAgg, abytes, aconv, aeq, isConst, isByteD, isIfaceD, endQ, Int.reduceToNat, Int.reduceLE, Int.reduceLT, Int.reduceEq, Int.reduceNe, Int.reduceAdd, Int.reduceSub, Int.reduceNeg, Nat.reduceLT, Nat.reduceLeDiff, Ent.ver, Ent.imm, Ent.ty, lits, isEl, newCells, aappend, Nat.reduceBEq, fill, undef, (st1), (st2), (st3), (st4), (st5), aMap, mget, mput, mclock, ksOK, keq, mres, fillA, isArrD, arrE, Nat.reduceMul]; try simp (disch := omega) only [wrapI64, Int.toNat_natCast, ← Int.natCast_add, nat_add_one, nat_add_two, take_drop_all, List.drop_zero, Nat.sub_zero, Nat.add_sub_cancel_left])
        refine xWait.go (h4 _) ?_
        (simp only [(vm1), (vm2), (vm3), (vm4), aDet, ev, tget, tput, ofC, ofC1, pureR, condR, abin, aun, alen, gslot, Nat.reduceEqDiff, reduceIte, argTs, asliceS, asliceL, bnd, boolV, intV, retQ, aRes, aResV, oneAV, AV.low, AV.low.lows, Nat.reduceAdd, isStringD, isSliceD, isBoolD, setRange, AV.cells, AV.isCell, AV.isAgg, abytes, aconv, aeq, isConst, isByteD, isIfaceD, endQ, Int.reduceToNat, Int.reduceLE, Int.reduceLT, Int.reduceEq, Int.reduceNe, Int.reduceAdd, Int.reduceSub, Int.reduceNeg, Nat.reduceLT, Nat.reduceLeDiff, Ent.ver, Ent.imm, Ent.ty, lits, isEl, newCells, aappend, Nat.reduceBEq, fill, undef, (st1), (st2), (st3), (st4), (st5), aMap, mget, mput, mclock, ksOK, keq, mres, fillA, isArrD, arrE, Nat.reduceMul]; try simp (disch := omega) only [wrapI64, Int.toNat_natCast, ← Int.natCast_add, nat_add_one, nat_add_two, take_drop_all, List.drop_zero, Nat.sub_zero, Nat.add_sub_cancel_left])
        exact ⟨_, .refl _, by simp only [AV.low, AV.low.lows, tysV_low, Bool.and_self], rfl⟩
end Go.D

/- Canonical types: what they tell. (No program in sight.) -/
set_option linter.unusedVariables false
set_option linter.unusedSimpArgs false
namespace Go.D
open Go Go.Vm

def zs : List (List UInt8) → List (List UInt8) → Sub'
  | a :: A, b :: B => (a, .mk kiVar b []) :: zs A B
  | _, _ => []
theorem zs_app : ∀ (A B : List (List UInt8)) (n m : List UInt8), A.length = B.length → zs A B ++ [(n, .mk kiVar m [])] = zs (A ++ [n]) (B ++ [m])
  | [], [], n, m, _ => rfl
  | a :: A, b :: B, n, m, h => by simp only [zs, List.cons_append, zs_app A B n m (by simpa using h)]
theorem zs_look : ∀ (A B : List (List UInt8)) (i : Nat) (n m : List UInt8), A.Nodup → A[i]? = some n → B[i]? = some m → Sub'.look (zs A B) n = some (.mk kiVar m [])
  | a :: A, b :: B, 0, n, m, _, h1, h2 => by simp at h1 h2; subst h1 h2; simp [zs, Sub'.look]
  | a :: A, b :: B, i + 1, n, m, hd, h1, h2 => by
    simp only [List.getElem?_cons_succ] at h1 h2
    have hm : n ∈ A := List.mem_of_getElem? h1
    have hne : ¬ n = a := fun h => by subst h; exact (List.nodup_cons.1 hd).1 hm
    simp only [zs, Sub'.look, hne, if_false]
    exact zs_look A B i n m (List.nodup_cons.1 hd).2 h1 h2
  | [], _, _, _, _, _, h1, _ => by simp at h1
  | a :: A, [], _, _, _, _, _, h2 => by simp at h2
theorem zs_none : ∀ (A B : List (List UInt8)) (n : List UInt8), n ∉ A → Sub'.look (zs A B) n = none
  | [], _, _, _ => rfl
  | a :: A, [], _, _ => rfl
  | a :: A, b :: B, n, h => by
    have hne : ¬ n = a := fun hh => h (by simp [hh])
    simp only [zs, Sub'.look, hne, if_false]
    exact zs_none A B n fun hh => h (by simp [hh])
theorem let_look : ∀ (k : Nat) (A : List (List UInt8)) (i : Nat) (n : List UInt8), A.Nodup → A[i]? = some n → Sub'.look (letS k A) n = some (.mk kiVar (letter (k + i)) [])
  | k, a :: A, 0, n, _, h1 => by simp at h1; subst h1; simp [letS, Sub'.look]
  | k, a :: A, i + 1, n, hd, h1 => by
    simp only [List.getElem?_cons_succ] at h1
    have hm : n ∈ A := List.mem_of_getElem? h1
    have hne : ¬ n = a := fun h => by subst h; exact (List.nodup_cons.1 hd).1 hm
    simp only [letS, Sub'.look, hne, if_false]
    rw [let_look (k + 1) A i n (List.nodup_cons.1 hd).2 h1]
    have : k + 1 + i = k + (i + 1) := by omega
    rw [this]
  | k, [], _, _, _, h1 => by simp at h1
theorem letter_inj {i j : Nat} (hi : i < 26) (hj : j < 26) (h : letter i = letter j) : i = j := by
  simp only [letter, List.cons.injEq, and_true, true_and] at h
  have h2 := congrArg UInt8.toNat h
  have e : ∀ k, k < 26 → ((97 + k).toUInt8).toNat = 97 + k := fun k hk => by
    show (UInt8.ofNat (97 + k)).toNat = 97 + k
    rw [UInt8.toNat_ofNat']
    exact Nat.mod_eq_of_lt (by omega)
  rw [e i hi, e j hj] at h2
  omega
mutual
theorem ord_pre : ∀ (t : Tr) (A : List (List UInt8)), A <+: ordT t A
  | .mk d n us, A => by
    simp only [ordT]
    split
    · exact (List.prefix_append _ _).trans (ords_pre us _)
    · exact ords_pre us A
theorem ords_pre : ∀ (l : List Tr) (A : List (List UInt8)), A <+: ordTs l A
  | [], A => by simp only [ordTs]; exact List.prefix_refl _
  | t :: ts, A => by simp only [ordTs]; exact (ord_pre t A).trans (ords_pre ts _)
end
theorem pre_at {A B : List (List UInt8)} (h : A <+: B) {i : Nat} {n : List UInt8} (hi : A[i]? = some n) : B[i]? = some n := by
  obtain ⟨C, rfl⟩ := h
  rw [List.getElem?_append_left (List.getElem?_eq_some_iff.1 hi).1]; exact hi
theorem var_args {us : List Tr} {n : List UInt8} (h : typeB conB (.mk kiVar n us) = true) : us = [] := by
  simp only [typeB, Bool.and_eq_true, decide_eq_true_eq] at h
  have : partsI kiVar = 0 := by decide
  have h4 := h.2.2.2.1
  rw [this] at h4
  exact List.length_eq_zero_iff.1 (by omega)
theorem put_var {S : Sub'} {n : List UInt8} {x : Tr} (h : Sub'.look S n = some x) : putT S (.mk kiVar n []) = x := by
  unfold putT; rw [if_pos ⟨rfl, by rw [h]; rfl⟩, h]; rfl
theorem put_oth {S : Sub'} {d n : List UInt8} {us : List Tr} (h : ¬ d = kiVar) : putT S (.mk d n us) = .mk d n (putTs S us) := by
  unfold putT; rw [if_neg (fun hh => h hh.1)]
theorem mem_at {A : List (List UInt8)} {n : List UInt8} (h : n ∈ A) : ∃ i : Nat, A[i]? = some n := List.getElem?_of_mem h
mutual
theorem ordT_nodup : ∀ (t : Tr) (A : List (List UInt8)), A.Nodup → (ordT t A).Nodup
  | .mk d n us, A, h => by
    simp only [ordT]
    split
    · rename_i hc
      exact ordTs_nodup us _ (by rw [List.nodup_append]; exact ⟨h, by simp, fun a ha b hb => by simp at hb; subst hb; exact fun hh => hc.2 (hh ▸ ha)⟩)
    · exact ordTs_nodup us _ h
theorem ordTs_nodup : ∀ (l : List Tr) (A : List (List UInt8)), A.Nodup → (ordTs l A).Nodup
  | [], A, h => by simp only [ordTs]; exact h
  | t :: ts, A, h => by simp only [ordTs]; exact ordTs_nodup ts _ (ordT_nodup t A h)
end
mutual
theorem can_fwd : ∀ (a b : Tr) (A B : List (List UInt8)), typeB conB a = true → typeB conB b = true → A.length = B.length → A.Nodup → B.Nodup → (matT a b (zs A B)).1 = true → (matT b a (zs B A)).1 = true →
    (ordT a A).length = (ordT b B).length ∧ (matT a b (zs A B)).2 = zs (ordT a A) (ordT b B) ∧ (matT b a (zs B A)).2 = zs (ordT b B) (ordT a A) ∧
      ∀ A' B', ordT a A <+: A' → ordT b B <+: B' → A'.Nodup → B'.Nodup → putT (letS 0 A') a = putT (letS 0 B') b
  | .mk d n us, .mk d' n' us', A, B, ta, tb, hl, hA, hB, h1, h2 => by
    by_cases hd : d = kiVar
    · by_cases hd' : d' = kiVar
      · subst hd hd'
        obtain rfl := var_args ta
        obtain rfl := var_args tb
        by_cases hn : n ∈ A
        · obtain ⟨i, hi⟩ := mem_at hn
          have hib : i < B.length := by have := (List.getElem?_eq_some_iff.1 hi).1; omega
          have hbi : B[i]? = some B[i] := List.getElem?_eq_getElem hib
          have e1 := zs_look A B i n _ hA hi hbi
          unfold matT at h1
          simp only [if_true, e1, sameB, Bool.and_eq_true, decide_eq_true_eq] at h1
          obtain ⟨_, hbn, _⟩ := h1
          rw [hbn] at hbi e1
          have hn' : n' ∈ B := List.mem_of_getElem? hbi
          have e2 := zs_look B A i n' n hB hbi hi
          refine ⟨by simp only [ordT, ordTs, hn, hn', not_true, and_false, if_false]; exact hl, ?_, ?_, fun A' B' p1 p2 q1 q2 => ?_⟩
          · unfold matT; simp only [if_true, e1, ordT, ordTs, hn, hn', not_true, and_false, if_false]
          · unfold matT; simp only [if_true, e2, ordT, ordTs, hn, hn', not_true, and_false, if_false]
          · simp only [ordT, ordTs, hn, hn', not_true, and_false, if_false] at p1 p2
            rw [put_var (let_look 0 A' i n q1 (pre_at p1 hi)), put_var (let_look 0 B' i n' q2 (pre_at p2 hbi))]
        · have e1 := zs_none A B n hn
          by_cases hn' : n' ∈ B
          · obtain ⟨i, hi⟩ := mem_at hn'
            have hib : i < A.length := by have := (List.getElem?_eq_some_iff.1 hi).1; omega
            have hai : A[i]? = some A[i] := List.getElem?_eq_getElem hib
            have e2 := zs_look B A i n' _ hB hi hai
            unfold matT at h2
            simp only [if_true, e2, sameB, Bool.and_eq_true, decide_eq_true_eq] at h2
            exact absurd (h2.2.1 ▸ List.mem_of_getElem? hai) hn
          · have e2 := zs_none B A n' hn'
            refine ⟨by simp only [ordT, ordTs, hn, hn', not_false_iff, and_self, if_true, List.length_append, hl, List.length_cons, List.length_nil], ?_, ?_, fun A' B' p1 p2 q1 q2 => ?_⟩
            · unfold matT; simp only [if_true, e1, ordT, ordTs, hn, hn', not_false_iff, and_self]; exact zs_app A B n n' hl
            · unfold matT; simp only [if_true, e2, ordT, ordTs, hn, hn', not_false_iff, and_self]; exact zs_app B A n' n hl.symm
            · simp only [ordT, ordTs, hn, hn', not_false_iff, and_self, if_true] at p1 p2
              have i1 : A'[A.length]? = some n := pre_at p1 (by simp)
              have i2 : B'[A.length]? = some n' := pre_at p2 (by rw [hl]; simp)
              rw [put_var (let_look 0 A' _ n q1 i1), put_var (let_look 0 B' _ n' q2 i2)]
      · exfalso
        unfold matT at h2
        rw [if_neg hd', if_neg (fun h => hd' (h.1.trans hd))] at h2
        cases h2
    · by_cases hd' : d' = kiVar
      · exfalso
        unfold matT at h1
        rw [if_neg hd, if_neg (fun h => hd (h.1.trans hd'))] at h1
        cases h1
      · unfold matT at h1 h2
        rw [if_neg hd] at h1
        rw [if_neg hd'] at h2
        by_cases hc : d = d' ∧ n = n' ∧ us.length = us'.length
        · obtain ⟨rfl, rfl, hlen⟩ := hc
          rw [if_pos ⟨rfl, rfl, hlen⟩] at h1
          rw [if_pos ⟨rfl, rfl, hlen.symm⟩] at h2
          simp only [typeB, Bool.and_eq_true] at ta tb
          obtain ⟨r1, r2, r3, r4⟩ := can_fwds us us' A B ta.2.2.2.2 tb.2.2.2.2 hlen hl hA hB h1 h2
          refine ⟨by simp only [ordT, hd, false_and, if_false]; exact r1, ?_, ?_, fun A' B' p1 p2 q1 q2 => ?_⟩
          · unfold matT; rw [if_neg hd, if_pos ⟨rfl, rfl, hlen⟩]; simp only [ordT, hd, false_and, if_false]; exact r2
          · unfold matT; rw [if_neg hd, if_pos ⟨rfl, rfl, hlen.symm⟩]; simp only [ordT, hd, false_and, if_false]; exact r3
          · simp only [ordT, hd, false_and, if_false] at p1 p2
            rw [put_oth hd, put_oth hd, r4 A' B' p1 p2 q1 q2]
        · rw [if_neg hc] at h1; cases h1
theorem can_fwds : ∀ (a b : List Tr) (A B : List (List UInt8)), typeBs conB a = true → typeBs conB b = true → a.length = b.length → A.length = B.length → A.Nodup → B.Nodup → (matTs a b (zs A B)).1 = true → (matTs b a (zs B A)).1 = true →
    (ordTs a A).length = (ordTs b B).length ∧ (matTs a b (zs A B)).2 = zs (ordTs a A) (ordTs b B) ∧ (matTs b a (zs B A)).2 = zs (ordTs b B) (ordTs a A) ∧
      ∀ A' B', ordTs a A <+: A' → ordTs b B <+: B' → A'.Nodup → B'.Nodup → putTs (letS 0 A') a = putTs (letS 0 B') b
  | [], [], A, B, _, _, _, hl, _, _, _, _ => by simp only [ordTs, matTs, putTs]; exact ⟨hl, trivial, trivial, fun _ _ _ _ _ _ => trivial⟩
  | t :: ts, u :: us, A, B, ta, tb, hlen, hl, hA, hB, h1, h2 => by
    simp only [typeBs, Bool.and_eq_true] at ta tb
    simp only [matTs] at h1 h2
    by_cases g1 : (matT t u (zs A B)).1 = true
    · by_cases g2 : (matT u t (zs B A)).1 = true
      · obtain ⟨r1, r2, r3, r4⟩ := can_fwd t u A B ta.1 tb.1 hl hA hB g1 g2
        have hA' := (ordT_nodup t A hA)
        have hB' := (ordT_nodup u B hB)
        rw [if_pos g1, r2] at h1
        rw [if_pos g2, r3] at h2
        obtain ⟨s1, s2, s3, s4⟩ := can_fwds ts us _ _ ta.2 tb.2 (by simpa using hlen) r1 hA' hB' h1 h2
        refine ⟨by simp only [ordTs]; exact s1, ?_, ?_, fun A' B' p1 p2 q1 q2 => ?_⟩
        · simp only [matTs, ordTs]; rw [if_pos g1, r2]; exact s2
        · simp only [matTs, ordTs]; rw [if_pos g2, r3]; exact s3
        · simp only [ordTs] at p1 p2
          simp only [putTs]
          rw [r4 A' B' ((ords_pre ts _).trans p1) ((ords_pre us _).trans p2) q1 q2, s4 A' B' p1 p2 q1 q2]
      · rw [if_neg g2] at h2; simp at h2
    · rw [if_neg g1] at h1; simp at h1
end
end Go.D

/- Canonical types: the way back; they are canonical themselves. (No program in sight.) -/
set_option linter.unusedVariables false
set_option linter.unusedSimpArgs false
namespace Go.D
open Go Go.Vm

theorem mem_ord_var (n : List UInt8) (A : List (List UInt8)) : (n ∈ A ∧ ordT (.mk kiVar n []) A = A) ∨ (n ∉ A ∧ ordT (.mk kiVar n []) A = A ++ [n]) := by
  by_cases h : n ∈ A
  · left; simp only [ordT, ordTs, h, not_true, and_false, if_false, true_and]
  · right; simp only [ordT, ordTs, h, not_false_iff, and_self, if_true]
theorem lt_pre {A B : List (List UInt8)} (h : A <+: B) {i : Nat} {n : List UInt8} (hi : A[i]? = some n) : i < B.length := (List.getElem?_eq_some_iff.1 (pre_at h hi)).1
theorem var_at {n : List UInt8} {A A' : List (List UInt8)} (h : ordT (.mk kiVar n []) A <+: A') : ∃ i : Nat, A'[i]? = some n := by
  rcases mem_ord_var n A with ⟨h1, h2⟩ | ⟨h1, h2⟩
  · rw [h2] at h
    obtain ⟨i, hi⟩ := mem_at h1
    exact ⟨i, pre_at h hi⟩
  · rw [h2] at h
    exact ⟨A.length, pre_at h (by simp)⟩
theorem nodup_at : ∀ {A : List (List UInt8)} {i j : Nat} {n : List UInt8}, A.Nodup → A[i]? = some n → A[j]? = some n → i = j
  | a :: A, 0, 0, n, _, _, _ => rfl
  | a :: A, 0, j + 1, n, hd, h1, h2 => by
    simp only [List.getElem?_cons_zero, Option.some.injEq, List.getElem?_cons_succ] at h1 h2
    subst h1
    exact absurd (List.mem_of_getElem? h2) (List.nodup_cons.1 hd).1
  | a :: A, i + 1, 0, n, hd, h1, h2 => by
    simp only [List.getElem?_cons_zero, Option.some.injEq, List.getElem?_cons_succ] at h1 h2
    subst h2
    exact absurd (List.mem_of_getElem? h1) (List.nodup_cons.1 hd).1
  | a :: A, i + 1, j + 1, n, hd, h1, h2 => by
    simp only [List.getElem?_cons_succ] at h1 h2
    rw [nodup_at (List.nodup_cons.1 hd).2 h1 h2]
  | [], _, _, _, _, h1, _ => by simp at h1
mutual
theorem can_bwd : ∀ (a b : Tr) (A B A' B' : List (List UInt8)), typeB conB a = true → typeB conB b = true → A.length = B.length → A.Nodup → B.Nodup → ordT a A <+: A' → ordT b B <+: B' → A'.Nodup → B'.Nodup → A'.length ≤ 26 → B'.length ≤ 26 →
    putT (letS 0 A') a = putT (letS 0 B') b → matT a b (zs A B) = (true, zs (ordT a A) (ordT b B)) ∧ (ordT a A).length = (ordT b B).length
  | .mk d n us, .mk d' n' us', A, B, A', B', ta, tb, hl, hA, hB, p1, p2, q1, q2, f1, f2, he => by
    by_cases hd : d = kiVar
    · subst hd
      obtain rfl := var_args ta
      obtain ⟨i, hi⟩ := var_at p1
      rw [put_var (let_look 0 A' i n q1 hi)] at he
      by_cases hd' : d' = kiVar
      · subst hd'
        obtain rfl := var_args tb
        obtain ⟨j, hj⟩ := var_at p2
        rw [put_var (let_look 0 B' j n' q2 hj)] at he
        injection he with _ he _
        have li := (List.getElem?_eq_some_iff.1 hi).1
        have lj := (List.getElem?_eq_some_iff.1 hj).1
        have hij : i = j := by have := letter_inj (i := 0 + i) (j := 0 + j) (by omega) (by omega) he; omega
        subst hij
        rcases mem_ord_var n A with ⟨m1, o1⟩ | ⟨m1, o1⟩
        · obtain ⟨i0, hi0⟩ := mem_at m1
          have hA0 : A'[i0]? = some n := by rw [o1] at p1; exact pre_at p1 hi0
          have e0 : i0 = i := nodup_at q1 hA0 hi
          subst e0
          have hib : i0 < B.length := by have := (List.getElem?_eq_some_iff.1 hi0).1; omega
          have hbi : B[i0]? = some B[i0] := List.getElem?_eq_getElem hib
          have hBi : B'[i0]? = some B[i0] := pre_at ((ord_pre _ B).trans p2) hbi
          rw [hj] at hBi
          injection hBi with hBi
          rw [← hBi] at hbi
          have hn' : n' ∈ B := List.mem_of_getElem? hbi
          have o2 : ordT (.mk kiVar n' []) B = B := by rcases mem_ord_var n' B with ⟨_, h⟩ | ⟨h, _⟩; exact h; exact absurd hn' h
          have e1 := zs_look A B i0 n _ hA hi0 hbi
          refine ⟨?_, by rw [o1, o2]; exact hl⟩
          rw [o1, o2]
          unfold matT
          rw [if_pos rfl, e1]
          simp only [sameB_refl]
        · have hA0 : A'[A.length]? = some n := by rw [o1] at p1; exact pre_at p1 (by simp)
          have e0 : A.length = i := nodup_at q1 hA0 hi
          subst e0
          have hn' : n' ∉ B := fun h => by
            obtain ⟨j, hj2⟩ := mem_at h
            have h3 : B'[j]? = some n' := pre_at ((ord_pre _ B).trans p2) hj2
            have := nodup_at q2 h3 hj
            have := (List.getElem?_eq_some_iff.1 hj2).1
            omega
          have o2 : ordT (.mk kiVar n' []) B = B ++ [n'] := by rcases mem_ord_var n' B with ⟨h, _⟩ | ⟨_, h⟩; exact absurd h hn'; exact h
          have e1 := zs_none A B n m1
          refine ⟨?_, by rw [o1, o2]; simp [hl]⟩
          rw [o1, o2]
          unfold matT
          rw [if_pos rfl, e1]
          simp only
          rw [zs_app A B n n' hl]
      · exfalso
        rw [put_oth hd'] at he
        injection he with he _ _
        exact hd' he.symm
    · by_cases hd' : d' = kiVar
      · exfalso
        subst hd'
        obtain rfl := var_args tb
        obtain ⟨j, hj⟩ := var_at p2
        rw [put_var (let_look 0 B' j n' q2 hj), put_oth hd] at he
        injection he with he _ _
        exact hd he
      · rw [put_oth hd, put_oth hd'] at he
        injection he with he1 he2 he3
        subst he1 he2
        have hlen : us.length = us'.length := by have := congrArg List.length he3; rw [putTs_map, putTs_map, List.length_map, List.length_map] at this; exact this
        simp only [typeB, Bool.and_eq_true] at ta tb
        simp only [ordT, hd, false_and, if_false] at p1 p2 ⊢
        unfold matT
        rw [if_neg hd, if_pos ⟨rfl, rfl, hlen⟩]
        exact can_bwds us us' A B A' B' ta.2.2.2.2 tb.2.2.2.2 hlen hl hA hB p1 p2 q1 q2 f1 f2 he3
theorem can_bwds : ∀ (a b : List Tr) (A B A' B' : List (List UInt8)), typeBs conB a = true → typeBs conB b = true → a.length = b.length → A.length = B.length → A.Nodup → B.Nodup → ordTs a A <+: A' → ordTs b B <+: B' → A'.Nodup → B'.Nodup → A'.length ≤ 26 → B'.length ≤ 26 →
    putTs (letS 0 A') a = putTs (letS 0 B') b → matTs a b (zs A B) = (true, zs (ordTs a A) (ordTs b B)) ∧ (ordTs a A).length = (ordTs b B).length
  | [], [], A, B, A', B', _, _, _, hl, _, _, _, _, _, _, _, _, _ => by simp only [matTs, ordTs]; exact ⟨trivial, hl⟩
  | t :: ts, u :: us, A, B, A', B', ta, tb, hlen, hl, hA, hB, p1, p2, q1, q2, f1, f2, he => by
    simp only [typeBs, Bool.and_eq_true] at ta tb
    simp only [ordTs] at p1 p2 ⊢
    simp only [putTs, List.cons.injEq] at he
    obtain ⟨r1, r2⟩ := can_bwd t u A B A' B' ta.1 tb.1 hl hA hB ((ords_pre ts _).trans p1) ((ords_pre us _).trans p2) q1 q2 f1 f2 he.1
    obtain ⟨s1, s2⟩ := can_bwds ts us _ _ A' B' ta.2 tb.2 (by simpa using hlen) r2 (ordT_nodup t A hA) (ordT_nodup u B hB) p1 p2 q1 q2 f1 f2 he.2
    refine ⟨?_, s2⟩
    simp only [matTs, r1, if_true]
    exact s1
end
def letters (k : Nat) : List (List UInt8) := (List.range k).map letter
theorem letters_at {k i : Nat} (h : i < k) : (letters k)[i]? = some (letter i) := by simp [letters, h]
theorem letters_len (k : Nat) : (letters k).length = k := by simp [letters]
theorem letters_nodup {k : Nat} (h : k ≤ 26) : (letters k).Nodup := by
  unfold letters
  refine List.Pairwise.map _ ?_ (List.Pairwise.imp_of_mem (R := (· ≠ ·)) (S := fun a b => a < k ∧ b < k ∧ a ≠ b) (fun ha hb hab => ⟨List.mem_range.1 ha, List.mem_range.1 hb, hab⟩) List.nodup_range)
  rintro a b ⟨ha, hb, hab⟩ hh
  exact hab (letter_inj (by omega) (by omega) hh)
theorem letters_succ (k : Nat) : letters (k + 1) = letters k ++ [letter k] := by simp [letters, List.range_succ]
theorem letter_mem {k i : Nat} (hi : i < 26) (hk : k ≤ 26) : letter i ∈ letters k ↔ i < k := by
  constructor
  · intro h
    obtain ⟨j, hj, he⟩ := List.mem_map.1 h
    have hj := List.mem_range.1 hj
    have := letter_inj (by omega) hi he
    omega
  · intro h; exact List.mem_of_getElem? (letters_at h)
theorem letter_varB {i : Nat} (hi : i < 26) : varB (letter i) = true := by
  have e : ((97 + i).toUInt8).toNat = 97 + i := by
    show (UInt8.ofNat (97 + i)).toNat = 97 + i
    rw [UInt8.toNat_ofNat']
    exact Nat.mod_eq_of_lt (by omega)
  simp only [varB, letter, btw, List.getD_cons_zero, List.getD_cons_succ, e, Bool.and_eq_true, decide_eq_true_eq]
  exact ⟨rfl, rfl, by omega, by omega⟩
mutual
theorem can_ord : ∀ (t : Tr) (A A' : List (List UInt8)), typeB conB t = true → ordT t A <+: A' → A'.Nodup → A'.length ≤ 26 → ordT (putT (letS 0 A') t) (letters A.length) = letters (ordT t A).length
  | .mk d n us, A, A', ta, p, q, f => by
    by_cases hd : d = kiVar
    · subst hd
      obtain rfl := var_args ta
      obtain ⟨i, hi⟩ := var_at p
      have li := (List.getElem?_eq_some_iff.1 hi).1
      rw [put_var (let_look 0 A' i n q hi), Nat.zero_add]
      rcases mem_ord_var n A with ⟨m1, o1⟩ | ⟨m1, o1⟩
      · obtain ⟨i0, hi0⟩ := mem_at m1
        have e0 : i0 = i := nodup_at q (by rw [o1] at p; exact pre_at p hi0) hi
        subst e0
        have l0 := (List.getElem?_eq_some_iff.1 hi0).1
        have hlA : A.length ≤ 26 := by rw [o1] at p; have := p.length_le; omega
        rw [o1]
        rcases mem_ord_var (letter i0) (letters A.length) with ⟨_, h⟩ | ⟨h, _⟩
        · exact h
        · exact absurd ((letter_mem (by omega) hlA).2 l0) h
      · have e0 : A.length = i := nodup_at q (by rw [o1] at p; exact pre_at p (by simp)) hi
        subst e0
        rw [o1]
        rcases mem_ord_var (letter A.length) (letters A.length) with ⟨h, _⟩ | ⟨_, h⟩
        · have := (letter_mem (by omega) (by omega)).1 h; omega
        · rw [h, List.length_append, List.length_cons, List.length_nil, letters_succ]
    · rw [put_oth hd]
      simp only [ordT, hd, false_and, if_false] at p ⊢
      simp only [typeB, Bool.and_eq_true] at ta
      exact can_ords us A A' ta.2.2.2.2 p q f
theorem can_ords : ∀ (l : List Tr) (A A' : List (List UInt8)), typeBs conB l = true → ordTs l A <+: A' → A'.Nodup → A'.length ≤ 26 → ordTs (putTs (letS 0 A') l) (letters A.length) = letters (ordTs l A).length
  | [], A, A', _, _, _, _ => by simp only [putTs, ordTs]
  | t :: ts, A, A', ta, p, q, f => by
    simp only [typeBs, Bool.and_eq_true] at ta
    simp only [putTs, ordTs] at p ⊢
    rw [can_ord t A A' ta.1 ((ords_pre ts _).trans p) q f]
    exact can_ords ts _ A' ta.2 p q f
end
mutual
/-- Put names in place of variables: of the same shape and size, and fixed by the first variables. -/
theorem can_shape : ∀ (t : Tr) (A A' : List (List UInt8)), typeB conB t = true → ordT t A <+: A' → A'.Nodup → A'.length ≤ 26 →
    typeB conB (putT (letS 0 A') t) = true ∧ ofT (putT (letS 0 A') t) = ofT t ∧ (lenT t → lenT (putT (letS 0 A') t)) ∧ ∀ k, A'.length ≤ k → k ≤ 26 → putT (letS 0 (letters k)) (putT (letS 0 A') t) = putT (letS 0 A') t
  | .mk d n us, A, A', ta, p, q, f => by
    by_cases hd : d = kiVar
    · subst hd
      obtain rfl := var_args ta
      obtain ⟨i, hi⟩ := var_at p
      have li := (List.getElem?_eq_some_iff.1 hi).1
      rw [put_var (let_look 0 A' i n q hi), Nat.zero_add]
      refine ⟨?_, by simp only [ofT, ofTs], fun _ => by simp [lenT, lenTs, letter], fun k h1 h2 => ?_⟩
      · have hv := letter_varB (i := i) (by omega)
        have hdd : ¬ kiVar = kiData := by decide
        have hpp : partsI kiVar = 0 := by decide
        simp [typeB, typeBs, hv, hdd, hpp]
      · have := let_look 0 (letters k) i (letter i) (letters_nodup h2) (letters_at (by omega))
        rw [Nat.zero_add] at this
        exact put_var this
    · rw [put_oth hd]
      simp only [ordT, hd, false_and, if_false] at p
      have ta' := ta
      simp only [typeB, Bool.and_eq_true] at ta
      obtain ⟨r1, r2, r3, r4⟩ := can_shapes us A A' ta.2.2.2.2 p q f
      have hlen : (putTs (letS 0 A') us).length = us.length := by rw [putTs_map, List.length_map]
      refine ⟨?_, by simp only [ofT, r2], fun h => ?_, fun k h1 h2 => ?_⟩
      · simp only [typeB, Bool.and_eq_true, hlen]
        exact ⟨ta.1, ta.2.1, ta.2.2.1, ta.2.2.2.1, r1⟩
      · simp only [lenT, hlen] at h ⊢
        exact ⟨h.1, h.2.1, r3 h.2.2⟩
      · rw [put_oth hd, r4 k h1 h2]
theorem can_shapes : ∀ (l : List Tr) (A A' : List (List UInt8)), typeBs conB l = true → ordTs l A <+: A' → A'.Nodup → A'.length ≤ 26 →
    typeBs conB (putTs (letS 0 A') l) = true ∧ ofTs (putTs (letS 0 A') l) = ofTs l ∧ (lenTs l → lenTs (putTs (letS 0 A') l)) ∧ ∀ k, A'.length ≤ k → k ≤ 26 → putTs (letS 0 (letters k)) (putTs (letS 0 A') l) = putTs (letS 0 A') l
  | [], A, A', _, _, _, _ => by
    refine ⟨?_, ?_, ?_, ?_⟩ <;> simp [typeBs, ofTs, lenTs, putTs]
  | t :: ts, A, A', ta, p, q, f => by
    simp only [typeBs, Bool.and_eq_true] at ta
    simp only [ordTs] at p
    obtain ⟨r1, r2, r3, r4⟩ := can_shape t A A' ta.1 ((ords_pre ts _).trans p) q f
    obtain ⟨s1, s2, s3, s4⟩ := can_shapes ts _ A' ta.2 p q f
    simp only [putTs]
    refine ⟨by simp only [typeBs, r1, s1, Bool.and_self], by simp only [ofTs, r2, s2], fun h => ?_, fun k h1 h2 => by rw [r4 k h1 h2, s4 k h1 h2]⟩
    simp only [lenTs] at h ⊢
    exact ⟨r3 h.1, s3 h.2⟩
end
/-- What is put is a valid type, and canonical. -/
theorem can_self {t : Tr} (hv : validT conB t = true) : validT conB (canT t) = true ∧ (lenT t → lenT (canT t)) ∧ canT (canT t) = canT t := by
  have ht : typeB conB t = true := by unfold validT at hv; simp only [Bool.and_eq_true] at hv; exact hv.1
  have hn := ordT_names t [] ht (by simp) (by simp)
  have hf := vars_few hn.1 hn.2
  obtain ⟨r1, r2, r3, r4⟩ := can_shape t [] (ordT t []) ht (List.prefix_refl _) hn.1 hf
  have ho := can_ord t [] (ordT t []) ht (List.prefix_refl _) hn.1 hf
  refine ⟨?_, r3, ?_⟩
  · unfold validT canT at *
    rw [r1, r2]
    simp only [Bool.and_eq_true] at hv
    simp only [hv.2, Bool.and_self]
  · have e0 : letters ([] : List (List UInt8)).length = [] := rfl
    rw [e0] at ho
    show putT (letS 0 (ordT (canT t) [])) (canT t) = canT t
    unfold canT
    rw [ho]
    exact r4 _ (Nat.le_refl _) hf
/-- Two types are instances of each other just if their canonical types are the same. -/
theorem can_law {a b : Tr} (ha : validT conB a = true) (hb : validT conB b = true) :
    (decide ((instR a b).2 = 0) && decide ((instR b a).2 = 0)) = sameB (canT a) (canT b) := by
  have ta : typeB conB a = true := by unfold validT at ha; simp only [Bool.and_eq_true] at ha; exact ha.1
  have tb : typeB conB b = true := by unfold validT at hb; simp only [Bool.and_eq_true] at hb; exact hb.1
  have na := ordT_names a [] ta (by simp) (by simp)
  have nb := ordT_names b [] tb (by simp) (by simp)
  have fa := vars_few na.1 na.2
  have fb := vars_few nb.1 nb.2
  have e1 : ∀ x y, validT conB x = true → validT conB y = true → decide ((instR x y).2 = 0) = (matT x y []).1 := fun x y hx hy => by
    unfold instR
    rw [if_pos ⟨hx, hy⟩]
    cases h : (matT x y []).1
    · rw [if_neg (by simp)]; rfl
    · rw [if_pos rfl]; rfl
  rw [e1 a b ha hb, e1 b a hb ha]
  have z0 : zs [] [] = [] := rfl
  rw [Bool.eq_iff_iff, Bool.and_eq_true, sameB_iff]
  constructor
  · rintro ⟨h1, h2⟩
    exact (can_fwd a b [] [] ta tb rfl (by simp) (by simp) h1 h2).2.2.2 _ _ (List.prefix_refl _) (List.prefix_refl _) na.1 nb.1
  · intro h
    have h1 := (can_bwd a b [] [] _ _ ta tb rfl (by simp) (by simp) (List.prefix_refl _) (List.prefix_refl _) na.1 nb.1 fa fb h).1
    have h2 := (can_bwd b a [] [] _ _ tb ta rfl (by simp) (by simp) (List.prefix_refl _) (List.prefix_refl _) nb.1 na.1 fb fa h.symm).1
    rw [z0] at h1 h2
    exact ⟨by rw [h1], by rw [h2]⟩
end Go.D

/- Two types are instances of each other just if their canonical types are the same: the law. -/
set_option linter.unusedVariables false
set_option linter.unusedSimpArgs false
set_option linter.unnecessarySimpa false
set_option maxRecDepth 100000
namespace Go.D
open Go Go.Vm Go.Proofs Go.RowKit

theorem canon_ok (t : Tr) (hl : lenT t) (σ : List Ent) : ACalls E 22 [tyV t] σ fun r τ => r = .tup [tyV (canR t).1, i64 (canR t).2] ∧ τ = σ :=
  Canonical_ok t hl (fun σ' ok => clone_ok _ _ (Nat.le_refl _) σ' (by
    have hn := ordT_names t [] ok.2 (by simp) (by simp)
    obtain ⟨r1, _, r3, _⟩ := can_shape t [] (ordT t []) ok.2 (List.prefix_refl _) hn.1 (vars_few hn.1 hn.2)
    exact ⟨r3 hl, r1⟩)) σ
set_option maxHeartbeats 8000000 in
theorem law_canonical (haw : ∀ σ : List Ent, ACalls E 15 [] σ fun r τ => r = boolV true ∧ τ = σ) (a b : Tr) (ha : lenT a) (hb : lenT b) (σ : List Ent) :
    HasBody E 6 ∧ ∀ (s : S) (vs : List Value), s.σ = σ → HInv s → E.Γ s.B s.w → RepL s [tyV a, tyV b] vs →
      Calls E.P 6 vs.toArray s.w fun e w' => ∃ v r s', e = .returned v ∧ s'.w = w' ∧ HInv s' ∧ Ext s s' ∧ Rep s' r v ∧ (r = boolV true ∧ s'.σ = σ) := by
  refine xbody T0 .drop [] Tryz.func6 rfl (by kernel_rfl) (by kernel_rfl) (by simp [Tryz.ntmps6]) (R := fun r τ => r = boolV true ∧ τ = σ) ?_
  have c1 := fun σ' => canon_ok a ha σ'
  have c2 := fun σ' => canon_ok b hb σ'
  have i1 := fun σ' => Instance_ok a b ha hb σ'
  have i2 := fun σ' => Instance_ok b a hb ha σ'
  cases va : validT conB a
  · have ea : canR a = (.mk [] [] [], 40) := by unfold canR; rw [if_neg (by rw [va]; simp)]
    rw [ea] at c1
    rcases hcb : canR b with ⟨⟨d4, n4, us4⟩, eb⟩
    rw [hcb] at c2
    cases a with
    | mk d n us =>
    cases b with
    | mk d' n' us' =>
    simp only [tyV] at c1 c2
    (simp only [tyV, (vm1), (vm2), (vm3), (vm4), aDet, ev, tget, tput, ofC, ofC1, pureR, condR, abin, aun, alen, gslot, Nat.reduceEqDiff, reduceIte, argTs, asliceS, asliceL, bnd, boolV, intV, retQ, aRes, aResV, oneAV, AV.low, AV.low.lows, Nat.reduceAdd, isStringD, isSliceD, isBoolD, setRange, AV.cells, AV.isCell, AV.isAgg, abytes, aconv, aeq, isConst, isByteD, isIfaceD, endQ, Int.reduceToNat, Int.reduceLE, Int.reduceLT, Int.reduceEq, Int.reduceNe, Int.reduceAdd, Int.reduceSub, Int.reduceNeg, Nat.reduceLT, Nat.reduceLeDiff, Ent.ver, Ent.imm, Ent.ty, lits, isEl, newCells, aappend, Nat.reduceBEq, fill, undef, (st1), (st2), (st3), (st4), (st5), aMap, mget, mput, mclock, ksOK, keq, mres, fillA, isArrD, arrE, Nat.reduceMul]; try simp (disch := omega) only [wrapI64, Int.toNat_natCast, ← Int.natCast_add, nat_add_one, nat_add_two, take_drop_all, List.drop_zero, Nat.sub_zero, Nat.add_sub_cancel_left])
    refine xWait.go (c1 _) ?_
    (simp only [(vm1), (vm2), (vm3), (vm4), aDet, ev, tget, tput, ofC, ofC1, pureR, condR, abin, aun, alen, gslot, Nat.reduceEqDiff, reduceIte, argTs, asliceS, asliceL, bnd, boolV, intV, retQ, aRes, aResV, oneAV, AV.low, AV.low.lows, Nat.reduceAdd, isStringD, isSliceD, isBoolD, setRange, AV.cells, AV.isCell, AV.isAgg, abytes, aconv, aeq, isConst, isByteD, isIfaceD, endQ, Int.reduceToNat, Int.reduceLE, Int.reduceLT, Int.reduceEq, Int.reduceNe, Int.reduceAdd, Int.reduceSub, Int.reduceNeg, Nat.reduceLT, Nat.reduceLeDiff, Ent.ver, Ent.imm, Ent.ty, lits, isEl, newCells, aappend, Nat.reduceBEq, fill, undef, (st1), (st2), (st3), (st4), (st5), aMap, mget, mput, mclock, ksOK, keq, mres, fillA, isArrD, arrE, Nat.reduceMul]; try simp (disch := omega) only [wrapI64, Int.toNat_natCast, ← Int.natCast_add, nat_add_one, nat_add_two, take_drop_all, List.drop_zero, Nat.sub_zero, Nat.add_sub_cancel_left])
    refine xWait.go (c2 _) ?_
    (simp only [(vm1), (vm2), (vm3), (vm4), aDet, ev, tget, tput, ofC, ofC1, pureR, condR, abin, aun, alen, gslot, Nat.reduceEqDiff, reduceIte, argTs, asliceS, asliceL, bnd, boolV, intV, retQ, aRes, aResV, oneAV, AV.low, AV.low.lows, Nat.reduceAdd, isStringD, isSliceD, isBoolD, setRange, AV.cells, AV.isCell, AV.isAgg, abytes, aconv, aeq, isConst, isByteD, isIfaceD, endQ, Int.reduceToNat, Int.reduceLE, Int.reduceLT, Int.reduceEq, Int.reduceNe, Int.reduceAdd, Int.reduceSub, Int.reduceNeg, Nat.reduceLT, Nat.reduceLeDiff, Ent.ver, Ent.imm, Ent.ty, lits, isEl, newCells, aappend, Nat.reduceBEq, fill, undef, (st1), (st2), (st3), (st4), (st5), aMap, mget, mput, mclock, ksOK, keq, mres, fillA, isArrD, arrE, Nat.reduceMul]; try simp (disch := omega) only [wrapI64, Int.toNat_natCast, ← Int.natCast_add, nat_add_one, nat_add_two, take_drop_all, List.drop_zero, Nat.sub_zero, Nat.add_sub_cancel_left])
    refine xWait.go (haw _) ?_
    (simp only [(vm1), (vm2), (vm3), (vm4), aDet, ev, tget, tput, ofC, ofC1, pureR, condR, abin, aun, alen, gslot, Nat.reduceEqDiff, reduceIte, argTs, asliceS, asliceL, bnd, boolV, intV, retQ, aRes, aResV, oneAV, AV.low, AV.low.lows, Nat.reduceAdd, isStringD, isSliceD, isBoolD, setRange, AV.cells, AV.isCell, AV.isAgg, abytes, aconv, aeq, isConst, isByteD, isIfaceD, endQ, Int.reduceToNat, Int.reduceLE, Int.reduceLT, Int.reduceEq, Int.reduceNe, Int.reduceAdd, Int.reduceSub, Int.reduceNeg, Nat.reduceLT, Nat.reduceLeDiff, Ent.ver, Ent.imm, Ent.ty, lits, isEl, newCells, aappend, Nat.reduceBEq, fill, undef, (st1), (st2), (st3), (st4), (st5), aMap, mget, mput, mclock, ksOK, keq, mres, fillA, isArrD, arrE, Nat.reduceMul]; try simp (disch := omega) only [wrapI64, Int.toNat_natCast, ← Int.natCast_add, nat_add_one, nat_add_two, take_drop_all, List.drop_zero, Nat.sub_zero, Nat.add_sub_cancel_left])
  cases vb : validT conB b
  · have ea : canR a = (canT a, 0) := by unfold canR; rw [if_pos va]
    have eb : canR b = (.mk [] [] [], 40) := by unfold canR; rw [if_neg (by rw [vb]; simp)]
    rw [ea] at c1
    rw [eb] at c2
    rcases hca : canT a with ⟨d4, n4, us4⟩
    rw [hca] at c1
    cases a with
    | mk d n us =>
    cases b with
    | mk d' n' us' =>
    simp only [tyV] at c1 c2
    (simp only [tyV, (vm1), (vm2), (vm3), (vm4), aDet, ev, tget, tput, ofC, ofC1, pureR, condR, abin, aun, alen, gslot, Nat.reduceEqDiff, reduceIte, argTs, asliceS, asliceL, bnd, boolV, intV, retQ, aRes, aResV, oneAV, AV.low, AV.low.lows, Nat.reduceAdd, isStringD, isSliceD, isBoolD, setRange, AV.cells, AV.isCell, AV.isAgg, abytes, aconv, aeq, isConst, isByteD, isIfaceD, endQ, Int.reduceToNat, Int.reduceLE, Int.reduceLT, Int.reduceEq, Int.reduceNe, Int.reduceAdd, Int.reduceSub, Int.reduceNeg, Nat.reduceLT, Nat.reduceLeDiff, Ent.ver, Ent.imm, Ent.ty, lits, isEl, newCells, aappend, Nat.reduceBEq, fill, undef, (st1), (st2), (st3), (st4), (st5), aMap, mget, mput, mclock, ksOK, keq, mres, fillA, isArrD, arrE, Nat.reduceMul]; try simp (disch := omega) only [wrapI64, Int.toNat_natCast, ← Int.natCast_add, nat_add_one, nat_add_two, take_drop_all, List.drop_zero, Nat.sub_zero, Nat.add_sub_cancel_left])
    refine xWait.go (c1 _) ?_
    (simp only [(vm1), (vm2), (vm3), (vm4), aDet, ev, tget, tput, ofC, ofC1, pureR, condR, abin, aun, alen, gslot, Nat.reduceEqDiff, reduceIte, argTs, asliceS, asliceL, bnd, boolV, intV, retQ, aRes, aResV, oneAV, AV.low, AV.low.lows, Nat.reduceAdd, isStringD, isSliceD, isBoolD, setRange, AV.cells, AV.isCell, AV.isAgg, abytes, aconv, aeq, isConst, isByteD, isIfaceD, endQ, Int.reduceToNat, Int.reduceLE, Int.reduceLT, Int.reduceEq, Int.reduceNe, Int.reduceAdd, Int.reduceSub, Int.reduceNeg, Nat.reduceLT, Nat.reduceLeDiff, Ent.ver, Ent.imm, Ent.ty, lits, isEl, newCells, aappend, Nat.reduceBEq, fill, undef, (st1), (st2), (st3), (st4), (st5), aMap, mget, mput, mclock, ksOK, keq, mres, fillA, isArrD, arrE, Nat.reduceMul]; try simp (disch := omega) only [wrapI64, Int.toNat_natCast, ← Int.natCast_add, nat_add_one, nat_add_two, take_drop_all, List.drop_zero, Nat.sub_zero, Nat.add_sub_cancel_left])
    refine xWait.go (c2 _) ?_
    (simp only [(vm1), (vm2), (vm3), (vm4), aDet, ev, tget, tput, ofC, ofC1, pureR, condR, abin, aun, alen, gslot, Nat.reduceEqDiff, reduceIte, argTs, asliceS, asliceL, bnd, boolV, intV, retQ, aRes, aResV, oneAV, AV.low, AV.low.lows, Nat.reduceAdd, isStringD, isSliceD, isBoolD, setRange, AV.cells, AV.isCell, AV.isAgg, abytes, aconv, aeq, isConst, isByteD, isIfaceD, endQ, Int.reduceToNat, Int.reduceLE, Int.reduceLT, Int.reduceEq, Int.reduceNe, Int.reduceAdd, Int.reduceSub, Int.reduceNeg, Nat.reduceLT, Nat.reduceLeDiff, Ent.ver, Ent.imm, Ent.ty, lits, isEl, newCells, aappend, Nat.reduceBEq, fill, undef, (st1), (st2), (st3), (st4), (st5), aMap, mget, mput, mclock, ksOK, keq, mres, fillA, isArrD, arrE, Nat.reduceMul]; try simp (disch := omega) only [wrapI64, Int.toNat_natCast, ← Int.natCast_add, nat_add_one, nat_add_two, take_drop_all, List.drop_zero, Nat.sub_zero, Nat.add_sub_cancel_left])
    refine xWait.go (haw _) ?_
    (simp only [(vm1), (vm2), (vm3), (vm4), aDet, ev, tget, tput, ofC, ofC1, pureR, condR, abin, aun, alen, gslot, Nat.reduceEqDiff, reduceIte, argTs, asliceS, asliceL, bnd, boolV, intV, retQ, aRes, aResV, oneAV, AV.low, AV.low.lows, Nat.reduceAdd, isStringD, isSliceD, isBoolD, setRange, AV.cells, AV.isCell, AV.isAgg, abytes, aconv, aeq, isConst, isByteD, isIfaceD, endQ, Int.reduceToNat, Int.reduceLE, Int.reduceLT, Int.reduceEq, Int.reduceNe, Int.reduceAdd, Int.reduceSub, Int.reduceNeg, Nat.reduceLT, Nat.reduceLeDiff, Ent.ver, Ent.imm, Ent.ty, lits, isEl, newCells, aappend, Nat.reduceBEq, fill, undef, (st1), (st2), (st3), (st4), (st5), aMap, mget, mput, mclock, ksOK, keq, mres, fillA, isArrD, arrE, Nat.reduceMul]; try simp (disch := omega) only [wrapI64, Int.toNat_natCast, ← Int.natCast_add, nat_add_one, nat_add_two, take_drop_all, List.drop_zero, Nat.sub_zero, Nat.add_sub_cancel_left])
  have ea : canR a = (canT a, 0) := by unfold canR; rw [if_pos va]
  have eb : canR b = (canT b, 0) := by unfold canR; rw [if_pos vb]
  have hlaw := can_law va vb
  obtain ⟨s1, s2, s3⟩ := can_self va
  obtain ⟨_, t2, _⟩ := can_self vb
  have c3 := fun σ' => canon_ok (canT a) (s2 ha) σ'
  have ec : canR (canT a) = (canT a, 0) := by unfold canR; rw [if_pos s1, s3]
  rw [ea] at c1
  rw [eb] at c2
  rw [ec] at c3
  have q1 := fun σ' => SameType2_ok _ (canT a) (Nat.le_refl _) (canT b) σ' (s2 ha) (t2 hb)
  have q2 := fun σ' => SameType2_ok _ (canT a) (Nat.le_refl _) (canT a) σ' (s2 ha) (s2 ha)
  rw [sameB_refl] at q2
  generalize hI1 : instR a b = I1 at *
  generalize hI2 : instR b a = I2 at *
  rcases I1 with ⟨l1, e1⟩
  rcases I2 with ⟨l2, e2⟩
  simp only at hlaw i1 i2
  rw [← hlaw] at q1
  rcases hca : canT a with ⟨d4, n4, us4⟩
  rcases hcb : canT b with ⟨d5, n5, us5⟩
  rw [hca] at c1 c3 q1 q2
  rw [hcb] at c2 q1
  cases a with
  | mk d n us =>
  cases b with
  | mk d' n' us' =>
  simp only [tyV] at c1 c2 c3 q1 q2 i1 i2
  (simp only [tyV, (vm1), (vm2), (vm3), (vm4), aDet, ev, tget, tput, ofC, ofC1, pureR, condR, abin, aun, alen, gslot, Nat.reduceEqDiff, reduceIte, argTs, asliceS, asliceL, bnd, boolV, intV, retQ, aRes, aResV, oneAV, AV.low, AV.low.lows, Nat.reduceAdd, isStringD, isSliceD, isBoolD, setRange, AV.cells, AV.isCell, AV.isAgg, abytes, aconv, aeq, isConst, isByteD, isIfaceD, endQ, Int.reduceToNat, Int.reduceLE, Int.reduceLT, Int.reduceEq, Int.reduceNe, Int.reduceAdd, Int.reduceSub, Int.reduceNeg, Nat.reduceLT, Nat.reduceLeDiff, Ent.ver, Ent.imm, Ent.ty, lits, isEl, newCells, aappend, Nat.reduceBEq, fill, undef, (st1), (st2), (st3), (st4), (st5), aMap, mget, mput, mclock, ksOK, keq, mres, fillA, isArrD, arrE, Nat.reduceMul]; try simp (disch := omega) only [wrapI64, Int.toNat_natCast, ← Int.natCast_add, nat_add_one, nat_add_two, take_drop_all, List.drop_zero, Nat.sub_zero, Nat.add_sub_cancel_left])
  refine xWait.go (c1 _) ?_
  (simp only [(vm1), (vm2), (vm3), (vm4), aDet, ev, tget, tput, ofC, ofC1, pureR, condR, abin, aun, alen, gslot, Nat.reduceEqDiff, reduceIte, argTs, asliceS, asliceL, bnd, boolV, intV, retQ, aRes, aResV, oneAV, AV.low, AV.low.lows, Nat.reduceAdd, isStringD, isSliceD, isBoolD, setRange, AV.cells, AV.isCell, AV.isAgg, abytes, aconv, aeq, isConst, isByteD, isIfaceD, endQ, Int.reduceToNat, Int.reduceLE, Int.reduceLT, Int.reduceEq, Int.reduceNe, Int.reduceAdd, Int.reduceSub, Int.reduceNeg, Nat.reduceLT, Nat.reduceLeDiff, Ent.ver, Ent.imm, Ent.ty, lits, isEl, newCells, aappend, Nat.reduceBEq, fill, undef, (st1), (st2), (st3), (st4), (st5), aMap, mget, mput, mclock, ksOK, keq, mres, fillA, isArrD, arrE, Nat.reduceMul]; try simp (disch := omega) only [wrapI64, Int.toNat_natCast, ← Int.natCast_add, nat_add_one, nat_add_two, take_drop_all, List.drop_zero, Nat.sub_zero, Nat.add_sub_cancel_left])
  refine xWait.go (c2 _) ?_
  (simp only [(vm1), (vm2), (vm3), (vm4), aDet, ev, tget, tput, ofC, ofC1, pureR, condR, abin, aun, alen, gslot, Nat.reduceEqDiff, reduceIte, argTs, asliceS, asliceL, bnd, boolV, intV, retQ, aRes, aResV, oneAV, AV.low, AV.low.lows, Nat.reduceAdd, isStringD, isSliceD, isBoolD, setRange, AV.cells, AV.isCell, AV.isAgg, abytes, aconv, aeq, isConst, isByteD, isIfaceD, endQ, Int.reduceToNat, Int.reduceLE, Int.reduceLT, Int.reduceEq, Int.reduceNe, Int.reduceAdd, Int.reduceSub, Int.reduceNeg, Nat.reduceLT, Nat.reduceLeDiff, Ent.ver, Ent.imm, Ent.ty, lits, isEl, newCells, aappend, Nat.reduceBEq, fill, undef, (st1), (st2), (st3), (st4), (st5), aMap, mget, mput, mclock, ksOK, keq, mres, fillA, isArrD, arrE, Nat.reduceMul]; try simp (disch := omega) only [wrapI64, Int.toNat_natCast, ← Int.natCast_add, nat_add_one, nat_add_two, take_drop_all, List.drop_zero, Nat.sub_zero, Nat.add_sub_cancel_left])
  refine xWait.go (i1 _) ?_
  (simp only [(vm1), (vm2), (vm3), (vm4), aDet, ev, tget, tput, ofC, ofC1, pureR, condR, abin, aun, alen, gslot, Nat.reduceEqDiff, reduceIte, argTs, asliceS, asliceL, bnd, boolV, intV, retQ, aRes, aResV, oneAV, AV.low, AV.low.lows, Nat.reduceAdd, isStringD, isSliceD, isBoolD, setRange, AV.cells, AV.isCell, AV.isAgg, abytes, aconv, aeq, isConst, isByteD, isIfaceD, endQ, Int.reduceToNat, Int.reduceLE, Int.reduceLT, Int.reduceEq, Int.reduceNe, Int.reduceAdd, Int.reduceSub, Int.reduceNeg, Nat.reduceLT, Nat.reduceLeDiff, Ent.ver, Ent.imm, Ent.ty, lits, isEl, newCells, aappend, Nat.reduceBEq, fill, undef, (st1), (st2), (st3), (st4), (st5), aMap, mget, mput, mclock, ksOK, keq, mres, fillA, isArrD, arrE, Nat.reduceMul]; try simp (disch := omega) only [wrapI64, Int.toNat_natCast, ← Int.natCast_add, nat_add_one, nat_add_two, take_drop_all, List.drop_zero, Nat.sub_zero, Nat.add_sub_cancel_left])
  refine xWait.go (i2 _) ?_
  (simp only [(vm1), (vm2), (vm3), (vm4), aDet, ev, tget, tput, ofC, ofC1, pureR, condR, abin, aun, alen, gslot, Nat.reduceEqDiff, reduceIte, argTs, asliceS, asliceL, bnd, boolV, intV, retQ, aRes, aResV, oneAV, AV.low, AV.low.lows, Nat.reduceAdd, isStringD, isSliceD, isBoolD, setRange, AV.cells, AV.isCell, AV.isAgg, abytes, aconv, aeq, isConst, isByteD, isIfaceD, endQ, Int.reduceToNat, Int.reduceLE, Int.reduceLT, Int.reduceEq, Int.reduceNe, Int.reduceAdd, Int.reduceSub, Int.reduceNeg, Nat.reduceLT, Nat.reduceLeDiff, Ent.ver, Ent.imm, Ent.ty, lits, isEl, newCells, aappend, Nat.reduceBEq, fill, undef, (st1), (st2), (st3), (st4), (st5), aMap, mget, mput, mclock, ksOK, keq, mres, fillA, isArrD, arrE, Nat.reduceMul]; try simp (disch := omega) only [wrapI64, Int.toNat_natCast, ← Int.natCast_add, nat_add_one, nat_add_two, take_drop_all, List.drop_zero, Nat.sub_zero, Nat.add_sub_cancel_left])
  refine xWait.go (c3 _) ?_
  by_cases g1 : e1 = 0
  · by_cases g2 : e2 = 0
    · simp only [g1, g2, decide_true, Bool.and_self] at q1
      (simp only [g1, g2, (vm1), (vm2), (vm3), (vm4), aDet, ev, tget, tput, ofC, ofC1, pureR, condR, abin, aun, alen, gslot, Nat.reduceEqDiff, reduceIte, argTs, asliceS, asliceL, bnd, boolV, intV, retQ, aRes, aResV, oneAV, AV.low, AV.low.lows, Nat.reduceAdd, isStringD, isSliceD, isBoolD, setRange, AV.cells, AV.isCell, AV.isAgg, abytes, aconv, aeq, isConst, isByteD, isIfaceD, endQ, Int.reduceToNat, Int.reduceLE, Int.reduceLT, Int.reduceEq, Int.reduceNe, Int.reduceAdd, Int.reduceSub, Int.reduceNeg, Nat.reduceLT, Nat.reduceLeDiff, Ent.ver, Ent.imm, Ent.ty, lits, isEl, newCells, aappend, Nat.reduceBEq, fill, undef, (st1), (st2), (st3), (st4), (st5), aMap, mget, mput, mclock, ksOK, keq, mres, fillA, isArrD, arrE, Nat.reduceMul]; try simp (disch := omega) only [wrapI64, Int.toNat_natCast, ← Int.natCast_add, nat_add_one, nat_add_two, take_drop_all, List.drop_zero, Nat.sub_zero, Nat.add_sub_cancel_left])
      refine xWait.go (q1 _) ?_
      (simp only [(vm1), (vm2), (vm3), (vm4), aDet, ev, tget, tput, ofC, ofC1, pureR, condR, abin, aun, alen, gslot, Nat.reduceEqDiff, reduceIte, argTs, asliceS, asliceL, bnd, boolV, intV, retQ, aRes, aResV, oneAV, AV.low, AV.low.lows, Nat.reduceAdd, isStringD, isSliceD, isBoolD, setRange, AV.cells, AV.isCell, AV.isAgg, abytes, aconv, aeq, isConst, isByteD, isIfaceD, endQ, Int.reduceToNat, Int.reduceLE, Int.reduceLT, Int.reduceEq, Int.reduceNe, Int.reduceAdd, Int.reduceSub, Int.reduceNeg, Nat.reduceLT, Nat.reduceLeDiff, Ent.ver, Ent.imm, Ent.ty, lits, isEl, newCells, aappend, Nat.reduceBEq, fill, undef, (st1), (st2), (st3), (st4), (st5), aMap, mget, mput, mclock, ksOK, keq, mres, fillA, isArrD, arrE, Nat.reduceMul]; try simp (disch := omega) only [wrapI64, Int.toNat_natCast, ← Int.natCast_add, nat_add_one, nat_add_two, take_drop_all, List.drop_zero, Nat.sub_zero, Nat.add_sub_cancel_left])
      refine xWait.go (q2 _) ?_
      (simp only [(vm1), (vm2), (vm3), (vm4), aDet, ev, tget, tput, ofC, ofC1, pureR, condR, abin, aun, alen, gslot, Nat.reduceEqDiff, reduceIte, argTs, asliceS, asliceL, bnd, boolV, intV, retQ, aRes, aResV, oneAV, AV.low, AV.low.lows, Nat.reduceAdd, isStringD, isSliceD, isBoolD, setRange, AV.cells, AV.isCell, AV.isAgg, abytes, aconv, aeq, isConst, isByteD, isIfaceD, endQ, Int.reduceToNat, Int.reduceLE, Int.reduceLT, Int.reduceEq, Int.reduceNe, Int.reduceAdd, Int.reduceSub, Int.reduceNeg, Nat.reduceLT, Nat.reduceLeDiff, Ent.ver, Ent.imm, Ent.ty, lits, isEl, newCells, aappend, Nat.reduceBEq, fill, undef, (st1), (st2), (st3), (st4), (st5), aMap, mget, mput, mclock, ksOK, keq, mres, fillA, isArrD, arrE, Nat.reduceMul]; try simp (disch := omega) only [wrapI64, Int.toNat_natCast, ← Int.natCast_add, nat_add_one, nat_add_two, take_drop_all, List.drop_zero, Nat.sub_zero, Nat.add_sub_cancel_left])
      refine xWait.go (haw _) ?_
      (simp only [(vm1), (vm2), (vm3), (vm4), aDet, ev, tget, tput, ofC, ofC1, pureR, condR, abin, aun, alen, gslot, Nat.reduceEqDiff, reduceIte, argTs, asliceS, asliceL, bnd, boolV, intV, retQ, aRes, aResV, oneAV, AV.low, AV.low.lows, Nat.reduceAdd, isStringD, isSliceD, isBoolD, setRange, AV.cells, AV.isCell, AV.isAgg, abytes, aconv, aeq, isConst, isByteD, isIfaceD, endQ, Int.reduceToNat, Int.reduceLE, Int.reduceLT, Int.reduceEq, Int.reduceNe, Int.reduceAdd, Int.reduceSub, Int.reduceNeg, Nat.reduceLT, Nat.reduceLeDiff, Ent.ver, Ent.imm, Ent.ty, lits, isEl, newCells, aappend, Nat.reduceBEq, fill, undef, (st1), (st2), (st3), (st4), (st5), aMap, mget, mput, mclock, ksOK, keq, mres, fillA, isArrD, arrE, Nat.reduceMul]; try simp (disch := omega) only [wrapI64, Int.toNat_natCast, ← Int.natCast_add, nat_add_one, nat_add_two, take_drop_all, List.drop_zero, Nat.sub_zero, Nat.add_sub_cancel_left])
    · simp only [g1, g2, decide_true, decide_false, Bool.and_false] at q1
      (simp only [g1, g2, (vm1), (vm2), (vm3), (vm4), aDet, ev, tget, tput, ofC, ofC1, pureR, condR, abin, aun, alen, gslot, Nat.reduceEqDiff, reduceIte, argTs, asliceS, asliceL, bnd, boolV, intV, retQ, aRes, aResV, oneAV, AV.low, AV.low.lows, Nat.reduceAdd, isStringD, isSliceD, isBoolD, setRange, AV.cells, AV.isCell, AV.isAgg, abytes, aconv, aeq, isConst, isByteD, isIfaceD, endQ, Int.reduceToNat, Int.reduceLE, Int.reduceLT, Int.reduceEq, Int.reduceNe, Int.reduceAdd, Int.reduceSub, Int.reduceNeg, Nat.reduceLT, Nat.reduceLeDiff, Ent.ver, Ent.imm, Ent.ty, lits, isEl, newCells, aappend, Nat.reduceBEq, fill, undef, (st1), (st2), (st3), (st4), (st5), aMap, mget, mput, mclock, ksOK, keq, mres, fillA, isArrD, arrE, Nat.reduceMul]; try simp (disch := omega) only [wrapI64, Int.toNat_natCast, ← Int.natCast_add, nat_add_one, nat_add_two, take_drop_all, List.drop_zero, Nat.sub_zero, Nat.add_sub_cancel_left])
      refine xWait.go (q1 _) ?_
      (simp only [(vm1), (vm2), (vm3), (vm4), aDet, ev, tget, tput, ofC, ofC1, pureR, condR, abin, aun, alen, gslot, Nat.reduceEqDiff, reduceIte, argTs, asliceS, asliceL, bnd, boolV, intV, retQ, aRes, aResV, oneAV, AV.low, AV.low.lows, Nat.reduceAdd, isStringD, isSliceD, isBoolD, setRange, AV.cells, AV.isCell, AV.isAgg, abytes, aconv, aeq, isConst, isByteD, isIfaceD, endQ, Int.reduceToNat, Int.reduceLE, Int.reduceLT, Int.reduceEq, Int.reduceNe, Int.reduceAdd, Int.reduceSub, Int.reduceNeg, Nat.reduceLT, Nat.reduceLeDiff, Ent.ver, Ent.imm, Ent.ty, lits, isEl, newCells, aappend, Nat.reduceBEq, fill, undef, (st1), (st2), (st3), (st4), (st5), aMap, mget, mput, mclock, ksOK, keq, mres, fillA, isArrD, arrE, Nat.reduceMul]; try simp (disch := omega) only [wrapI64, Int.toNat_natCast, ← Int.natCast_add, nat_add_one, nat_add_two, take_drop_all, List.drop_zero, Nat.sub_zero, Nat.add_sub_cancel_left])
      refine xWait.go (q2 _) ?_
      (simp only [(vm1), (vm2), (vm3), (vm4), aDet, ev, tget, tput, ofC, ofC1, pureR, condR, abin, aun, alen, gslot, Nat.reduceEqDiff, reduceIte, argTs, asliceS, asliceL, bnd, boolV, intV, retQ, aRes, aResV, oneAV, AV.low, AV.low.lows, Nat.reduceAdd, isStringD, isSliceD, isBoolD, setRange, AV.cells, AV.isCell, AV.isAgg, abytes, aconv, aeq, isConst, isByteD, isIfaceD, endQ, Int.reduceToNat, Int.reduceLE, Int.reduceLT, Int.reduceEq, Int.reduceNe, Int.reduceAdd, Int.reduceSub, Int.reduceNeg, Nat.reduceLT, Nat.reduceLeDiff, Ent.ver, Ent.imm, Ent.ty, lits, isEl, newCells, aappend, Nat.reduceBEq, fill, undef, (st1), (st2), (st3), (st4), (st5), aMap, mget, mput, mclock, ksOK, keq, mres, fillA, isArrD, arrE, Nat.reduceMul]; try simp (disch := omega) only [wrapI64, Int.toNat_natCast, ← Int.natCast_add, nat_add_one, nat_add_two, take_drop_all, List.drop_zero, Nat.sub_zero, Nat.add_sub_cancel_left])
      refine xWait.go (haw _) ?_
      (simp only [(vm1), (vm2), (vm3), (vm4), aDet, ev, tget, tput, ofC, ofC1, pureR, condR, abin, aun, alen, gslot, Nat.reduceEqDiff, reduceIte, argTs, asliceS, asliceL, bnd, boolV, intV, retQ, aRes, aResV, oneAV, AV.low, AV.low.lows, Nat.reduceAdd, isStringD, isSliceD, isBoolD, setRange, AV.cells, AV.isCell, AV.isAgg, abytes, aconv, aeq, isConst, isByteD, isIfaceD, endQ, Int.reduceToNat, Int.reduceLE, Int.reduceLT, Int.reduceEq, Int.reduceNe, Int.reduceAdd, Int.reduceSub, Int.reduceNeg, Nat.reduceLT, Nat.reduceLeDiff, Ent.ver, Ent.imm, Ent.ty, lits, isEl, newCells, aappend, Nat.reduceBEq, fill, undef, (st1), (st2), (st3), (st4), (st5), aMap, mget, mput, mclock, ksOK, keq, mres, fillA, isArrD, arrE, Nat.reduceMul]; try simp (disch := omega) only [wrapI64, Int.toNat_natCast, ← Int.natCast_add, nat_add_one, nat_add_two, take_drop_all, List.drop_zero, Nat.sub_zero, Nat.add_sub_cancel_left])
  · simp only [g1, decide_false, Bool.false_and] at q1
    (simp only [g1, (vm1), (vm2), (vm3), (vm4), aDet, ev, tget, tput, ofC, ofC1, pureR, condR, abin, aun, alen, gslot, Nat.reduceEqDiff, reduceIte, argTs, asliceS, asliceL, bnd, boolV, intV, retQ, aRes, aResV, oneAV, AV.low, AV.low.lows, Nat.reduceAdd, isStringD, isSliceD, isBoolD, setRange, AV.cells, AV.isCell, AV.isAgg, abytes, aconv, aeq, isConst, isByteD, isIfaceD, endQ, Int.reduceToNat, Int.reduceLE, Int.reduceLT, Int.reduceEq, Int.reduceNe, Int.reduceAdd, Int.reduceSub, Int.reduceNeg, Nat.reduceLT, Nat.reduceLeDiff, Ent.ver, Ent.imm, Ent.ty, lits, isEl, newCells, aappend, Nat.reduceBEq, fill, undef, (st1), (st2), (st3), (st4), (st5), aMap, mget, mput, mclock, ksOK, keq, mres, fillA, isArrD, arrE, Nat.reduceMul]; try simp (disch := omega) only [wrapI64, Int.toNat_natCast, ← Int.natCast_add, nat_add_one, nat_add_two, take_drop_all, List.drop_zero, Nat.sub_zero, Nat.add_sub_cancel_left])
    refine xWait.go (q1 _) ?_
    (simp only [(vm1), (vm2), (vm3), (vm4), aDet, ev, tget, tput, ofC, ofC1, pureR, condR, abin, aun, alen, gslot, Nat.reduceEqDiff, reduceIte, argTs, asliceS, asliceL, bnd, boolV, intV, retQ, aRes, aResV, oneAV, AV.low, AV.low.lows, Nat.reduceAdd, isStringD, isSliceD, isBoolD, setRange, AV.cells, AV.isCell, AV.isAgg, abytes, aconv, aeq, isConst, isByteD, isIfaceD, endQ, Int.reduceToNat, Int.reduceLE, Int.reduceLT, Int.reduceEq, Int.reduceNe, Int.reduceAdd, Int.reduceSub, Int.reduceNeg, Nat.reduceLT, Nat.reduceLeDiff, Ent.ver, Ent.imm, Ent.ty, lits, isEl, newCells, aappend, Nat.reduceBEq, fill, undef, (st1), (st2), (st3), (st4), (st5), aMap, mget, mput, mclock, ksOK, keq, mres, fillA, isArrD, arrE, Nat.reduceMul]; try simp (disch := omega) only [wrapI64, Int.toNat_natCast, ← Int.natCast_add, nat_add_one, nat_add_two, take_drop_all, List.drop_zero, Nat.sub_zero, Nat.add_sub_cancel_left])
    refine xWait.go (q2 _) ?_
    (simp only [(vm1), (vm2), (vm3), (vm4), aDet, ev, tget, tput, ofC, ofC1, pureR, condR, abin, aun, alen, gslot, Nat.reduceEqDiff, reduceIte, argTs, asliceS, asliceL, bnd, boolV, intV, retQ, aRes, aResV, oneAV, AV.low, AV.low.lows, Nat.reduceAdd, isStringD, isSliceD, isBoolD, setRange, AV.cells, AV.isCell, AV.isAgg, abytes, aconv, aeq, isConst, isByteD, isIfaceD, endQ, Int.reduceToNat, Int.reduceLE, Int.reduceLT, Int.reduceEq, Int.reduceNe, Int.reduceAdd, Int.reduceSub, Int.reduceNeg, Nat.reduceLT, Nat.reduceLeDiff, Ent.ver, Ent.imm, Ent.ty, lits, isEl, newCells, aappend, Nat.reduceBEq, fill, undef, (st1), (st2), (st3), (st4), (st5), aMap, mget, mput, mclock, ksOK, keq, mres, fillA, isArrD, arrE, Nat.reduceMul]; try simp (disch := omega) only [wrapI64, Int.toNat_natCast, ← Int.natCast_add, nat_add_one, nat_add_two, take_drop_all, List.drop_zero, Nat.sub_zero, Nat.add_sub_cancel_left])
    refine xWait.go (haw _) ?_
    (simp only [(vm1), (vm2), (vm3), (vm4), aDet, ev, tget, tput, ofC, ofC1, pureR, condR, abin, aun, alen, gslot, Nat.reduceEqDiff, reduceIte, argTs, asliceS, asliceL, bnd, boolV, intV, retQ, aRes, aResV, oneAV, AV.low, AV.low.lows, Nat.reduceAdd, isStringD, isSliceD, isBoolD, setRange, AV.cells, AV.isCell, AV.isAgg, abytes, aconv, aeq, isConst, isByteD, isIfaceD, endQ, Int.reduceToNat, Int.reduceLE, Int.reduceLT, Int.reduceEq, Int.reduceNe, Int.reduceAdd, Int.reduceSub, Int.reduceNeg, Nat.reduceLT, Nat.reduceLeDiff, Ent.ver, Ent.imm, Ent.ty, lits, isEl, newCells, aappend, Nat.reduceBEq, fill, undef, (st1), (st2), (st3), (st4), (st5), aMap, mget, mput, mclock, ksOK, keq, mres, fillA, isArrD, arrE, Nat.reduceMul]; try simp (disch := omega) only [wrapI64, Int.toNat_natCast, ← Int.natCast_add, nat_add_one, nat_add_two, take_drop_all, List.drop_zero, Nat.sub_zero, Nat.add_sub_cancel_left])
end Go.D

/- A type is an instance of itself: the law, but for its example. -/
set_option linter.unusedVariables false
set_option linter.unusedSimpArgs false
set_option linter.unnecessarySimpa false
set_option maxRecDepth 100000
namespace Go.D
open Go Go.Vm Go.Proofs Go.RowKit

/-- The example holds. -/
def AwakeOK : Prop := ∀ σ : List Ent, ACalls E 15 [] σ fun r τ => r = boolV true ∧ τ = σ
def selfC (names : List (List UInt8)) : List Cl := names.map fun n => (n, .mk kiVar n [])
theorem instR_self (t : Tr) : instR t t = if validT conB t = true then (selfC (sortS (ordT t [])), 0) else ([], 40) := by
  unfold instR
  by_cases hv : validT conB t = true
  · rw [if_pos ⟨hv, hv⟩, if_pos hv]
    have ht : typeB conB t = true := by unfold validT at hv; simp only [Bool.and_eq_true] at hv; exact hv.1
    have := matT_self conB t [] ht
    simp only [idS, List.map_nil] at this
    rw [this, if_pos rfl]
    congr 1
    unfold clsOf selfC
    refine List.map_congr_left fun n hn => ?_
    have hm : n ∈ ordT t [] := List.mem_mergeSort.1 hn
    have h2 := idS_look (ordT t []) n
    simp only [idS] at h2
    rw [h2, if_pos hm]; rfl
  · rw [if_neg (fun h => hv h.1), if_neg hv]
set_option maxHeartbeats 4000000 in
theorem law_itself (haw : AwakeOK) (t : Tr) (hl : lenT t) (σ : List Ent) :
    HasBody E 3 ∧ ∀ (s : S) (vs : List Value), s.σ = σ → HInv s → E.Γ s.B s.w → RepL s [tyV t] vs →
      Calls E.P 3 vs.toArray s.w fun e w' => ∃ v r s', e = .returned v ∧ s'.w = w' ∧ HInv s' ∧ Ext s s' ∧ Rep s' r v ∧ (r = boolV true ∧ s'.σ = σ) := by
  refine xbody T0 .drop [] Tryz.func3 rfl (by kernel_rfl) (by kernel_rfl) (by simp [Tryz.ntmps3]) (R := fun r τ => r = boolV true ∧ τ = σ) ?_
  have h1 := fun σ' => Instance_ok t t hl hl σ'
  have h2 := fun σ' => Vars_ok t hl σ'
  rw [instR_self] at h1
  have hok : validT conB t = true → okT t := fun h2 => ⟨hl, by unfold validT at h2; simp only [Bool.and_eq_true] at h2; exact h2.1⟩
  have hnm : validT conB t = true → (sortS (ordT t [])).length ≤ 26 := fun h => by
    have := ordT_names t [] (hok h).2 (by simp) (by simp)
    unfold sortS; rw [List.length_mergeSort]; exact vars_few this.1 this.2
  cases hv : validT conB t
  · simp only [hv, Bool.false_eq_true, if_false] at h1 h2
    cases t with
    | mk d n us =>
    simp only [tyV] at h1 h2
    (simp only [tyV, (vm1), (vm2), (vm3), (vm4), aDet, ev, tget, tput, ofC, ofC1, pureR, condR, abin, aun, alen, gslot, Nat.reduceEqDiff, reduceIte, argTs, asliceS, asliceL, bnd, boolV, intV, retQ, aRes, aResV, oneAV, AV.low, AV.low.lows, Nat.reduceAdd, isStringD, isSliceD, isBoolD, setRange, AV.cells, AV.isCell, AV.isAgg, abytes, aconv, aeq, isConst, isByteD, isIfaceD, endQ, Int.reduceToNat, Int.reduceLE, Int.reduceLT, Int.reduceEq, Int.reduceNe, Int.reduceAdd, Int.reduceSub, Int.reduceNeg, Nat.reduceLT, Nat.reduceLeDiff, Ent.ver, Ent.imm, Ent.ty, lits, isEl, newCells, aappend, Nat.reduceBEq, fill, undef, (st1), (st2), (st3), (st4), (st5), aMap, mget, mput, mclock, ksOK, keq, mres, fillA, isArrD, arrE, Nat.reduceMul]; try simp (disch := omega) only [wrapI64, Int.toNat_natCast, ← Int.natCast_add, nat_add_one, nat_add_two, take_drop_all, List.drop_zero, Nat.sub_zero, Nat.add_sub_cancel_left])
    refine xWait.go (h1 _) ?_
    (simp only [clsV, List.map_nil, (vm1), (vm2), (vm3), (vm4), aDet, ev, tget, tput, ofC, ofC1, pureR, condR, abin, aun, alen, gslot, Nat.reduceEqDiff, reduceIte, argTs, asliceS, asliceL, bnd, boolV, intV, retQ, aRes, aResV, oneAV, AV.low, AV.low.lows, Nat.reduceAdd, isStringD, isSliceD, isBoolD, setRange, AV.cells, AV.isCell, AV.isAgg, abytes, aconv, aeq, isConst, isByteD, isIfaceD, endQ, Int.reduceToNat, Int.reduceLE, Int.reduceLT, Int.reduceEq, Int.reduceNe, Int.reduceAdd, Int.reduceSub, Int.reduceNeg, Nat.reduceLT, Nat.reduceLeDiff, Ent.ver, Ent.imm, Ent.ty, lits, isEl, newCells, aappend, Nat.reduceBEq, fill, undef, (st1), (st2), (st3), (st4), (st5), aMap, mget, mput, mclock, ksOK, keq, mres, fillA, isArrD, arrE, Nat.reduceMul]; try simp (disch := omega) only [wrapI64, Int.toNat_natCast, ← Int.natCast_add, nat_add_one, nat_add_two, take_drop_all, List.drop_zero, Nat.sub_zero, Nat.add_sub_cancel_left])
    refine xWait.go (h2 _) ?_
    (simp only [(vm1), (vm2), (vm3), (vm4), aDet, ev, tget, tput, ofC, ofC1, pureR, condR, abin, aun, alen, gslot, Nat.reduceEqDiff, reduceIte, argTs, asliceS, asliceL, bnd, boolV, intV, retQ, aRes, aResV, oneAV, AV.low, AV.low.lows, Nat.reduceAdd, isStringD, isSliceD, isBoolD, setRange, AV.cells, AV.isCell, AV.isAgg, abytes, aconv, aeq, isConst, isByteD, isIfaceD, endQ, Int.reduceToNat, Int.reduceLE, Int.reduceLT, Int.reduceEq, Int.reduceNe, Int.reduceAdd, Int.reduceSub, Int.reduceNeg, Nat.reduceLT, Nat.reduceLeDiff, Ent.ver, Ent.imm, Ent.ty, lits, isEl, newCells, aappend, Nat.reduceBEq, fill, undef, (st1), (st2), (st3), (st4), (st5), aMap, mget, mput, mclock, ksOK, keq, mres, fillA, isArrD, arrE, Nat.reduceMul]; try simp (disch := omega) only [wrapI64, Int.toNat_natCast, ← Int.natCast_add, nat_add_one, nat_add_two, take_drop_all, List.drop_zero, Nat.sub_zero, Nat.add_sub_cancel_left])
    refine xloop (α := Nat) T0 (fun i => [(31, i64 0), (32, i64 0)]) (fun _ => σ) (fun _ => [.arr 24 [.str d, .str n, .sl (tysV us)] 0 0]) (fun i => i = 0) (fun i => i) (by kernel_rfl)
      ⟨0, rfl, by (simp only [(vm1), (vm2), (vm3), (vm4), aDet, ev, tget, tput, ofC, ofC1, pureR, condR, abin, aun, alen, gslot, Nat.reduceEqDiff, reduceIte, argTs, asliceS, asliceL, bnd, boolV, intV, retQ, aRes, aResV, oneAV, AV.low, AV.low.lows, Nat.reduceAdd, isStringD, isSliceD, isBoolD, setRange, AV.cells, AV.isCell, AV.isAgg, abytes, aconv, aeq, isConst, isByteD, isIfaceD, endQ, Int.reduceToNat, Int.reduceLE, Int.reduceLT, Int.reduceEq, Int.reduceNe, Int.reduceAdd, Int.reduceSub, Int.reduceNeg, Nat.reduceLT, Nat.reduceLeDiff, Ent.ver, Ent.imm, Ent.ty, lits, isEl, newCells, aappend, Nat.reduceBEq, fill, undef, (st1), (st2), (st3), (st4), (st5), aMap, mget, mput, mclock, ksOK, keq, mres, fillA, isArrD, arrE, Nat.reduceMul]; try simp (disch := omega) only [wrapI64, Int.toNat_natCast, ← Int.natCast_add, nat_add_one, nat_add_two, take_drop_all, List.drop_zero, Nat.sub_zero, Nat.add_sub_cancel_left]), rfl, rfl⟩ ?_
    rintro i hi
    (simp only [(vm1), (vm2), (vm3), (vm4), aDet, ev, tget, tput, ofC, ofC1, pureR, condR, abin, aun, alen, gslot, Nat.reduceEqDiff, reduceIte, argTs, asliceS, asliceL, bnd, boolV, intV, retQ, aRes, aResV, oneAV, AV.low, AV.low.lows, Nat.reduceAdd, isStringD, isSliceD, isBoolD, setRange, AV.cells, AV.isCell, AV.isAgg, abytes, aconv, aeq, isConst, isByteD, isIfaceD, endQ, Int.reduceToNat, Int.reduceLE, Int.reduceLT, Int.reduceEq, Int.reduceNe, Int.reduceAdd, Int.reduceSub, Int.reduceNeg, Nat.reduceLT, Nat.reduceLeDiff, Ent.ver, Ent.imm, Ent.ty, lits, isEl, newCells, aappend, Nat.reduceBEq, fill, undef, (st1), (st2), (st3), (st4), (st5), aMap, mget, mput, mclock, ksOK, keq, mres, fillA, isArrD, arrE, Nat.reduceMul]; try simp (disch := omega) only [wrapI64, Int.toNat_natCast, ← Int.natCast_add, nat_add_one, nat_add_two, take_drop_all, List.drop_zero, Nat.sub_zero, Nat.add_sub_cancel_left])
    refine xWait.go (haw _) ?_
    (simp only [(vm1), (vm2), (vm3), (vm4), aDet, ev, tget, tput, ofC, ofC1, pureR, condR, abin, aun, alen, gslot, Nat.reduceEqDiff, reduceIte, argTs, asliceS, asliceL, bnd, boolV, intV, retQ, aRes, aResV, oneAV, AV.low, AV.low.lows, Nat.reduceAdd, isStringD, isSliceD, isBoolD, setRange, AV.cells, AV.isCell, AV.isAgg, abytes, aconv, aeq, isConst, isByteD, isIfaceD, endQ, Int.reduceToNat, Int.reduceLE, Int.reduceLT, Int.reduceEq, Int.reduceNe, Int.reduceAdd, Int.reduceSub, Int.reduceNeg, Nat.reduceLT, Nat.reduceLeDiff, Ent.ver, Ent.imm, Ent.ty, lits, isEl, newCells, aappend, Nat.reduceBEq, fill, undef, (st1), (st2), (st3), (st4), (st5), aMap, mget, mput, mclock, ksOK, keq, mres, fillA, isArrD, arrE, Nat.reduceMul]; try simp (disch := omega) only [wrapI64, Int.toNat_natCast, ← Int.natCast_add, nat_add_one, nat_add_two, take_drop_all, List.drop_zero, Nat.sub_zero, Nat.add_sub_cancel_left])
  · have hfew := hnm hv
    simp only [hv, if_true] at h1 h2
    generalize sortS (ordT t []) = names at *
    cases t with
    | mk d n us =>
    simp only [tyV] at h1 h2
    (simp only [tyV, (vm1), (vm2), (vm3), (vm4), aDet, ev, tget, tput, ofC, ofC1, pureR, condR, abin, aun, alen, gslot, Nat.reduceEqDiff, reduceIte, argTs, asliceS, asliceL, bnd, boolV, intV, retQ, aRes, aResV, oneAV, AV.low, AV.low.lows, Nat.reduceAdd, isStringD, isSliceD, isBoolD, setRange, AV.cells, AV.isCell, AV.isAgg, abytes, aconv, aeq, isConst, isByteD, isIfaceD, endQ, Int.reduceToNat, Int.reduceLE, Int.reduceLT, Int.reduceEq, Int.reduceNe, Int.reduceAdd, Int.reduceSub, Int.reduceNeg, Nat.reduceLT, Nat.reduceLeDiff, Ent.ver, Ent.imm, Ent.ty, lits, isEl, newCells, aappend, Nat.reduceBEq, fill, undef, (st1), (st2), (st3), (st4), (st5), aMap, mget, mput, mclock, ksOK, keq, mres, fillA, isArrD, arrE, Nat.reduceMul]; try simp (disch := omega) only [wrapI64, Int.toNat_natCast, ← Int.natCast_add, nat_add_one, nat_add_two, take_drop_all, List.drop_zero, Nat.sub_zero, Nat.add_sub_cancel_left])
    refine xWait.go (h1 _) ?_
    (simp only [clsV_len, (vm1), (vm2), (vm3), (vm4), aDet, ev, tget, tput, ofC, ofC1, pureR, condR, abin, aun, alen, gslot, Nat.reduceEqDiff, reduceIte, argTs, asliceS, asliceL, bnd, boolV, intV, retQ, aRes, aResV, oneAV, AV.low, AV.low.lows, Nat.reduceAdd, isStringD, isSliceD, isBoolD, setRange, AV.cells, AV.isCell, AV.isAgg, abytes, aconv, aeq, isConst, isByteD, isIfaceD, endQ, Int.reduceToNat, Int.reduceLE, Int.reduceLT, Int.reduceEq, Int.reduceNe, Int.reduceAdd, Int.reduceSub, Int.reduceNeg, Nat.reduceLT, Nat.reduceLeDiff, Ent.ver, Ent.imm, Ent.ty, lits, isEl, newCells, aappend, Nat.reduceBEq, fill, undef, (st1), (st2), (st3), (st4), (st5), aMap, mget, mput, mclock, ksOK, keq, mres, fillA, isArrD, arrE, Nat.reduceMul]; try simp (disch := omega) only [wrapI64, Int.toNat_natCast, ← Int.natCast_add, nat_add_one, nat_add_two, take_drop_all, List.drop_zero, Nat.sub_zero, Nat.add_sub_cancel_left])
    refine xWait.go (h2 _) ?_
    have hsl : (selfC names).length = names.length := by simp [selfC]
    (simp only [clsV_len, strsV_len, hsl, (vm1), (vm2), (vm3), (vm4), aDet, ev, tget, tput, ofC, ofC1, pureR, condR, abin, aun, alen, gslot, Nat.reduceEqDiff, reduceIte, argTs, asliceS, asliceL, bnd, boolV, intV, retQ, aRes, aResV, oneAV, AV.low, AV.low.lows, Nat.reduceAdd, isStringD, isSliceD, isBoolD, setRange, AV.cells, AV.isCell, AV.isAgg, abytes, aconv, aeq, isConst, isByteD, isIfaceD, endQ, Int.reduceToNat, Int.reduceLE, Int.reduceLT, Int.reduceEq, Int.reduceNe, Int.reduceAdd, Int.reduceSub, Int.reduceNeg, Nat.reduceLT, Nat.reduceLeDiff, Ent.ver, Ent.imm, Ent.ty, lits, isEl, newCells, aappend, Nat.reduceBEq, fill, undef, (st1), (st2), (st3), (st4), (st5), aMap, mget, mput, mclock, ksOK, keq, mres, fillA, isArrD, arrE, Nat.reduceMul]; try simp (disch := omega) only [wrapI64, Int.toNat_natCast, ← Int.natCast_add, nat_add_one, nat_add_two, take_drop_all, List.drop_zero, Nat.sub_zero, Nat.add_sub_cancel_left])
    refine xloop (α := Nat × List Ent) T0 (fun x => [(5, .sl (strsV names)), (30, .sl (clsV (selfC names))), (31, i64 names.length), (32, i64 x.1)]) (fun _ => σ) (fun x => .arr 24 [.str d, .str n, .sl (tysV us)] 0 0 :: x.2)
      (fun x => x.1 ≤ names.length) (fun x => names.length - x.1) (by kernel_rfl)
      ⟨(0, []), by simp, by (simp only [(vm1), (vm2), (vm3), (vm4), aDet, ev, tget, tput, ofC, ofC1, pureR, condR, abin, aun, alen, gslot, Nat.reduceEqDiff, reduceIte, argTs, asliceS, asliceL, bnd, boolV, intV, retQ, aRes, aResV, oneAV, AV.low, AV.low.lows, Nat.reduceAdd, isStringD, isSliceD, isBoolD, setRange, AV.cells, AV.isCell, AV.isAgg, abytes, aconv, aeq, isConst, isByteD, isIfaceD, endQ, Int.reduceToNat, Int.reduceLE, Int.reduceLT, Int.reduceEq, Int.reduceNe, Int.reduceAdd, Int.reduceSub, Int.reduceNeg, Nat.reduceLT, Nat.reduceLeDiff, Ent.ver, Ent.imm, Ent.ty, lits, isEl, newCells, aappend, Nat.reduceBEq, fill, undef, (st1), (st2), (st3), (st4), (st5), aMap, mget, mput, mclock, ksOK, keq, mres, fillA, isArrD, arrE, Nat.reduceMul, Int.natCast_zero]; try simp (disch := omega) only [wrapI64, Int.toNat_natCast, ← Int.natCast_add, nat_add_one, nat_add_two, take_drop_all, List.drop_zero, Nat.sub_zero, Nat.add_sub_cancel_left]), rfl, rfl⟩ ?_
    rintro ⟨i, junk⟩ hi
    simp only at hi
    by_cases h : (i : Int) < names.length
    · have hi' : i < names.length := by omega
      have hg1 : (strsV names).getD i .un = .str names[i] := by simp [strsV, List.getD, hi']
      have hg2 : (clsV (selfC names)).getD i .un = .agg [.str names[i], .str kiVar, .str names[i], .sl []] := by simp [clsV, selfC, List.getD, hi', clV, clC, tyCells, tysV]
      generalize names[i] = nm at *
      (simp only [h, hg1, hg2, clsV_len, strsV_len, hsl, (vm1), (vm2), (vm3), (vm4), aDet, ev, tget, tput, ofC, ofC1, pureR, condR, abin, aun, alen, gslot, Nat.reduceEqDiff, reduceIte, argTs, asliceS, asliceL, bnd, boolV, intV, retQ, aRes, aResV, oneAV, AV.low, AV.low.lows, Nat.reduceAdd, isStringD, isSliceD, isBoolD, setRange, AV.cells, AV.isCell, AV.isAgg, abytes, aconv, aeq, isConst, isByteD, isIfaceD, endQ, Int.reduceToNat, Int.reduceLE, Int.reduceLT, Int.reduceEq, Int.reduceNe, Int.reduceAdd, Int.reduceSub, Int.reduceNeg, Nat.reduceLT, Nat.reduceLeDiff, Ent.ver, Ent.imm, Ent.ty, lits, isEl, newCells, aappend, Nat.reduceBEq, fill, undef, (st1), (st2), (st3), (st4), (st5), aMap, mget, mput, mclock, ksOK, keq, mres, fillA, isArrD, arrE, Nat.reduceMul]; try simp (disch := omega) only [wrapI64, Int.toNat_natCast, ← Int.natCast_add, nat_add_one, nat_add_two, take_drop_all, List.drop_zero, Nat.sub_zero, Nat.add_sub_cancel_left])
      refine ydraw T0 [] (by kernel_rfl) (by kernel_rfl) (by kernel_rfl) (by kernel_rfl) ?_
      (simp only [h, hg1, hg2, clsV_len, strsV_len, hsl, (vm1), (vm2), (vm3), (vm4), aDet, ev, tget, tput, ofC, ofC1, pureR, condR, abin, aun, alen, gslot, Nat.reduceEqDiff, reduceIte, argTs, asliceS, asliceL, bnd, boolV, intV, retQ, aRes, aResV, oneAV, AV.low, AV.low.lows, Nat.reduceAdd, isStringD, isSliceD, isBoolD, setRange, AV.cells, AV.isCell, AV.isAgg, abytes, aconv, aeq, isConst, isByteD, isIfaceD, endQ, Int.reduceToNat, Int.reduceLE, Int.reduceLT, Int.reduceEq, Int.reduceNe, Int.reduceAdd, Int.reduceSub, Int.reduceNeg, Nat.reduceLT, Nat.reduceLeDiff, Ent.ver, Ent.imm, Ent.ty, lits, isEl, newCells, aappend, Nat.reduceBEq, fill, undef, (st1), (st2), (st3), (st4), (st5), aMap, mget, mput, mclock, ksOK, keq, mres, fillA, isArrD, arrE, Nat.reduceMul]; try simp (disch := omega) only [wrapI64, Int.toNat_natCast, ← Int.natCast_add, nat_add_one, nat_add_two, take_drop_all, List.drop_zero, Nat.sub_zero, Nat.add_sub_cancel_left])
      exact ⟨(i + 1, _), by simp only; omega, by simp only; omega, rfl, rfl⟩
    · (simp only [h, (vm1), (vm2), (vm3), (vm4), aDet, ev, tget, tput, ofC, ofC1, pureR, condR, abin, aun, alen, gslot, Nat.reduceEqDiff, reduceIte, argTs, asliceS, asliceL, bnd, boolV, intV, retQ, aRes, aResV, oneAV, AV.low, AV.low.lows, Nat.reduceAdd, isStringD, isSliceD, isBoolD, setRange, AV.cells, AV.isCell, AV.isAgg, abytes, aconv, aeq, isConst, isByteD, isIfaceD, endQ, Int.reduceToNat, Int.reduceLE, Int.reduceLT, Int.reduceEq, Int.reduceNe, Int.reduceAdd, Int.reduceSub, Int.reduceNeg, Nat.reduceLT, Nat.reduceLeDiff, Ent.ver, Ent.imm, Ent.ty, lits, isEl, newCells, aappend, Nat.reduceBEq, fill, undef, (st1), (st2), (st3), (st4), (st5), aMap, mget, mput, mclock, ksOK, keq, mres, fillA, isArrD, arrE, Nat.reduceMul]; try simp (disch := omega) only [wrapI64, Int.toNat_natCast, ← Int.natCast_add, nat_add_one, nat_add_two, take_drop_all, List.drop_zero, Nat.sub_zero, Nat.add_sub_cancel_left])
      refine xWait.go (haw _) ?_
      (simp only [(vm1), (vm2), (vm3), (vm4), aDet, ev, tget, tput, ofC, ofC1, pureR, condR, abin, aun, alen, gslot, Nat.reduceEqDiff, reduceIte, argTs, asliceS, asliceL, bnd, boolV, intV, retQ, aRes, aResV, oneAV, AV.low, AV.low.lows, Nat.reduceAdd, isStringD, isSliceD, isBoolD, setRange, AV.cells, AV.isCell, AV.isAgg, abytes, aconv, aeq, isConst, isByteD, isIfaceD, endQ, Int.reduceToNat, Int.reduceLE, Int.reduceLT, Int.reduceEq, Int.reduceNe, Int.reduceAdd, Int.reduceSub, Int.reduceNeg, Nat.reduceLT, Nat.reduceLeDiff, Ent.ver, Ent.imm, Ent.ty, lits, isEl, newCells, aappend, Nat.reduceBEq, fill, undef, (st1), (st2), (st3), (st4), (st5), aMap, mget, mput, mclock, ksOK, keq, mres, fillA, isArrD, arrE, Nat.reduceMul]; try simp (disch := omega) only [wrapI64, Int.toNat_natCast, ← Int.natCast_add, nat_add_one, nat_add_two, take_drop_all, List.drop_zero, Nat.sub_zero, Nat.add_sub_cancel_left])
end Go.D
