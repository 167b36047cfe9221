/- Kinds of types; a counter; a walk over a list of types. -/
import Derived.Test.YtcgcmehohibnoaaGreatDoorFnE
import Derived.Test.YtcgcmehohibnoaaGreatDoorVmF
set_option linter.unusedVariables false
set_option linter.unusedSimpArgs false
set_option maxRecDepth 100000
namespace Go.D
open Go Go.Vm Go.Proofs Go.RowKit

def kiInt : List UInt8 := [105, 110, 116]
def kiBool : List UInt8 := [98, 111, 111, 108]
def kiUnit : List UInt8 := [117, 110, 105, 116]
def kiText : List UInt8 := [116, 101, 120, 116]
def kiData : List UInt8 := [100, 97, 116, 97]
def kiList : List UInt8 := [108, 105, 115, 116]
def kiArray : List UInt8 := [97, 114, 114, 97, 121]
def kiPair : List UInt8 := [112, 97, 105, 114]
def kiFn : List UInt8 := [102, 110]
/-- What a kind of type has: a place, so many parts; and that it is a kind. -/
def shapeB (d : List UInt8) : Bool × Nat × Bool :=
  if d = kiInt ∨ d = kiBool ∨ d = kiUnit then (false, 0, true)
  else if d = kiText ∨ d = kiData then (true, 0, true)
  else if d = kiList ∨ d = kiArray then (true, 1, true)
  else if d = kiPair ∨ d = kiFn then (true, 2, true) else (false, 0, false)

theorem shapeOf_ok (d : List UInt8) (σ : List Ent) : ACalls E 67 [.str d] σ fun r τ => r = .tup [.agg [boolV (shapeB d).1, i64 (shapeB d).2.1], boolV (shapeB d).2.2] ∧ τ = σ := by
  refine xacalls T0 .drop [] Tryz.func67 rfl (by kernel_rfl) (by kernel_rfl) (by simp [Tryz.ntmps67]) ?_
  generalize hS : shapeB d = S
  unfold shapeB at hS
  by_cases h1 : d = kiInt
  · rw [if_pos (.inl h1)] at hS; subst hS
    have t1 : (d = [105, 110, 116]) = True := eq_true h1
    (simp only [t1, (vm1), (vm2), (vm3), (vm4), aDet, ev, tget, tput, ofC, ofC1, pureR, condR, abin, aun, alen, gslot, Nat.reduceEqDiff, reduceIte, argTs, asliceS, asliceL, bnd, boolV, intV, retQ, aRes, aResV, oneAV, AV.low, AV.low.lows, Nat.reduceAdd, isStringD, isSliceD, isBoolD, setRange, AV.cells, AV.isCell, AV.isAgg, abytes, aconv, aeq, isConst, isByteD, isIfaceD, endQ, Int.reduceToNat, Int.reduceLE, Int.reduceLT, Int.reduceEq, Int.reduceNe, Int.reduceAdd, Int.reduceSub, Int.reduceNeg, Nat.reduceLT, Nat.reduceLeDiff, Ent.ver, Ent.imm, Ent.ty, lits, isEl, newCells, aappend, Nat.reduceBEq, fill, undef, (st1), (st2), (st3), (st4), (st5), (st6), (st7), (st8)]; try simp (disch := omega) only [wrapI64, Int.toNat_natCast, ← Int.natCast_add, nat_add_one, nat_add_two, take_drop_all, List.drop_zero, Nat.sub_zero, Nat.add_sub_cancel_left])
    try rfl
  have n1 : ¬ d = [105, 110, 116] := h1
  by_cases h2 : d = kiBool
  · rw [if_pos (.inr (.inl h2))] at hS; subst hS
    have t2 : (d = [98, 111, 111, 108]) = True := eq_true h2
    (simp only [n1, t2, (vm1), (vm2), (vm3), (vm4), aDet, ev, tget, tput, ofC, ofC1, pureR, condR, abin, aun, alen, gslot, Nat.reduceEqDiff, reduceIte, argTs, asliceS, asliceL, bnd, boolV, intV, retQ, aRes, aResV, oneAV, AV.low, AV.low.lows, Nat.reduceAdd, isStringD, isSliceD, isBoolD, setRange, AV.cells, AV.isCell, AV.isAgg, abytes, aconv, aeq, isConst, isByteD, isIfaceD, endQ, Int.reduceToNat, Int.reduceLE, Int.reduceLT, Int.reduceEq, Int.reduceNe, Int.reduceAdd, Int.reduceSub, Int.reduceNeg, Nat.reduceLT, Nat.reduceLeDiff, Ent.ver, Ent.imm, Ent.ty, lits, isEl, newCells, aappend, Nat.reduceBEq, fill, undef, (st1), (st2), (st3), (st4), (st5), (st6), (st7), (st8)]; try simp (disch := omega) only [wrapI64, Int.toNat_natCast, ← Int.natCast_add, nat_add_one, nat_add_two, take_drop_all, List.drop_zero, Nat.sub_zero, Nat.add_sub_cancel_left])
    try rfl
  have n2 : ¬ d = [98, 111, 111, 108] := h2
  by_cases h3 : d = kiUnit
  · rw [if_pos (.inr (.inr h3))] at hS; subst hS
    have t3 : (d = [117, 110, 105, 116]) = True := eq_true h3
    (simp only [n1, n2, t3, (vm1), (vm2), (vm3), (vm4), aDet, ev, tget, tput, ofC, ofC1, pureR, condR, abin, aun, alen, gslot, Nat.reduceEqDiff, reduceIte, argTs, asliceS, asliceL, bnd, boolV, intV, retQ, aRes, aResV, oneAV, AV.low, AV.low.lows, Nat.reduceAdd, isStringD, isSliceD, isBoolD, setRange, AV.cells, AV.isCell, AV.isAgg, abytes, aconv, aeq, isConst, isByteD, isIfaceD, endQ, Int.reduceToNat, Int.reduceLE, Int.reduceLT, Int.reduceEq, Int.reduceNe, Int.reduceAdd, Int.reduceSub, Int.reduceNeg, Nat.reduceLT, Nat.reduceLeDiff, Ent.ver, Ent.imm, Ent.ty, lits, isEl, newCells, aappend, Nat.reduceBEq, fill, undef, (st1), (st2), (st3), (st4), (st5), (st6), (st7), (st8)]; try simp (disch := omega) only [wrapI64, Int.toNat_natCast, ← Int.natCast_add, nat_add_one, nat_add_two, take_drop_all, List.drop_zero, Nat.sub_zero, Nat.add_sub_cancel_left])
    try rfl
  have n3 : ¬ d = [117, 110, 105, 116] := h3
  rw [if_neg (by simp only [h1, h2, h3, or_self, not_false_eq_true])] at hS
  by_cases h4 : d = kiText
  · rw [if_pos (.inl h4)] at hS; subst hS
    have t4 : (d = [116, 101, 120, 116]) = True := eq_true h4
    (simp only [n1, n2, n3, t4, (vm1), (vm2), (vm3), (vm4), aDet, ev, tget, tput, ofC, ofC1, pureR, condR, abin, aun, alen, gslot, Nat.reduceEqDiff, reduceIte, argTs, asliceS, asliceL, bnd, boolV, intV, retQ, aRes, aResV, oneAV, AV.low, AV.low.lows, Nat.reduceAdd, isStringD, isSliceD, isBoolD, setRange, AV.cells, AV.isCell, AV.isAgg, abytes, aconv, aeq, isConst, isByteD, isIfaceD, endQ, Int.reduceToNat, Int.reduceLE, Int.reduceLT, Int.reduceEq, Int.reduceNe, Int.reduceAdd, Int.reduceSub, Int.reduceNeg, Nat.reduceLT, Nat.reduceLeDiff, Ent.ver, Ent.imm, Ent.ty, lits, isEl, newCells, aappend, Nat.reduceBEq, fill, undef, (st1), (st2), (st3), (st4), (st5), (st6), (st7), (st8)]; try simp (disch := omega) only [wrapI64, Int.toNat_natCast, ← Int.natCast_add, nat_add_one, nat_add_two, take_drop_all, List.drop_zero, Nat.sub_zero, Nat.add_sub_cancel_left])
    try rfl
  have n4 : ¬ d = [116, 101, 120, 116] := h4
  by_cases h5 : d = kiData
  · rw [if_pos (.inr h5)] at hS; subst hS
    have t5 : (d = [100, 97, 116, 97]) = True := eq_true h5
    (simp only [n1, n2, n3, n4, t5, (vm1), (vm2), (vm3), (vm4), aDet, ev, tget, tput, ofC, ofC1, pureR, condR, abin, aun, alen, gslot, Nat.reduceEqDiff, reduceIte, argTs, asliceS, asliceL, bnd, boolV, intV, retQ, aRes, aResV, oneAV, AV.low, AV.low.lows, Nat.reduceAdd, isStringD, isSliceD, isBoolD, setRange, AV.cells, AV.isCell, AV.isAgg, abytes, aconv, aeq, isConst, isByteD, isIfaceD, endQ, Int.reduceToNat, Int.reduceLE, Int.reduceLT, Int.reduceEq, Int.reduceNe, Int.reduceAdd, Int.reduceSub, Int.reduceNeg, Nat.reduceLT, Nat.reduceLeDiff, Ent.ver, Ent.imm, Ent.ty, lits, isEl, newCells, aappend, Nat.reduceBEq, fill, undef, (st1), (st2), (st3), (st4), (st5), (st6), (st7), (st8)]; try simp (disch := omega) only [wrapI64, Int.toNat_natCast, ← Int.natCast_add, nat_add_one, nat_add_two, take_drop_all, List.drop_zero, Nat.sub_zero, Nat.add_sub_cancel_left])
    try rfl
  have n5 : ¬ d = [100, 97, 116, 97] := h5
  rw [if_neg (by simp only [h4, h5, or_self, not_false_eq_true])] at hS
  by_cases h6 : d = kiList
  · rw [if_pos (.inl h6)] at hS; subst hS
    have t6 : (d = [108, 105, 115, 116]) = True := eq_true h6
    (simp only [n1, n2, n3, n4, n5, t6, (vm1), (vm2), (vm3), (vm4), aDet, ev, tget, tput, ofC, ofC1, pureR, condR, abin, aun, alen, gslot, Nat.reduceEqDiff, reduceIte, argTs, asliceS, asliceL, bnd, boolV, intV, retQ, aRes, aResV, oneAV, AV.low, AV.low.lows, Nat.reduceAdd, isStringD, isSliceD, isBoolD, setRange, AV.cells, AV.isCell, AV.isAgg, abytes, aconv, aeq, isConst, isByteD, isIfaceD, endQ, Int.reduceToNat, Int.reduceLE, Int.reduceLT, Int.reduceEq, Int.reduceNe, Int.reduceAdd, Int.reduceSub, Int.reduceNeg, Nat.reduceLT, Nat.reduceLeDiff, Ent.ver, Ent.imm, Ent.ty, lits, isEl, newCells, aappend, Nat.reduceBEq, fill, undef, (st1), (st2), (st3), (st4), (st5), (st6), (st7), (st8)]; try simp (disch := omega) only [wrapI64, Int.toNat_natCast, ← Int.natCast_add, nat_add_one, nat_add_two, take_drop_all, List.drop_zero, Nat.sub_zero, Nat.add_sub_cancel_left])
    try rfl
  have n6 : ¬ d = [108, 105, 115, 116] := h6
  by_cases h7 : d = kiArray
  · rw [if_pos (.inr h7)] at hS; subst hS
    have t7 : (d = [97, 114, 114, 97, 121]) = True := eq_true h7
    (simp only [n1, n2, n3, n4, n5, n6, t7, (vm1), (vm2), (vm3), (vm4), aDet, ev, tget, tput, ofC, ofC1, pureR, condR, abin, aun, alen, gslot, Nat.reduceEqDiff, reduceIte, argTs, asliceS, asliceL, bnd, boolV, intV, retQ, aRes, aResV, oneAV, AV.low, AV.low.lows, Nat.reduceAdd, isStringD, isSliceD, isBoolD, setRange, AV.cells, AV.isCell, AV.isAgg, abytes, aconv, aeq, isConst, isByteD, isIfaceD, endQ, Int.reduceToNat, Int.reduceLE, Int.reduceLT, Int.reduceEq, Int.reduceNe, Int.reduceAdd, Int.reduceSub, Int.reduceNeg, Nat.reduceLT, Nat.reduceLeDiff, Ent.ver, Ent.imm, Ent.ty, lits, isEl, newCells, aappend, Nat.reduceBEq, fill, undef, (st1), (st2), (st3), (st4), (st5), (st6), (st7), (st8)]; try simp (disch := omega) only [wrapI64, Int.toNat_natCast, ← Int.natCast_add, nat_add_one, nat_add_two, take_drop_all, List.drop_zero, Nat.sub_zero, Nat.add_sub_cancel_left])
    try rfl
  have n7 : ¬ d = [97, 114, 114, 97, 121] := h7
  rw [if_neg (by simp only [h6, h7, or_self, not_false_eq_true])] at hS
  by_cases h8 : d = kiPair
  · rw [if_pos (.inl h8)] at hS; subst hS
    have t8 : (d = [112, 97, 105, 114]) = True := eq_true h8
    (simp only [n1, n2, n3, n4, n5, n6, n7, t8, (vm1), (vm2), (vm3), (vm4), aDet, ev, tget, tput, ofC, ofC1, pureR, condR, abin, aun, alen, gslot, Nat.reduceEqDiff, reduceIte, argTs, asliceS, asliceL, bnd, boolV, intV, retQ, aRes, aResV, oneAV, AV.low, AV.low.lows, Nat.reduceAdd, isStringD, isSliceD, isBoolD, setRange, AV.cells, AV.isCell, AV.isAgg, abytes, aconv, aeq, isConst, isByteD, isIfaceD, endQ, Int.reduceToNat, Int.reduceLE, Int.reduceLT, Int.reduceEq, Int.reduceNe, Int.reduceAdd, Int.reduceSub, Int.reduceNeg, Nat.reduceLT, Nat.reduceLeDiff, Ent.ver, Ent.imm, Ent.ty, lits, isEl, newCells, aappend, Nat.reduceBEq, fill, undef, (st1), (st2), (st3), (st4), (st5), (st6), (st7), (st8)]; try simp (disch := omega) only [wrapI64, Int.toNat_natCast, ← Int.natCast_add, nat_add_one, nat_add_two, take_drop_all, List.drop_zero, Nat.sub_zero, Nat.add_sub_cancel_left])
    try rfl
  have n8 : ¬ d = [112, 97, 105, 114] := h8
  by_cases h9 : d = kiFn
  · rw [if_pos (.inr h9)] at hS; subst hS
    have t9 : (d = [102, 110]) = True := eq_true h9
    (simp only [n1, n2, n3, n4, n5, n6, n7, n8, t9, (vm1), (vm2), (vm3), (vm4), aDet, ev, tget, tput, ofC, ofC1, pureR, condR, abin, aun, alen, gslot, Nat.reduceEqDiff, reduceIte, argTs, asliceS, asliceL, bnd, boolV, intV, retQ, aRes, aResV, oneAV, AV.low, AV.low.lows, Nat.reduceAdd, isStringD, isSliceD, isBoolD, setRange, AV.cells, AV.isCell, AV.isAgg, abytes, aconv, aeq, isConst, isByteD, isIfaceD, endQ, Int.reduceToNat, Int.reduceLE, Int.reduceLT, Int.reduceEq, Int.reduceNe, Int.reduceAdd, Int.reduceSub, Int.reduceNeg, Nat.reduceLT, Nat.reduceLeDiff, Ent.ver, Ent.imm, Ent.ty, lits, isEl, newCells, aappend, Nat.reduceBEq, fill, undef, (st1), (st2), (st3), (st4), (st5), (st6), (st7), (st8)]; try simp (disch := omega) only [wrapI64, Int.toNat_natCast, ← Int.natCast_add, nat_add_one, nat_add_two, take_drop_all, List.drop_zero, Nat.sub_zero, Nat.add_sub_cancel_left])
    try rfl
  have n9 : ¬ d = [102, 110] := h9
  rw [if_neg (by simp only [h8, h9, or_self, not_false_eq_true])] at hS
  subst hS
  (simp only [n1, n2, n3, n4, n5, n6, n7, n8, n9, (vm1), (vm2), (vm3), (vm4), aDet, ev, tget, tput, ofC, ofC1, pureR, condR, abin, aun, alen, gslot, Nat.reduceEqDiff, reduceIte, argTs, asliceS, asliceL, bnd, boolV, intV, retQ, aRes, aResV, oneAV, AV.low, AV.low.lows, Nat.reduceAdd, isStringD, isSliceD, isBoolD, setRange, AV.cells, AV.isCell, AV.isAgg, abytes, aconv, aeq, isConst, isByteD, isIfaceD, endQ, Int.reduceToNat, Int.reduceLE, Int.reduceLT, Int.reduceEq, Int.reduceNe, Int.reduceAdd, Int.reduceSub, Int.reduceNeg, Nat.reduceLT, Nat.reduceLeDiff, Ent.ver, Ent.imm, Ent.ty, lits, isEl, newCells, aappend, Nat.reduceBEq, fill, undef, (st1), (st2), (st3), (st4), (st5), (st6), (st7), (st8)]; try simp (disch := omega) only [wrapI64, Int.toNat_natCast, ← Int.natCast_add, nat_add_one, nat_add_two, take_drop_all, List.drop_zero, Nat.sub_zero, Nat.add_sub_cancel_left])
  try rfl

/-- A counter: so many nodes, so deep. -/
abbrev cntE (n d : Int) : Ent := .arr 88 [i64 n, i64 d] 0 0
theorem storeLow_set {n : Nat} {σ : List Ent} {id : Nat} {e : Ent} (h : e.low n = true) : StoreLow n σ (σ.set id e) := fun i x hx => by
  rcases get_set hx with ⟨_, rfl, _⟩ | ⟨_, hx⟩
  · exact .inr h
  · exact .inl hx

theorem down_ok (σ : List Ent) (id : Nat) (n d : Int) (hid : σ[id]? = some (cntE n d)) (hn : 0 ≤ n ∧ n ≤ 1000000) (hd : 0 ≤ d ∧ d ≤ 1000000) :
    ACalls E 92 [.ref id 0 0] σ fun r τ => r = boolV (decide (n + 1 ≤ 2000) && decide (d + 1 ≤ 200)) ∧ τ = σ.set id (cntE (n + 1) (d + 1)) := by
  refine xacalls T0 .stay [] Tryz.func92 rfl (by kernel_rfl) (by kernel_rfl) (by simp [Tryz.ntmps92]) ?_
  have hlt := lt_of_get hid
  have gk : ∀ r, sget σ r id = some (cntE n d) := fun r => by unfold sget; rw [if_pos hlt, hid]
  have gs : ∀ e r, sget (σ.set id e) r id = some e := fun e r => by unfold sget; rw [if_pos (by simpa using hlt), get_set_self hid]
  have sG0 : ∀ e, ssetG σ id e = σ.set id e := fun e => by unfold ssetG; rw [if_pos hlt]
  have sL0 : ∀ e l, ssetL σ l id e = l := fun e l => by unfold ssetL; rw [if_pos hlt]
  have sG : ∀ e0 e, ssetG (σ.set id e0) id e = σ.set id e := fun e0 e => by unfold ssetG; rw [if_pos (by simpa using hlt), List.set_set]
  have sL : ∀ e0 e l, ssetL (σ.set id e0) l id e = l := fun e0 e l => by unfold ssetL; rw [if_pos (by simpa using hlt)]
  have w1 : IntKind.i64.wrap (n + 1) = n + 1 := wrapI64 (by omega) (by omega)
  have w2 : IntKind.i64.wrap (d + 1) = d + 1 := wrapI64 (by omega) (by omega)
  by_cases h : n + 1 ≤ 2000 <;> (simp only [h, gk, gs, sG0, sL0, sG, sL, w1, w2, (vm1), (vm2), (vm3), (vm4), aDet, ev, tget, tput, ofC, ofC1, pureR, condR, abin, aun, alen, gslot, Nat.reduceEqDiff, reduceIte, argTs, asliceS, asliceL, bnd, boolV, intV, retQ, aRes, aResV, oneAV, AV.low, AV.low.lows, Nat.reduceAdd, isStringD, isSliceD, isBoolD, setRange, AV.cells, AV.isCell, AV.isAgg, abytes, aconv, aeq, isConst, isByteD, isIfaceD, endQ, Int.reduceToNat, Int.reduceLE, Int.reduceLT, Int.reduceEq, Int.reduceNe, Int.reduceAdd, Int.reduceSub, Int.reduceNeg, Nat.reduceLT, Nat.reduceLeDiff, Ent.ver, Ent.imm, Ent.ty, lits, isEl, newCells, aappend, Nat.reduceBEq, fill, undef, (st1), (st2), (st3), (st4), (st5), (st6), (st7), (st8)]; try simp (disch := omega) only [wrapI64, Int.toNat_natCast, ← Int.natCast_add, nat_add_one, nat_add_two, take_drop_all, List.drop_zero, Nat.sub_zero, Nat.add_sub_cancel_left])
end Go.D

/- Types as trees; searches over lists of them. -/
set_option linter.unusedVariables false
set_option linter.unusedSimpArgs false
set_option maxRecDepth 100000
namespace Go.D
open Go Go.Vm Go.Proofs Go.RowKit

/-- A type of layer 2. -/
inductive Tr where
  | mk (d n : List UInt8) (args : List Tr)
/-- A type with places. -/
inductive RTr where
  | mk (d n : List UInt8) (at_ : Int) (eff : List Int) (args : List RTr)
mutual
def tyV : Tr → AV
  | .mk d n us => .agg [.str d, .str n, .sl (tysV us)]
def tysV : List Tr → List AV
  | [] => []
  | t :: ts => tyV t :: tysV ts
end
mutual
def rtyV : RTr → AV
  | .mk d n a e us => .agg [.str d, .str n, i64 a, .sl (ivs e), .sl (rtysV us)]
def rtysV : List RTr → List AV
  | [] => []
  | t :: ts => rtyV t :: rtysV ts
end
theorem tysV_map : ∀ l : List Tr, tysV l = l.map tyV
  | [] => rfl
  | t :: ts => by rw [tysV, tysV_map ts]; rfl
theorem rtysV_map : ∀ l : List RTr, rtysV l = l.map rtyV
  | [] => rfl
  | t :: ts => by rw [rtysV, rtysV_map ts]; rfl
theorem tyV_el (t : Tr) : isEl 3 true (tyV t) = true := by cases t; rfl
theorem rtyV_el (t : RTr) : isEl 5 true (rtyV t) = true := by cases t; rfl
mutual
theorem tyV_low (n : Nat) : ∀ t : Tr, (tyV t).low n = true
  | .mk d m us => by
    simp only [tyV, AV.low, AV.low.lows, Bool.and_true, Bool.true_and]
    exact tysV_low n us
theorem tysV_low (n : Nat) : ∀ l : List Tr, AV.low.lows n (tysV l) = true
  | [] => rfl
  | t :: ts => by simp only [tysV, AV.low.lows, tyV_low n t, tysV_low n ts, Bool.and_true]
end
mutual
theorem rtyV_low (n : Nat) : ∀ t : RTr, (rtyV t).low n = true
  | .mk d m a e us => by
    simp only [rtyV, AV.low, AV.low.lows, ivs_low, Bool.and_true, Bool.true_and]
    exact rtysV_low n us
theorem rtysV_low (n : Nat) : ∀ l : List RTr, AV.low.lows n (rtysV l) = true
  | [] => rfl
  | t :: ts => by simp only [rtysV, AV.low.lows, rtyV_low n t, rtysV_low n ts, Bool.and_true]
end

theorem ixTy_ok (f : FuncId) (caps : List AV) (es : List AV) (hl : es.length ≤ 1099511627776) (hel : ∀ e ∈ es, isEl 3 true e = true) (S : Nat → List Ent) (I : Nat → Prop) (Bad : Nat → List Ent → Prop) (hSl : ∀ i j, (S i).length = (S j).length) (h0 : I 0)
    (hf : ∀ i, i < es.length → I i → ACalls E f (es.getD i .un :: caps) (S i) fun r τ => (r = boolV false ∧ I (i + 1) ∧ τ = S (i + 1)) ∨ (r = boolV true ∧ Bad i τ)) :
    ACalls E 110 [.sl es, .fn f [] caps] (S 0) fun r τ => (r = i64 (-1) ∧ I es.length ∧ τ = S es.length) ∨ ∃ i : Nat, r = i64 i ∧ i < es.length ∧ I i ∧ Bad i τ := by
  refine xacalls T0 .stay [] Tryz.func110 rfl (by kernel_rfl) (by kernel_rfl) (by simp [Tryz.ntmps110]) ?_
  (simp only [(vm1), (vm2), (vm3), (vm4), aDet, ev, tget, tput, ofC, ofC1, pureR, condR, abin, aun, alen, gslot, Nat.reduceEqDiff, reduceIte, argTs, asliceS, asliceL, bnd, boolV, intV, retQ, aRes, aResV, oneAV, AV.low, AV.low.lows, Nat.reduceAdd, isStringD, isSliceD, isBoolD, setRange, AV.cells, AV.isCell, AV.isAgg, abytes, aconv, aeq, isConst, isByteD, isIfaceD, endQ, Int.reduceToNat, Int.reduceLE, Int.reduceLT, Int.reduceEq, Int.reduceNe, Int.reduceAdd, Int.reduceSub, Int.reduceNeg, Nat.reduceLT, Nat.reduceLeDiff, Ent.ver, Ent.imm, Ent.ty, lits, isEl, newCells, aappend, Nat.reduceBEq, fill, undef, (st1), (st2), (st3), (st4), (st5), (st6), (st7), (st8)]; try simp (disch := omega) only [wrapI64, Int.toNat_natCast, ← Int.natCast_add, nat_add_one, nat_add_two, take_drop_all, List.drop_zero, Nat.sub_zero, Nat.add_sub_cancel_left])
  refine xloop (α := Nat) T0 (fun i => [(0, .sl es), (1, .fn f [] caps), (7, i64 es.length), (8, i64 i)]) (fun i => S i) (fun _ => []) (fun i => i ≤ es.length ∧ I i) (fun i => es.length - i) (by kernel_rfl)
    ⟨0, ⟨by omega, h0⟩, by (simp only [(vm1), (vm2), (vm3), (vm4), aDet, ev, tget, tput, ofC, ofC1, pureR, condR, abin, aun, alen, gslot, Nat.reduceEqDiff, reduceIte, argTs, asliceS, asliceL, bnd, boolV, intV, retQ, aRes, aResV, oneAV, AV.low, AV.low.lows, Nat.reduceAdd, isStringD, isSliceD, isBoolD, setRange, AV.cells, AV.isCell, AV.isAgg, abytes, aconv, aeq, isConst, isByteD, isIfaceD, endQ, Int.reduceToNat, Int.reduceLE, Int.reduceLT, Int.reduceEq, Int.reduceNe, Int.reduceAdd, Int.reduceSub, Int.reduceNeg, Nat.reduceLT, Nat.reduceLeDiff, Ent.ver, Ent.imm, Ent.ty, lits, isEl, newCells, aappend, Nat.reduceBEq, fill, undef, (st1), (st2), (st3), (st4), (st5), (st6), (st7), (st8), Int.natCast_zero]; try simp (disch := omega) only [wrapI64, Int.toNat_natCast, ← Int.natCast_add, nat_add_one, nat_add_two, take_drop_all, List.drop_zero, Nat.sub_zero, Nat.add_sub_cancel_left]), rfl, rfl⟩ ?_
  rintro i ⟨hi, hI⟩
  by_cases h : (i : Int) < es.length
  · have hi' : i < es.length := by omega
    have hm : es.getD i .un ∈ es := by simp [List.getD, hi']
    have he := hel _ hm
    generalize hx : es.getD i .un = x at *
    cases x with
    | agg cs =>
      simp only [isEl, AV.isAgg, AV.cells, Bool.and_eq_true, beq_iff_eq] at he
      obtain ⟨⟨_, hlen⟩, hall⟩ := he
      (simp only [h, hx, hlen, hall, (vm1), (vm2), (vm3), (vm4), aDet, ev, tget, tput, ofC, ofC1, pureR, condR, abin, aun, alen, gslot, Nat.reduceEqDiff, reduceIte, argTs, asliceS, asliceL, bnd, boolV, intV, retQ, aRes, aResV, oneAV, AV.low, AV.low.lows, Nat.reduceAdd, isStringD, isSliceD, isBoolD, setRange, AV.cells, AV.isCell, AV.isAgg, abytes, aconv, aeq, isConst, isByteD, isIfaceD, endQ, Int.reduceToNat, Int.reduceLE, Int.reduceLT, Int.reduceEq, Int.reduceNe, Int.reduceAdd, Int.reduceSub, Int.reduceNeg, Nat.reduceLT, Nat.reduceLeDiff, Ent.ver, Ent.imm, Ent.ty, lits, isEl, newCells, aappend, Nat.reduceBEq, fill, undef, (st1), (st2), (st3), (st4), (st5), (st6), (st7), (st8)]; try simp (disch := omega) only [wrapI64, Int.toNat_natCast, ← Int.natCast_add, nat_add_one, nat_add_two, take_drop_all, List.drop_zero, Nat.sub_zero, Nat.add_sub_cancel_left])
      refine ⟨hall, ?_⟩
      rw [List.take_of_length_le (by omega)]
      have hc := hf i hi' hI
      rw [hx] at hc
      refine xWait.of hc ?_
      rintro r τ (⟨rfl, hI1, rfl⟩ | ⟨rfl, hB⟩)
      · rw [hSl i (i + 1)]
        (simp only [(vm1), (vm2), (vm3), (vm4), aDet, ev, tget, tput, ofC, ofC1, pureR, condR, abin, aun, alen, gslot, Nat.reduceEqDiff, reduceIte, argTs, asliceS, asliceL, bnd, boolV, intV, retQ, aRes, aResV, oneAV, AV.low, AV.low.lows, Nat.reduceAdd, isStringD, isSliceD, isBoolD, setRange, AV.cells, AV.isCell, AV.isAgg, abytes, aconv, aeq, isConst, isByteD, isIfaceD, endQ, Int.reduceToNat, Int.reduceLE, Int.reduceLT, Int.reduceEq, Int.reduceNe, Int.reduceAdd, Int.reduceSub, Int.reduceNeg, Nat.reduceLT, Nat.reduceLeDiff, Ent.ver, Ent.imm, Ent.ty, lits, isEl, newCells, aappend, Nat.reduceBEq, fill, undef, (st1), (st2), (st3), (st4), (st5), (st6), (st7), (st8)]; try simp (disch := omega) only [wrapI64, Int.toNat_natCast, ← Int.natCast_add, nat_add_one, nat_add_two, take_drop_all, List.drop_zero, Nat.sub_zero, Nat.add_sub_cancel_left])
        exact ⟨i + 1, ⟨by omega, hI1⟩, by omega, rfl, rfl⟩
      · (simp only [(vm1), (vm2), (vm3), (vm4), aDet, ev, tget, tput, ofC, ofC1, pureR, condR, abin, aun, alen, gslot, Nat.reduceEqDiff, reduceIte, argTs, asliceS, asliceL, bnd, boolV, intV, retQ, aRes, aResV, oneAV, AV.low, AV.low.lows, Nat.reduceAdd, isStringD, isSliceD, isBoolD, setRange, AV.cells, AV.isCell, AV.isAgg, abytes, aconv, aeq, isConst, isByteD, isIfaceD, endQ, Int.reduceToNat, Int.reduceLE, Int.reduceLT, Int.reduceEq, Int.reduceNe, Int.reduceAdd, Int.reduceSub, Int.reduceNeg, Nat.reduceLT, Nat.reduceLeDiff, Ent.ver, Ent.imm, Ent.ty, lits, isEl, newCells, aappend, Nat.reduceBEq, fill, undef, (st1), (st2), (st3), (st4), (st5), (st6), (st7), (st8)]; try simp (disch := omega) only [wrapI64, Int.toNat_natCast, ← Int.natCast_add, nat_add_one, nat_add_two, take_drop_all, List.drop_zero, Nat.sub_zero, Nat.add_sub_cancel_left])
        exact .inr ⟨i, rfl, hi', hI, by rw [List.take_append_drop]; exact hB⟩
    | _ => simp [isEl, AV.isAgg] at he
  · (simp only [h, (vm1), (vm2), (vm3), (vm4), aDet, ev, tget, tput, ofC, ofC1, pureR, condR, abin, aun, alen, gslot, Nat.reduceEqDiff, reduceIte, argTs, asliceS, asliceL, bnd, boolV, intV, retQ, aRes, aResV, oneAV, AV.low, AV.low.lows, Nat.reduceAdd, isStringD, isSliceD, isBoolD, setRange, AV.cells, AV.isCell, AV.isAgg, abytes, aconv, aeq, isConst, isByteD, isIfaceD, endQ, Int.reduceToNat, Int.reduceLE, Int.reduceLT, Int.reduceEq, Int.reduceNe, Int.reduceAdd, Int.reduceSub, Int.reduceNeg, Nat.reduceLT, Nat.reduceLeDiff, Ent.ver, Ent.imm, Ent.ty, lits, isEl, newCells, aappend, Nat.reduceBEq, fill, undef, (st1), (st2), (st3), (st4), (st5), (st6), (st7), (st8)]; try simp (disch := omega) only [wrapI64, Int.toNat_natCast, ← Int.natCast_add, nat_add_one, nat_add_two, take_drop_all, List.drop_zero, Nat.sub_zero, Nat.add_sub_cancel_left])
    have : i = es.length := by omega
    subst this
    exact .inl ⟨hI, rfl⟩

theorem conTy_ok (f : FuncId) (caps : List AV) (es : List AV) (hl : es.length ≤ 1099511627776) (hel : ∀ e ∈ es, isEl 3 true e = true) (S : Nat → List Ent) (I : Nat → Prop) (Bad : Nat → List Ent → Prop) (hSl : ∀ i j, (S i).length = (S j).length) (h0 : I 0)
    (hf : ∀ i, i < es.length → I i → ACalls E f (es.getD i .un :: caps) (S i) fun r τ => (r = boolV false ∧ I (i + 1) ∧ τ = S (i + 1)) ∨ (r = boolV true ∧ Bad i τ)) :
    ACalls E 86 [.sl es, .fn f [] caps] (S 0) fun r τ => (r = boolV false ∧ I es.length ∧ τ = S es.length) ∨ (r = boolV true ∧ ∃ i, i < es.length ∧ I i ∧ Bad i τ) := by
  refine xacalls T0 .stay [] Tryz.func86 rfl (by kernel_rfl) (by kernel_rfl) (by simp [Tryz.ntmps86]) ?_
  (simp only [(vm1), (vm2), (vm3), (vm4), aDet, ev, tget, tput, ofC, ofC1, pureR, condR, abin, aun, alen, gslot, Nat.reduceEqDiff, reduceIte, argTs, asliceS, asliceL, bnd, boolV, intV, retQ, aRes, aResV, oneAV, AV.low, AV.low.lows, Nat.reduceAdd, isStringD, isSliceD, isBoolD, setRange, AV.cells, AV.isCell, AV.isAgg, abytes, aconv, aeq, isConst, isByteD, isIfaceD, endQ, Int.reduceToNat, Int.reduceLE, Int.reduceLT, Int.reduceEq, Int.reduceNe, Int.reduceAdd, Int.reduceSub, Int.reduceNeg, Nat.reduceLT, Nat.reduceLeDiff, Ent.ver, Ent.imm, Ent.ty, lits, isEl, newCells, aappend, Nat.reduceBEq, fill, undef, (st1), (st2), (st3), (st4), (st5), (st6), (st7), (st8)]; try simp (disch := omega) only [wrapI64, Int.toNat_natCast, ← Int.natCast_add, nat_add_one, nat_add_two, take_drop_all, List.drop_zero, Nat.sub_zero, Nat.add_sub_cancel_left])
  refine xWait.of (ixTy_ok f caps es hl hel S I Bad hSl h0 hf) ?_
  rintro r τ (⟨rfl, hI1, rfl⟩ | ⟨i, rfl, h1, h2, h3⟩)
  · rw [hSl 0 es.length]
    (simp only [(vm1), (vm2), (vm3), (vm4), aDet, ev, tget, tput, ofC, ofC1, pureR, condR, abin, aun, alen, gslot, Nat.reduceEqDiff, reduceIte, argTs, asliceS, asliceL, bnd, boolV, intV, retQ, aRes, aResV, oneAV, AV.low, AV.low.lows, Nat.reduceAdd, isStringD, isSliceD, isBoolD, setRange, AV.cells, AV.isCell, AV.isAgg, abytes, aconv, aeq, isConst, isByteD, isIfaceD, endQ, Int.reduceToNat, Int.reduceLE, Int.reduceLT, Int.reduceEq, Int.reduceNe, Int.reduceAdd, Int.reduceSub, Int.reduceNeg, Nat.reduceLT, Nat.reduceLeDiff, Ent.ver, Ent.imm, Ent.ty, lits, isEl, newCells, aappend, Nat.reduceBEq, fill, undef, (st1), (st2), (st3), (st4), (st5), (st6), (st7), (st8)]; try simp (disch := omega) only [wrapI64, Int.toNat_natCast, ← Int.natCast_add, nat_add_one, nat_add_two, take_drop_all, List.drop_zero, Nat.sub_zero, Nat.add_sub_cancel_left])
    exact .inl hI1
  · have hi : (0 : Int) ≤ i := by omega
    (simp only [hi, (vm1), (vm2), (vm3), (vm4), aDet, ev, tget, tput, ofC, ofC1, pureR, condR, abin, aun, alen, gslot, Nat.reduceEqDiff, reduceIte, argTs, asliceS, asliceL, bnd, boolV, intV, retQ, aRes, aResV, oneAV, AV.low, AV.low.lows, Nat.reduceAdd, isStringD, isSliceD, isBoolD, setRange, AV.cells, AV.isCell, AV.isAgg, abytes, aconv, aeq, isConst, isByteD, isIfaceD, endQ, Int.reduceToNat, Int.reduceLE, Int.reduceLT, Int.reduceEq, Int.reduceNe, Int.reduceAdd, Int.reduceSub, Int.reduceNeg, Nat.reduceLT, Nat.reduceLeDiff, Ent.ver, Ent.imm, Ent.ty, lits, isEl, newCells, aappend, Nat.reduceBEq, fill, undef, (st1), (st2), (st3), (st4), (st5), (st6), (st7), (st8)]; try simp (disch := omega) only [wrapI64, Int.toNat_natCast, ← Int.natCast_add, nat_add_one, nat_add_two, take_drop_all, List.drop_zero, Nat.sub_zero, Nat.add_sub_cancel_left])
    exact .inr ⟨i, h1, h2, by rw [List.take_append_drop]; exact h3⟩
theorem ixRTy_ok (f : FuncId) (caps : List AV) (es : List AV) (hl : es.length ≤ 1099511627776) (hel : ∀ e ∈ es, isEl 5 true e = true) (S : Nat → List Ent) (I : Nat → Prop) (Bad : Nat → List Ent → Prop) (hSl : ∀ i j, (S i).length = (S j).length) (h0 : I 0)
    (hf : ∀ i, i < es.length → I i → ACalls E f (es.getD i .un :: caps) (S i) fun r τ => (r = boolV false ∧ I (i + 1) ∧ τ = S (i + 1)) ∨ (r = boolV true ∧ Bad i τ)) :
    ACalls E 123 [.sl es, .fn f [] caps] (S 0) fun r τ => (r = i64 (-1) ∧ I es.length ∧ τ = S es.length) ∨ ∃ i : Nat, r = i64 i ∧ i < es.length ∧ I i ∧ Bad i τ := by
  refine xacalls T0 .stay [] Tryz.func123 rfl (by kernel_rfl) (by kernel_rfl) (by simp [Tryz.ntmps123]) ?_
  (simp only [(vm1), (vm2), (vm3), (vm4), aDet, ev, tget, tput, ofC, ofC1, pureR, condR, abin, aun, alen, gslot, Nat.reduceEqDiff, reduceIte, argTs, asliceS, asliceL, bnd, boolV, intV, retQ, aRes, aResV, oneAV, AV.low, AV.low.lows, Nat.reduceAdd, isStringD, isSliceD, isBoolD, setRange, AV.cells, AV.isCell, AV.isAgg, abytes, aconv, aeq, isConst, isByteD, isIfaceD, endQ, Int.reduceToNat, Int.reduceLE, Int.reduceLT, Int.reduceEq, Int.reduceNe, Int.reduceAdd, Int.reduceSub, Int.reduceNeg, Nat.reduceLT, Nat.reduceLeDiff, Ent.ver, Ent.imm, Ent.ty, lits, isEl, newCells, aappend, Nat.reduceBEq, fill, undef, (st1), (st2), (st3), (st4), (st5), (st6), (st7), (st8)]; try simp (disch := omega) only [wrapI64, Int.toNat_natCast, ← Int.natCast_add, nat_add_one, nat_add_two, take_drop_all, List.drop_zero, Nat.sub_zero, Nat.add_sub_cancel_left])
  refine xloop (α := Nat) T0 (fun i => [(0, .sl es), (1, .fn f [] caps), (7, i64 es.length), (8, i64 i)]) (fun i => S i) (fun _ => []) (fun i => i ≤ es.length ∧ I i) (fun i => es.length - i) (by kernel_rfl)
    ⟨0, ⟨by omega, h0⟩, by (simp only [(vm1), (vm2), (vm3), (vm4), aDet, ev, tget, tput, ofC, ofC1, pureR, condR, abin, aun, alen, gslot, Nat.reduceEqDiff, reduceIte, argTs, asliceS, asliceL, bnd, boolV, intV, retQ, aRes, aResV, oneAV, AV.low, AV.low.lows, Nat.reduceAdd, isStringD, isSliceD, isBoolD, setRange, AV.cells, AV.isCell, AV.isAgg, abytes, aconv, aeq, isConst, isByteD, isIfaceD, endQ, Int.reduceToNat, Int.reduceLE, Int.reduceLT, Int.reduceEq, Int.reduceNe, Int.reduceAdd, Int.reduceSub, Int.reduceNeg, Nat.reduceLT, Nat.reduceLeDiff, Ent.ver, Ent.imm, Ent.ty, lits, isEl, newCells, aappend, Nat.reduceBEq, fill, undef, (st1), (st2), (st3), (st4), (st5), (st6), (st7), (st8), Int.natCast_zero]; try simp (disch := omega) only [wrapI64, Int.toNat_natCast, ← Int.natCast_add, nat_add_one, nat_add_two, take_drop_all, List.drop_zero, Nat.sub_zero, Nat.add_sub_cancel_left]), rfl, rfl⟩ ?_
  rintro i ⟨hi, hI⟩
  by_cases h : (i : Int) < es.length
  · have hi' : i < es.length := by omega
    have hm : es.getD i .un ∈ es := by simp [List.getD, hi']
    have he := hel _ hm
    generalize hx : es.getD i .un = x at *
    cases x with
    | agg cs =>
      simp only [isEl, AV.isAgg, AV.cells, Bool.and_eq_true, beq_iff_eq] at he
      obtain ⟨⟨_, hlen⟩, hall⟩ := he
      (simp only [h, hx, hlen, hall, (vm1), (vm2), (vm3), (vm4), aDet, ev, tget, tput, ofC, ofC1, pureR, condR, abin, aun, alen, gslot, Nat.reduceEqDiff, reduceIte, argTs, asliceS, asliceL, bnd, boolV, intV, retQ, aRes, aResV, oneAV, AV.low, AV.low.lows, Nat.reduceAdd, isStringD, isSliceD, isBoolD, setRange, AV.cells, AV.isCell, AV.isAgg, abytes, aconv, aeq, isConst, isByteD, isIfaceD, endQ, Int.reduceToNat, Int.reduceLE, Int.reduceLT, Int.reduceEq, Int.reduceNe, Int.reduceAdd, Int.reduceSub, Int.reduceNeg, Nat.reduceLT, Nat.reduceLeDiff, Ent.ver, Ent.imm, Ent.ty, lits, isEl, newCells, aappend, Nat.reduceBEq, fill, undef, (st1), (st2), (st3), (st4), (st5), (st6), (st7), (st8)]; try simp (disch := omega) only [wrapI64, Int.toNat_natCast, ← Int.natCast_add, nat_add_one, nat_add_two, take_drop_all, List.drop_zero, Nat.sub_zero, Nat.add_sub_cancel_left])
      refine ⟨hall, ?_⟩
      rw [List.take_of_length_le (by omega)]
      have hc := hf i hi' hI
      rw [hx] at hc
      refine xWait.of hc ?_
      rintro r τ (⟨rfl, hI1, rfl⟩ | ⟨rfl, hB⟩)
      · rw [hSl i (i + 1)]
        (simp only [(vm1), (vm2), (vm3), (vm4), aDet, ev, tget, tput, ofC, ofC1, pureR, condR, abin, aun, alen, gslot, Nat.reduceEqDiff, reduceIte, argTs, asliceS, asliceL, bnd, boolV, intV, retQ, aRes, aResV, oneAV, AV.low, AV.low.lows, Nat.reduceAdd, isStringD, isSliceD, isBoolD, setRange, AV.cells, AV.isCell, AV.isAgg, abytes, aconv, aeq, isConst, isByteD, isIfaceD, endQ, Int.reduceToNat, Int.reduceLE, Int.reduceLT, Int.reduceEq, Int.reduceNe, Int.reduceAdd, Int.reduceSub, Int.reduceNeg, Nat.reduceLT, Nat.reduceLeDiff, Ent.ver, Ent.imm, Ent.ty, lits, isEl, newCells, aappend, Nat.reduceBEq, fill, undef, (st1), (st2), (st3), (st4), (st5), (st6), (st7), (st8)]; try simp (disch := omega) only [wrapI64, Int.toNat_natCast, ← Int.natCast_add, nat_add_one, nat_add_two, take_drop_all, List.drop_zero, Nat.sub_zero, Nat.add_sub_cancel_left])
        exact ⟨i + 1, ⟨by omega, hI1⟩, by omega, rfl, rfl⟩
      · (simp only [(vm1), (vm2), (vm3), (vm4), aDet, ev, tget, tput, ofC, ofC1, pureR, condR, abin, aun, alen, gslot, Nat.reduceEqDiff, reduceIte, argTs, asliceS, asliceL, bnd, boolV, intV, retQ, aRes, aResV, oneAV, AV.low, AV.low.lows, Nat.reduceAdd, isStringD, isSliceD, isBoolD, setRange, AV.cells, AV.isCell, AV.isAgg, abytes, aconv, aeq, isConst, isByteD, isIfaceD, endQ, Int.reduceToNat, Int.reduceLE, Int.reduceLT, Int.reduceEq, Int.reduceNe, Int.reduceAdd, Int.reduceSub, Int.reduceNeg, Nat.reduceLT, Nat.reduceLeDiff, Ent.ver, Ent.imm, Ent.ty, lits, isEl, newCells, aappend, Nat.reduceBEq, fill, undef, (st1), (st2), (st3), (st4), (st5), (st6), (st7), (st8)]; try simp (disch := omega) only [wrapI64, Int.toNat_natCast, ← Int.natCast_add, nat_add_one, nat_add_two, take_drop_all, List.drop_zero, Nat.sub_zero, Nat.add_sub_cancel_left])
        exact .inr ⟨i, rfl, hi', hI, by rw [List.take_append_drop]; exact hB⟩
    | _ => simp [isEl, AV.isAgg] at he
  · (simp only [h, (vm1), (vm2), (vm3), (vm4), aDet, ev, tget, tput, ofC, ofC1, pureR, condR, abin, aun, alen, gslot, Nat.reduceEqDiff, reduceIte, argTs, asliceS, asliceL, bnd, boolV, intV, retQ, aRes, aResV, oneAV, AV.low, AV.low.lows, Nat.reduceAdd, isStringD, isSliceD, isBoolD, setRange, AV.cells, AV.isCell, AV.isAgg, abytes, aconv, aeq, isConst, isByteD, isIfaceD, endQ, Int.reduceToNat, Int.reduceLE, Int.reduceLT, Int.reduceEq, Int.reduceNe, Int.reduceAdd, Int.reduceSub, Int.reduceNeg, Nat.reduceLT, Nat.reduceLeDiff, Ent.ver, Ent.imm, Ent.ty, lits, isEl, newCells, aappend, Nat.reduceBEq, fill, undef, (st1), (st2), (st3), (st4), (st5), (st6), (st7), (st8)]; try simp (disch := omega) only [wrapI64, Int.toNat_natCast, ← Int.natCast_add, nat_add_one, nat_add_two, take_drop_all, List.drop_zero, Nat.sub_zero, Nat.add_sub_cancel_left])
    have : i = es.length := by omega
    subst this
    exact .inl ⟨hI, rfl⟩

theorem conRTy_ok (f : FuncId) (caps : List AV) (es : List AV) (hl : es.length ≤ 1099511627776) (hel : ∀ e ∈ es, isEl 5 true e = true) (S : Nat → List Ent) (I : Nat → Prop) (Bad : Nat → List Ent → Prop) (hSl : ∀ i j, (S i).length = (S j).length) (h0 : I 0)
    (hf : ∀ i, i < es.length → I i → ACalls E f (es.getD i .un :: caps) (S i) fun r τ => (r = boolV false ∧ I (i + 1) ∧ τ = S (i + 1)) ∨ (r = boolV true ∧ Bad i τ)) :
    ACalls E 95 [.sl es, .fn f [] caps] (S 0) fun r τ => (r = boolV false ∧ I es.length ∧ τ = S es.length) ∨ (r = boolV true ∧ ∃ i, i < es.length ∧ I i ∧ Bad i τ) := by
  refine xacalls T0 .stay [] Tryz.func95 rfl (by kernel_rfl) (by kernel_rfl) (by simp [Tryz.ntmps95]) ?_
  (simp only [(vm1), (vm2), (vm3), (vm4), aDet, ev, tget, tput, ofC, ofC1, pureR, condR, abin, aun, alen, gslot, Nat.reduceEqDiff, reduceIte, argTs, asliceS, asliceL, bnd, boolV, intV, retQ, aRes, aResV, oneAV, AV.low, AV.low.lows, Nat.reduceAdd, isStringD, isSliceD, isBoolD, setRange, AV.cells, AV.isCell, AV.isAgg, abytes, aconv, aeq, isConst, isByteD, isIfaceD, endQ, Int.reduceToNat, Int.reduceLE, Int.reduceLT, Int.reduceEq, Int.reduceNe, Int.reduceAdd, Int.reduceSub, Int.reduceNeg, Nat.reduceLT, Nat.reduceLeDiff, Ent.ver, Ent.imm, Ent.ty, lits, isEl, newCells, aappend, Nat.reduceBEq, fill, undef, (st1), (st2), (st3), (st4), (st5), (st6), (st7), (st8)]; try simp (disch := omega) only [wrapI64, Int.toNat_natCast, ← Int.natCast_add, nat_add_one, nat_add_two, take_drop_all, List.drop_zero, Nat.sub_zero, Nat.add_sub_cancel_left])
  refine xWait.of (ixRTy_ok f caps es hl hel S I Bad hSl h0 hf) ?_
  rintro r τ (⟨rfl, hI1, rfl⟩ | ⟨i, rfl, h1, h2, h3⟩)
  · rw [hSl 0 es.length]
    (simp only [(vm1), (vm2), (vm3), (vm4), aDet, ev, tget, tput, ofC, ofC1, pureR, condR, abin, aun, alen, gslot, Nat.reduceEqDiff, reduceIte, argTs, asliceS, asliceL, bnd, boolV, intV, retQ, aRes, aResV, oneAV, AV.low, AV.low.lows, Nat.reduceAdd, isStringD, isSliceD, isBoolD, setRange, AV.cells, AV.isCell, AV.isAgg, abytes, aconv, aeq, isConst, isByteD, isIfaceD, endQ, Int.reduceToNat, Int.reduceLE, Int.reduceLT, Int.reduceEq, Int.reduceNe, Int.reduceAdd, Int.reduceSub, Int.reduceNeg, Nat.reduceLT, Nat.reduceLeDiff, Ent.ver, Ent.imm, Ent.ty, lits, isEl, newCells, aappend, Nat.reduceBEq, fill, undef, (st1), (st2), (st3), (st4), (st5), (st6), (st7), (st8)]; try simp (disch := omega) only [wrapI64, Int.toNat_natCast, ← Int.natCast_add, nat_add_one, nat_add_two, take_drop_all, List.drop_zero, Nat.sub_zero, Nat.add_sub_cancel_left])
    exact .inl hI1
  · have hi : (0 : Int) ≤ i := by omega
    (simp only [hi, (vm1), (vm2), (vm3), (vm4), aDet, ev, tget, tput, ofC, ofC1, pureR, condR, abin, aun, alen, gslot, Nat.reduceEqDiff, reduceIte, argTs, asliceS, asliceL, bnd, boolV, intV, retQ, aRes, aResV, oneAV, AV.low, AV.low.lows, Nat.reduceAdd, isStringD, isSliceD, isBoolD, setRange, AV.cells, AV.isCell, AV.isAgg, abytes, aconv, aeq, isConst, isByteD, isIfaceD, endQ, Int.reduceToNat, Int.reduceLE, Int.reduceLT, Int.reduceEq, Int.reduceNe, Int.reduceAdd, Int.reduceSub, Int.reduceNeg, Nat.reduceLT, Nat.reduceLeDiff, Ent.ver, Ent.imm, Ent.ty, lits, isEl, newCells, aappend, Nat.reduceBEq, fill, undef, (st1), (st2), (st3), (st4), (st5), (st6), (st7), (st8)]; try simp (disch := omega) only [wrapI64, Int.toNat_natCast, ← Int.natCast_add, nat_add_one, nat_add_two, take_drop_all, List.drop_zero, Nat.sub_zero, Nat.add_sub_cancel_left])
    exact .inr ⟨i, h1, h2, by rw [List.take_append_drop]; exact h3⟩
end Go.D

/- Which types of layer 2 are valid, as layer 10 asks. -/
set_option linter.unusedVariables false
set_option linter.unusedSimpArgs false
set_option maxRecDepth 100000
namespace Go.D
open Go Go.Vm Go.Proofs Go.RowKit

mutual
def wellT : Tr → Bool
  | .mk d n us => (shapeB d).2.2 && (decide (us.length = (shapeB d).2.1) && ((decide (d = kiData) == conB n) && ((decide (d = kiData) || decide (n = [])) && wellTs us)))
def wellTs : List Tr → Bool
  | [] => true
  | t :: ts => wellT t && wellTs ts
end
mutual
def sizeT : Tr → Nat
  | .mk _ _ us => 1 + sizeTs us
def sizeTs : List Tr → Nat
  | [] => 0
  | t :: ts => sizeT t + sizeTs ts
end
mutual
def deepT : Tr → Nat
  | .mk _ _ us => 1 + deepTs us
def deepTs : List Tr → Nat
  | [] => 0
  | t :: ts => max (deepT t) (deepTs ts)
end
mutual
/-- Names and lists of any length that memory holds. -/
def lenT : Tr → Prop
  | .mk d n us => n.length ≤ 1099511627776 ∧ us.length ≤ 1099511627776 ∧ lenTs us
def lenTs : List Tr → Prop
  | [] => True
  | t :: ts => lenT t ∧ lenTs ts
end
def goodT (n d : Nat) (t : Tr) : Prop := wellT t = true ∧ n + sizeT t ≤ 2000 ∧ d + deepT t ≤ 200

/-- What is asked of a type, with a counter. -/
def VT (t : Tr) : Prop := ∀ (σ : List Ent) (id n d : Nat), n ≤ 2000 → d ≤ 200 → σ[id]? = some (cntE n d) → lenT t →
  ACalls E 85 [tyV t, .ref id 0 0] σ fun r τ =>
    (r = boolV true ∧ goodT n d t ∧ τ = σ.set id (cntE (n + sizeT t : Nat) d)) ∨ (r = boolV false ∧ ¬ goodT n d t ∧ ∃ n' d' : Nat, n' ≤ 2001 ∧ d ≤ d' ∧ d' ≤ 201 ∧ τ = σ.set id (cntE n' d'))

theorem take_set (σ : List Ent) (id : Nat) (e : Ent) (l : List Ent) : List.take σ.length (σ.set id e ++ l) = σ.set id e := by
  rw [List.take_append_of_le_length (by simp), List.take_of_length_le (by simp)]
theorem drop_set (σ : List Ent) (id : Nat) (e : Ent) (l : List Ent) : List.drop σ.length (σ.set id e ++ l) = l := by
  rw [List.drop_append_of_le_length (by simp), List.drop_of_length_le (by simp), List.nil_append]

theorem validTy2_ok (t : Tr) (h : VT t) (σ : List Ent) (id c n d : Nat) (hn : n ≤ 2000) (hd : d ≤ 200) (hid : σ[id]? = some (cntE n d)) (hc : σ[c]? = some (.arr 86 [.ref id 0 0] 0 0)) (hl : lenT t) :
    ACalls E 109 [tyV t, .ref c 0 0] σ fun r τ =>
      (r = boolV false ∧ goodT n d t ∧ τ = σ.set id (cntE (n + sizeT t : Nat) d)) ∨ (r = boolV true ∧ ¬ goodT n d t ∧ ∃ n' d' : Nat, n' ≤ 2001 ∧ d ≤ d' ∧ d' ≤ 201 ∧ τ = σ.set id (cntE n' d')) := by
  refine xacalls T0 .drop [] Tryz.func109 rfl (by kernel_rfl) (by kernel_rfl) (by simp [Tryz.ntmps109]) ?_
  have gk : ∀ r, sget σ r c = some (.arr 86 [.ref id 0 0] 0 0) := fun r => by unfold sget; rw [if_pos (lt_of_get hc), hc]
  have hlt := lt_of_get hid
  cases t with
  | mk dd nn us =>
  (simp only [tyV, gk, (vm1), (vm2), (vm3), (vm4), aDet, ev, tget, tput, ofC, ofC1, pureR, condR, abin, aun, alen, gslot, Nat.reduceEqDiff, reduceIte, argTs, asliceS, asliceL, bnd, boolV, intV, retQ, aRes, aResV, oneAV, AV.low, AV.low.lows, Nat.reduceAdd, isStringD, isSliceD, isBoolD, setRange, AV.cells, AV.isCell, AV.isAgg, abytes, aconv, aeq, isConst, isByteD, isIfaceD, endQ, Int.reduceToNat, Int.reduceLE, Int.reduceLT, Int.reduceEq, Int.reduceNe, Int.reduceAdd, Int.reduceSub, Int.reduceNeg, Nat.reduceLT, Nat.reduceLeDiff, Ent.ver, Ent.imm, Ent.ty, lits, isEl, newCells, aappend, Nat.reduceBEq, fill, undef, (st1), (st2), (st3), (st4), (st5), (st6), (st7), (st8)]; try simp (disch := omega) only [wrapI64, Int.toNat_natCast, ← Int.natCast_add, nat_add_one, nat_add_two, take_drop_all, List.drop_zero, Nat.sub_zero, Nat.add_sub_cancel_left])
  have hh := h (σ ++ [.arr 45 [.str dd, .str nn, .sl (tysV us)] 0 0]) id n d hn hd (get_old hid) hl
  simp only [tyV] at hh
  refine xWait.of hh ?_
  rintro r τ (⟨rfl, hg, rfl⟩ | ⟨rfl, hg, n', d', h1, h2, h3, rfl⟩)
  · rw [List.set_append_left _ _ hlt]
    (simp only [take_set, drop_set, (vm1), (vm2), (vm3), (vm4), aDet, ev, tget, tput, ofC, ofC1, pureR, condR, abin, aun, alen, gslot, Nat.reduceEqDiff, reduceIte, argTs, asliceS, asliceL, bnd, boolV, intV, retQ, aRes, aResV, oneAV, AV.low, AV.low.lows, Nat.reduceAdd, isStringD, isSliceD, isBoolD, setRange, AV.cells, AV.isCell, AV.isAgg, abytes, aconv, aeq, isConst, isByteD, isIfaceD, endQ, Int.reduceToNat, Int.reduceLE, Int.reduceLT, Int.reduceEq, Int.reduceNe, Int.reduceAdd, Int.reduceSub, Int.reduceNeg, Nat.reduceLT, Nat.reduceLeDiff, Ent.ver, Ent.imm, Ent.ty, lits, isEl, newCells, aappend, Nat.reduceBEq, fill, undef, (st1), (st2), (st3), (st4), (st5), (st6), (st7), (st8)]; try simp (disch := omega) only [wrapI64, Int.toNat_natCast, ← Int.natCast_add, nat_add_one, nat_add_two, take_drop_all, List.drop_zero, Nat.sub_zero, Nat.add_sub_cancel_left])
    exact ⟨storeLow_set rfl, .inl hg⟩
  · rw [List.set_append_left _ _ hlt]
    (simp only [take_set, drop_set, (vm1), (vm2), (vm3), (vm4), aDet, ev, tget, tput, ofC, ofC1, pureR, condR, abin, aun, alen, gslot, Nat.reduceEqDiff, reduceIte, argTs, asliceS, asliceL, bnd, boolV, intV, retQ, aRes, aResV, oneAV, AV.low, AV.low.lows, Nat.reduceAdd, isStringD, isSliceD, isBoolD, setRange, AV.cells, AV.isCell, AV.isAgg, abytes, aconv, aeq, isConst, isByteD, isIfaceD, endQ, Int.reduceToNat, Int.reduceLE, Int.reduceLT, Int.reduceEq, Int.reduceNe, Int.reduceAdd, Int.reduceSub, Int.reduceNeg, Nat.reduceLT, Nat.reduceLeDiff, Ent.ver, Ent.imm, Ent.ty, lits, isEl, newCells, aappend, Nat.reduceBEq, fill, undef, (st1), (st2), (st3), (st4), (st5), (st6), (st7), (st8)]; try simp (disch := omega) only [wrapI64, Int.toNat_natCast, ← Int.natCast_add, nat_add_one, nat_add_two, take_drop_all, List.drop_zero, Nat.sub_zero, Nat.add_sub_cancel_left])
    exact ⟨storeLow_set rfl, .inr ⟨hg, n', d', h1, h2, h3, rfl⟩⟩

theorem validTy1_ok (σ : List Ent) (id c : Nat) (n d : Nat) (hd : 1 ≤ d ∧ d ≤ 1000000) (hid : σ[id]? = some (cntE n d)) (hc : σ[c]? = some (.arr 86 [.ref id 0 0] 0 0)) :
    ADef E 108 [.ref c 0 0] σ fun r τ => τ = σ.set id (cntE n (d - 1 : Nat)) := by
  have hlt := lt_of_get hid
  have gk : ∀ r, sget σ r c = some (.arr 86 [.ref id 0 0] 0 0) := fun r => by unfold sget; rw [if_pos (lt_of_get hc), hc]
  have gi : ∀ r, sget σ r id = some (cntE n d) := fun r => by unfold sget; rw [if_pos hlt, hid]
  have sG0 : ∀ e, ssetG σ id e = σ.set id e := fun e => by unfold ssetG; rw [if_pos hlt]
  have sL0 : ∀ e l, ssetL σ l id e = l := fun e l => by unfold ssetL; rw [if_pos hlt]
  have w1 : IntKind.i64.wrap ((d : Int) - 1) = ((d - 1 : Nat) : Int) := by rw [wrapI64 (by omega) (by omega)]; omega
  refine adef_intro T0 .stay [] Tryz.func108 rfl (by kernel_rfl) (by kernel_rfl) (by simp [Tryz.ntmps108]) ?_
  show xCode E Tryz.f108.ntmps tab [] _ (.done _) _ σ []
  (simp only [gk, gi, sG0, sL0, w1, (vm1), (vm2), (vm3), (vm4), aDet, ev, tget, tput, ofC, ofC1, pureR, condR, abin, aun, alen, gslot, Nat.reduceEqDiff, reduceIte, argTs, asliceS, asliceL, bnd, boolV, intV, retQ, aRes, aResV, oneAV, AV.low, AV.low.lows, Nat.reduceAdd, isStringD, isSliceD, isBoolD, setRange, AV.cells, AV.isCell, AV.isAgg, abytes, aconv, aeq, isConst, isByteD, isIfaceD, endQ, Int.reduceToNat, Int.reduceLE, Int.reduceLT, Int.reduceEq, Int.reduceNe, Int.reduceAdd, Int.reduceSub, Int.reduceNeg, Nat.reduceLT, Nat.reduceLeDiff, Ent.ver, Ent.imm, Ent.ty, lits, isEl, newCells, aappend, Nat.reduceBEq, fill, undef, (st1), (st2), (st3), (st4), (st5), (st6), (st7), (st8)]; try simp (disch := omega) only [wrapI64, Int.toNat_natCast, ← Int.natCast_add, nat_add_one, nat_add_two, take_drop_all, List.drop_zero, Nat.sub_zero, Nat.add_sub_cancel_left])

/-- The store in the middle: the counter, and what the call laid. -/
theorem get_mid {σ : List Ent} {id : Nat} (h : id < σ.length) (e : Ent) (l : List Ent) : (σ.set id e ++ l)[id]? = some e := by
  rw [List.getElem?_append_left (by simpa using h)]; simp [h]

theorem down_ok' (σ l : List Ent) (id n d : Nat) (hlt : id < σ.length) (hid : σ[id]? = some (cntE n d)) (hn : n ≤ 2000) (hd : d ≤ 200) :
    ACalls E 92 [.ref id 0 0] (σ ++ l) fun r τ => r = boolV (decide (n + 1 ≤ 2000) && decide (d + 1 ≤ 200)) ∧ τ = σ.set id (cntE (n + 1 : Nat) (d + 1 : Nat)) ++ l := by
  refine (down_ok _ id n d (by rw [List.getElem?_append_left hlt]; exact hid) (by omega) (by omega)).mono fun r τ ⟨q1, q2⟩ => ⟨?_, ?_⟩
  · rw [q1]
    have e1 : decide ((n : Int) + 1 ≤ 2000) = decide (n + 1 ≤ 2000) := by
      have : ((n : Int) + 1 ≤ 2000) = (n + 1 ≤ 2000) := propext ⟨fun h => by omega, fun h => by omega⟩
      simp only [this]
    have e2 : decide ((d : Int) + 1 ≤ 200) = decide (d + 1 ≤ 200) := by
      have : ((d : Int) + 1 ≤ 200) = (d + 1 ≤ 200) := propext ⟨fun h => by omega, fun h => by omega⟩
      simp only [this]
    rw [e1, e2]
  · rw [q2, List.set_append_left _ _ hlt]; rfl

theorem wellTs_app : ∀ (a b : List Tr), wellTs (a ++ b) = (wellTs a && wellTs b)
  | [], b => by simp only [List.nil_append, wellTs, Bool.true_and]
  | t :: a, b => by simp only [List.cons_append, wellTs, wellTs_app a b, Bool.and_assoc]
theorem sizeTs_app : ∀ (a b : List Tr), sizeTs (a ++ b) = sizeTs a + sizeTs b
  | [], b => by simp only [List.nil_append, sizeTs, Nat.zero_add]
  | t :: a, b => by simp only [List.cons_append, sizeTs, sizeTs_app a b]; omega
theorem deepTs_app : ∀ (a b : List Tr), deepTs (a ++ b) = max (deepTs a) (deepTs b)
  | [], b => by simp only [List.nil_append, deepTs, Nat.zero_max]
  | t :: a, b => by simp only [List.cons_append, deepTs, deepTs_app a b]; omega
theorem lenTs_mem : ∀ {us : List Tr}, lenTs us → ∀ {u : Tr}, u ∈ us → lenT u
  | t :: us, h, u, hu => by
    simp only [lenTs] at h
    rcases List.mem_cons.1 hu with rfl | hu
    · exact h.1
    · exact lenTs_mem h.2 hu
theorem good_split (us : List Tr) (i : Nat) (u : Tr) (hu : us[i]? = some u) : us.take (i + 1) = us.take i ++ [u] ∧ us = us.take i ++ u :: us.drop (i + 1) := by
  obtain ⟨hi, rfl⟩ := List.getElem?_eq_some_iff.1 hu
  exact ⟨by rw [List.take_add_one, hu]; rfl, by rw [← List.drop_eq_getElem_cons hi, List.take_append_drop]⟩
theorem set_app_set (σ L : List Ent) (id : Nat) (h : id < σ.length) (x y : Ent) : (σ.set id x ++ L).set id y = σ.set id y ++ L := by
  rw [List.set_append_left _ _ (by simpa using h), List.set_set]

theorem btf : (true = false) = False := by simp
abbrev VTQ (σ : List Ent) (id n d : Nat) (t : Tr) (r : AV) (τ : List Ent) : Prop :=
  (r = boolV true ∧ goodT n d t ∧ τ = σ.set id (cntE (n + sizeT t : Nat) d)) ∨ (r = boolV false ∧ ¬ goodT n d t ∧ ∃ n' d' : Nat, n' ≤ 2001 ∧ d ≤ d' ∧ d' ≤ 201 ∧ τ = σ.set id (cntE n' d'))

set_option maxHeartbeats 4000000 in
theorem validTy_rest {c0 c1 c2 c : Code} (hc : Tryz.f85.body = some (.seq c0 (.seq c1 (.seq c2 c)))) (dd nn : List UInt8) (us : List Tr) (ih : ∀ u ∈ us, VT u)
    (σ G : List Ent) (id n d : Nat) (hlt : id < σ.length) (hG : σ.set id (cntE (n + 1 : Nat) (d + 1 : Nat)) = G) (hl : lenT (.mk dd nn us)) (hw : wellT (.mk dd nn us) = wellTs us) (hn : n + 1 ≤ 2000) (hd : d + 1 ≤ 200)
    (e2 : Ent) (ts : Ts) (h2 : tget ts 2 = .ref G.length 0 0) (h3 : tget ts 3 = .ref (G.length + 1) 0 0) :
    dCode E Tryz.f85.ntmps tab [] c (dRet E tab .drop [.tmp 4] σ (VTQ σ id n d (.mk dd nn us))) [] ts G [.arr 45 [.str dd, .str nn, .sl (tysV us)] 0 0, .arr 86 [.ref id 0 0] 0 0, e2] := by
  injection hc with hc
  injection hc with _ hc
  injection hc with _ hc
  injection hc with _ hc
  subst hc
  refine d_seq (by kernel_rfl) ?_
  refine d_region (by kernel_rfl) ?_
  (simp only [dOps, h2, h3, (vm1), (vm2), (vm3), (vm4), aDet, ev, tget, tput, ofC, ofC1, pureR, condR, abin, aun, alen, gslot, Nat.reduceEqDiff, reduceIte, argTs, asliceS, asliceL, bnd, boolV, intV, retQ, aRes, aResV, oneAV, AV.low, AV.low.lows, Nat.reduceAdd, isStringD, isSliceD, isBoolD, setRange, AV.cells, AV.isCell, AV.isAgg, abytes, aconv, aeq, isConst, isByteD, isIfaceD, endQ, Int.reduceToNat, Int.reduceLE, Int.reduceLT, Int.reduceEq, Int.reduceNe, Int.reduceAdd, Int.reduceSub, Int.reduceNeg, Nat.reduceLT, Nat.reduceLeDiff, Ent.ver, Ent.imm, Ent.ty, lits, isEl, newCells, aappend, Nat.reduceBEq, fill, undef, (st1), (st2), (st3), (st4), (st5), (st6), (st7), (st8)]; try simp (disch := omega) only [wrapI64, Int.toNat_natCast, ← Int.natCast_add, nat_add_one, nat_add_two, take_drop_all, List.drop_zero, Nat.sub_zero, Nat.add_sub_cancel_left])
  rw [aOne_det _ _ _ _ _ _ _ _ rfl]
  (simp only [outK, h2, h3, (vm1), (vm2), (vm3), (vm4), aDet, ev, tget, tput, ofC, ofC1, pureR, condR, abin, aun, alen, gslot, Nat.reduceEqDiff, reduceIte, argTs, asliceS, asliceL, bnd, boolV, intV, retQ, aRes, aResV, oneAV, AV.low, AV.low.lows, Nat.reduceAdd, isStringD, isSliceD, isBoolD, setRange, AV.cells, AV.isCell, AV.isAgg, abytes, aconv, aeq, isConst, isByteD, isIfaceD, endQ, Int.reduceToNat, Int.reduceLE, Int.reduceLT, Int.reduceEq, Int.reduceNe, Int.reduceAdd, Int.reduceSub, Int.reduceNeg, Nat.reduceLT, Nat.reduceLeDiff, Ent.ver, Ent.imm, Ent.ty, lits, isEl, newCells, aappend, Nat.reduceBEq, fill, undef, (st1), (st2), (st3), (st4), (st5), (st6), (st7), (st8)]; try simp (disch := omega) only [wrapI64, Int.toNat_natCast, ← Int.natCast_add, nat_add_one, nat_add_two, take_drop_all, List.drop_zero, Nat.sub_zero, Nat.add_sub_cancel_left])
  rw [dSeq_n]
  refine d_plain (by kernel_rfl) ?_
  (simp only [h2, h3, (vm1), (vm2), (vm3), (vm4), aDet, ev, tget, tput, ofC, ofC1, pureR, condR, abin, aun, alen, gslot, Nat.reduceEqDiff, reduceIte, argTs, asliceS, asliceL, bnd, boolV, intV, retQ, aRes, aResV, oneAV, AV.low, AV.low.lows, Nat.reduceAdd, isStringD, isSliceD, isBoolD, setRange, AV.cells, AV.isCell, AV.isAgg, abytes, aconv, aeq, isConst, isByteD, isIfaceD, endQ, Int.reduceToNat, Int.reduceLE, Int.reduceLT, Int.reduceEq, Int.reduceNe, Int.reduceAdd, Int.reduceSub, Int.reduceNeg, Nat.reduceLT, Nat.reduceLeDiff, Ent.ver, Ent.imm, Ent.ty, lits, isEl, newCells, aappend, Nat.reduceBEq, fill, undef, (st1), (st2), (st3), (st4), (st5), (st6), (st7), (st8)]; try simp (disch := omega) only [wrapI64, Int.toNat_natCast, ← Int.natCast_add, nat_add_one, nat_add_two, take_drop_all, List.drop_zero, Nat.sub_zero, Nat.add_sub_cancel_left])
  have hGl : G.length = σ.length := by rw [← hG]; simp
  simp only [hGl]
  obtain ⟨hl1, hl2, hl3⟩ := by simpa only [lenT] using hl
  have tlen : (tysV us).length = us.length := by rw [tysV_map, List.length_map]
  have hsz : sizeT (.mk dd nn us) = 1 + sizeTs us := by simp only [sizeT]
  have hdp : deepT (.mk dd nn us) = 1 + deepTs us := by simp only [deepT]
  have hgood : goodT n d (.mk dd nn us) ↔ wellTs us = true ∧ n + 1 + sizeTs us ≤ 2000 ∧ d + 1 + deepTs us ≤ 200 := by
    unfold goodT; rw [hw, hsz, hdp]
    constructor <;> rintro ⟨q1, q2, q3⟩ <;> exact ⟨q1, by omega, by omega⟩
  generalize hL : [Ent.arr 45 [.str dd, .str nn, .sl (tysV us)] 0 0, .arr 86 [.ref id 0 0] 0 0, e2] = L
  have hc1 : ∀ x, (σ.set id x ++ L)[σ.length + 1]? = some (.arr 86 [.ref id 0 0] 0 0) := fun x => by
    rw [List.getElem?_append_right (by simp), ← hL]; simp
  have key := conTy_ok 109 [.ref (σ.length + 1) 0 0] (tysV us) (by rw [tlen]; exact hl2) (fun e he => by rw [tysV_map] at he; obtain ⟨t, _, rfl⟩ := List.mem_map.1 he; exact tyV_el t)
    (fun i => σ.set id (cntE (n + 1 + sizeTs (us.take i) : Nat) (d + 1 : Nat)) ++ L) (fun i => wellTs (us.take i) = true ∧ n + 1 + sizeTs (us.take i) ≤ 2000 ∧ d + 1 + deepTs (us.take i) ≤ 200)
    (fun i τ => ¬ (wellTs us = true ∧ n + 1 + sizeTs us ≤ 2000 ∧ d + 1 + deepTs us ≤ 200) ∧ ∃ n' d' : Nat, n' ≤ 2001 ∧ d + 1 ≤ d' ∧ d' ≤ 201 ∧ τ = σ.set id (cntE n' d') ++ L)
    (fun i j => by simp) (by simp only [List.take_zero, wellTs, sizeTs, deepTs]; exact ⟨trivial, by omega, by omega⟩)
    (fun i hi hI => by
      rw [tlen] at hi
      have hu : us[i]? = some us[i] := List.getElem?_eq_getElem hi
      obtain ⟨s1, s2⟩ := good_split us i _ hu
      have hmem : us[i] ∈ us := List.getElem_mem hi
      generalize us[i] = u at *
      have hge : (tysV us).getD i .un = tyV u := by rw [tysV_map]; simp [List.getD, hu]
      rw [hge]
      obtain ⟨i1, i2, i3⟩ := hI
      refine (validTy2_ok u (ih u hmem) _ id (σ.length + 1) (n + 1 + sizeTs (us.take i)) (d + 1) i2 hd (get_mid hlt _ _) (hc1 _) (lenTs_mem hl3 hmem)).mono fun r τ hh => ?_
      rcases hh with ⟨rfl, hg, rfl⟩ | ⟨rfl, hg, n', d', q1, q2, q3, rfl⟩
      · refine .inl ⟨rfl, ?_, ?_⟩
        · rw [s1, wellTs_app, sizeTs_app, deepTs_app]
          simp only [wellTs, sizeTs, deepTs, Bool.and_true, Nat.add_zero, Nat.max_zero]
          obtain ⟨g1, g2, g3⟩ := hg
          exact ⟨by rw [i1, g1]; rfl, by omega, by omega⟩
        · rw [set_app_set _ _ _ hlt, s1, sizeTs_app]
          simp only [sizeTs, Nat.add_zero, Nat.add_assoc]
      · refine .inr ⟨rfl, fun hgg => hg ?_, n', d', q1, q2, q3, set_app_set _ _ _ hlt _ _⟩
        rw [s2, wellTs_app, sizeTs_app, deepTs_app] at hgg
        simp only [wellTs, sizeTs, deepTs, Bool.and_eq_true] at hgg
        exact ⟨hgg.1.2.1, by omega, by omega⟩)
  simp only [List.take_zero, sizeTs, Nat.add_zero, hG] at key
  refine xWait.of key ?_
  rintro r τ (⟨rfl, hI, rfl⟩ | ⟨rfl, i, hi, hI, hB, n', d', q1, q2, q3, rfl⟩)
  · rw [tlen, List.take_of_length_le (Nat.le_refl _)] at hI ⊢
    (simp only [take_set, drop_set, (vm1), (vm2), (vm3), (vm4), aDet, ev, tget, tput, ofC, ofC1, pureR, condR, abin, aun, alen, gslot, Nat.reduceEqDiff, reduceIte, argTs, asliceS, asliceL, bnd, boolV, intV, retQ, aRes, aResV, oneAV, AV.low, AV.low.lows, Nat.reduceAdd, isStringD, isSliceD, isBoolD, setRange, AV.cells, AV.isCell, AV.isAgg, abytes, aconv, aeq, isConst, isByteD, isIfaceD, endQ, Int.reduceToNat, Int.reduceLE, Int.reduceLT, Int.reduceEq, Int.reduceNe, Int.reduceAdd, Int.reduceSub, Int.reduceNeg, Nat.reduceLT, Nat.reduceLeDiff, Ent.ver, Ent.imm, Ent.ty, lits, isEl, newCells, aappend, Nat.reduceBEq, fill, undef, (st1), (st2), (st3), (st4), (st5), (st6), (st7), (st8)]; try simp (disch := omega) only [wrapI64, Int.toNat_natCast, ← Int.natCast_add, nat_add_one, nat_add_two, take_drop_all, List.drop_zero, Nat.sub_zero, Nat.add_sub_cancel_left])
    (simp only [dRet, (vm1), (vm2), (vm3), (vm4), aDet, ev, tget, tput, ofC, ofC1, pureR, condR, abin, aun, alen, gslot, Nat.reduceEqDiff, reduceIte, argTs, asliceS, asliceL, bnd, boolV, intV, retQ, aRes, aResV, oneAV, AV.low, AV.low.lows, Nat.reduceAdd, isStringD, isSliceD, isBoolD, setRange, AV.cells, AV.isCell, AV.isAgg, abytes, aconv, aeq, isConst, isByteD, isIfaceD, endQ, Int.reduceToNat, Int.reduceLE, Int.reduceLT, Int.reduceEq, Int.reduceNe, Int.reduceAdd, Int.reduceSub, Int.reduceNeg, Nat.reduceLT, Nat.reduceLeDiff, Ent.ver, Ent.imm, Ent.ty, lits, isEl, newCells, aappend, Nat.reduceBEq, fill, undef, (st1), (st2), (st3), (st4), (st5), (st6), (st7), (st8)]; try simp (disch := omega) only [wrapI64, Int.toNat_natCast, ← Int.natCast_add, nat_add_one, nat_add_two, take_drop_all, List.drop_zero, Nat.sub_zero, Nat.add_sub_cancel_left])
    refine ⟨.inr trivial, (validTy1_ok _ id (σ.length + 1) (n + 1 + sizeTs us) (d + 1) (by omega) (get_mid hlt _ _) (hc1 _)).mono fun r τ hτ => ?_⟩
    rw [hτ, set_app_set _ _ _ hlt, List.length_set, take_set]
    refine ⟨storeLow_set rfl, .inl ⟨rfl, hgood.2 hI, ?_⟩⟩
    rw [hsz, Nat.add_sub_cancel, Nat.add_assoc]
  · (simp only [take_set, drop_set, (vm1), (vm2), (vm3), (vm4), aDet, ev, tget, tput, ofC, ofC1, pureR, condR, abin, aun, alen, gslot, Nat.reduceEqDiff, reduceIte, argTs, asliceS, asliceL, bnd, boolV, intV, retQ, aRes, aResV, oneAV, AV.low, AV.low.lows, Nat.reduceAdd, isStringD, isSliceD, isBoolD, setRange, AV.cells, AV.isCell, AV.isAgg, abytes, aconv, aeq, isConst, isByteD, isIfaceD, endQ, Int.reduceToNat, Int.reduceLE, Int.reduceLT, Int.reduceEq, Int.reduceNe, Int.reduceAdd, Int.reduceSub, Int.reduceNeg, Nat.reduceLT, Nat.reduceLeDiff, Ent.ver, Ent.imm, Ent.ty, lits, isEl, newCells, aappend, Nat.reduceBEq, fill, undef, (st1), (st2), (st3), (st4), (st5), (st6), (st7), (st8)]; try simp (disch := omega) only [wrapI64, Int.toNat_natCast, ← Int.natCast_add, nat_add_one, nat_add_two, take_drop_all, List.drop_zero, Nat.sub_zero, Nat.add_sub_cancel_left])
    (simp only [dRet, (vm1), (vm2), (vm3), (vm4), aDet, ev, tget, tput, ofC, ofC1, pureR, condR, abin, aun, alen, gslot, Nat.reduceEqDiff, reduceIte, argTs, asliceS, asliceL, bnd, boolV, intV, retQ, aRes, aResV, oneAV, AV.low, AV.low.lows, Nat.reduceAdd, isStringD, isSliceD, isBoolD, setRange, AV.cells, AV.isCell, AV.isAgg, abytes, aconv, aeq, isConst, isByteD, isIfaceD, endQ, Int.reduceToNat, Int.reduceLE, Int.reduceLT, Int.reduceEq, Int.reduceNe, Int.reduceAdd, Int.reduceSub, Int.reduceNeg, Nat.reduceLT, Nat.reduceLeDiff, Ent.ver, Ent.imm, Ent.ty, lits, isEl, newCells, aappend, Nat.reduceBEq, fill, undef, (st1), (st2), (st3), (st4), (st5), (st6), (st7), (st8)]; try simp (disch := omega) only [wrapI64, Int.toNat_natCast, ← Int.natCast_add, nat_add_one, nat_add_two, take_drop_all, List.drop_zero, Nat.sub_zero, Nat.add_sub_cancel_left])
    refine ⟨.inr trivial, (validTy1_ok _ id (σ.length + 1) n' d' (by omega) (get_mid hlt _ _) (hc1 _)).mono fun r τ hτ => ?_⟩
    rw [hτ, set_app_set _ _ _ hlt, List.length_set, take_set]
    exact ⟨storeLow_set rfl, .inr ⟨rfl, fun h => hB (hgood.1 h), n', d' - 1, q1, by omega, by omega, rfl⟩⟩

set_option maxHeartbeats 4000000 in
theorem validTy_step (dd nn : List UInt8) (us : List Tr) (ih : ∀ u ∈ us, VT u) : VT (.mk dd nn us) := by
  intro σ id n d hn hd hid hl
  have hlt := lt_of_get hid
  refine xacallsD T0 .drop [] Tryz.func85 rfl (by kernel_rfl) (by kernel_rfl) (by simp [Tryz.ntmps85]) ?_
  simp only [tyV]
  refine d_seq (by kernel_rfl) ?_
  refine d_plain (by kernel_rfl) ?_
  (simp only [(vm1), (vm2), (vm3), (vm4), aDet, ev, tget, tput, ofC, ofC1, pureR, condR, abin, aun, alen, gslot, Nat.reduceEqDiff, reduceIte, argTs, asliceS, asliceL, bnd, boolV, intV, retQ, aRes, aResV, oneAV, AV.low, AV.low.lows, Nat.reduceAdd, isStringD, isSliceD, isBoolD, setRange, AV.cells, AV.isCell, AV.isAgg, abytes, aconv, aeq, isConst, isByteD, isIfaceD, endQ, Int.reduceToNat, Int.reduceLE, Int.reduceLT, Int.reduceEq, Int.reduceNe, Int.reduceAdd, Int.reduceSub, Int.reduceNeg, Nat.reduceLT, Nat.reduceLeDiff, Ent.ver, Ent.imm, Ent.ty, lits, isEl, newCells, aappend, Nat.reduceBEq, fill, undef, (st1), (st2), (st3), (st4), (st5), (st6), (st7), (st8)]; try simp (disch := omega) only [wrapI64, Int.toNat_natCast, ← Int.natCast_add, nat_add_one, nat_add_two, take_drop_all, List.drop_zero, Nat.sub_zero, Nat.add_sub_cancel_left])
  rw [dSeq_n]
  refine d_seq (by kernel_rfl) ?_
  refine d_plain (by kernel_rfl) ?_
  (simp only [(vm1), (vm2), (vm3), (vm4), aDet, ev, tget, tput, ofC, ofC1, pureR, condR, abin, aun, alen, gslot, Nat.reduceEqDiff, reduceIte, argTs, asliceS, asliceL, bnd, boolV, intV, retQ, aRes, aResV, oneAV, AV.low, AV.low.lows, Nat.reduceAdd, isStringD, isSliceD, isBoolD, setRange, AV.cells, AV.isCell, AV.isAgg, abytes, aconv, aeq, isConst, isByteD, isIfaceD, endQ, Int.reduceToNat, Int.reduceLE, Int.reduceLT, Int.reduceEq, Int.reduceNe, Int.reduceAdd, Int.reduceSub, Int.reduceNeg, Nat.reduceLT, Nat.reduceLeDiff, Ent.ver, Ent.imm, Ent.ty, lits, isEl, newCells, aappend, Nat.reduceBEq, fill, undef, (st1), (st2), (st3), (st4), (st5), (st6), (st7), (st8)]; try simp (disch := omega) only [wrapI64, Int.toNat_natCast, ← Int.natCast_add, nat_add_one, nat_add_two, take_drop_all, List.drop_zero, Nat.sub_zero, Nat.add_sub_cancel_left])
  refine xWait.go (shapeOf_ok dd _) ?_
  (simp only [(vm1), (vm2), (vm3), (vm4), aDet, ev, tget, tput, ofC, ofC1, pureR, condR, abin, aun, alen, gslot, Nat.reduceEqDiff, reduceIte, argTs, asliceS, asliceL, bnd, boolV, intV, retQ, aRes, aResV, oneAV, AV.low, AV.low.lows, Nat.reduceAdd, isStringD, isSliceD, isBoolD, setRange, AV.cells, AV.isCell, AV.isAgg, abytes, aconv, aeq, isConst, isByteD, isIfaceD, endQ, Int.reduceToNat, Int.reduceLE, Int.reduceLT, Int.reduceEq, Int.reduceNe, Int.reduceAdd, Int.reduceSub, Int.reduceNeg, Nat.reduceLT, Nat.reduceLeDiff, Ent.ver, Ent.imm, Ent.ty, lits, isEl, newCells, aappend, Nat.reduceBEq, fill, undef, (st1), (st2), (st3), (st4), (st5), (st6), (st7), (st8)]; try simp (disch := omega) only [wrapI64, Int.toNat_natCast, ← Int.natCast_add, nat_add_one, nat_add_two, take_drop_all, List.drop_zero, Nat.sub_zero, Nat.add_sub_cancel_left])
  rw [dSeq_n]
  refine d_seq (by kernel_rfl) ?_
  refine d_plain (by kernel_rfl) ?_
  (simp only [(vm1), (vm2), (vm3), (vm4), aDet, ev, tget, tput, ofC, ofC1, pureR, condR, abin, aun, alen, gslot, Nat.reduceEqDiff, reduceIte, argTs, asliceS, asliceL, bnd, boolV, intV, retQ, aRes, aResV, oneAV, AV.low, AV.low.lows, Nat.reduceAdd, isStringD, isSliceD, isBoolD, setRange, AV.cells, AV.isCell, AV.isAgg, abytes, aconv, aeq, isConst, isByteD, isIfaceD, endQ, Int.reduceToNat, Int.reduceLE, Int.reduceLT, Int.reduceEq, Int.reduceNe, Int.reduceAdd, Int.reduceSub, Int.reduceNeg, Nat.reduceLT, Nat.reduceLeDiff, Ent.ver, Ent.imm, Ent.ty, lits, isEl, newCells, aappend, Nat.reduceBEq, fill, undef, (st1), (st2), (st3), (st4), (st5), (st6), (st7), (st8)]; try simp (disch := omega) only [wrapI64, Int.toNat_natCast, ← Int.natCast_add, nat_add_one, nat_add_two, take_drop_all, List.drop_zero, Nat.sub_zero, Nat.add_sub_cancel_left])
  refine ydraw T0 [4] (by kernel_rfl) (by kernel_rfl) (by kernel_rfl) (by kernel_rfl) ?_
  have hwell : wellT (.mk dd nn us) = ((shapeB dd).2.2 && (decide (us.length = (shapeB dd).2.1) && ((decide (dd = kiData) == conB nn) && ((decide (dd = kiData) || decide (nn = [])) && wellTs us)))) := by simp only [wellT]
  rcases hS : shapeB dd with ⟨pl, ar, ok⟩
  simp only [hS] at hwell ⊢
  cases ok
  · have hbad : ¬ goodT n d (.mk dd nn us) := fun h => by rw [goodT, hwell] at h; simp at h
    (simp only [(vm1), (vm2), (vm3), (vm4), aDet, ev, tget, tput, ofC, ofC1, pureR, condR, abin, aun, alen, gslot, Nat.reduceEqDiff, reduceIte, argTs, asliceS, asliceL, bnd, boolV, intV, retQ, aRes, aResV, oneAV, AV.low, AV.low.lows, Nat.reduceAdd, isStringD, isSliceD, isBoolD, setRange, AV.cells, AV.isCell, AV.isAgg, abytes, aconv, aeq, isConst, isByteD, isIfaceD, endQ, Int.reduceToNat, Int.reduceLE, Int.reduceLT, Int.reduceEq, Int.reduceNe, Int.reduceAdd, Int.reduceSub, Int.reduceNeg, Nat.reduceLT, Nat.reduceLeDiff, Ent.ver, Ent.imm, Ent.ty, lits, isEl, newCells, aappend, Nat.reduceBEq, fill, undef, (st1), (st2), (st3), (st4), (st5), (st6), (st7), (st8)]; try simp (disch := omega) only [wrapI64, Int.toNat_natCast, ← Int.natCast_add, nat_add_one, nat_add_two, take_drop_all, List.drop_zero, Nat.sub_zero, Nat.add_sub_cancel_left])
    (simp only [dSeq_r, dRet, (vm1), (vm2), (vm3), (vm4), aDet, ev, tget, tput, ofC, ofC1, pureR, condR, abin, aun, alen, gslot, Nat.reduceEqDiff, reduceIte, argTs, asliceS, asliceL, bnd, boolV, intV, retQ, aRes, aResV, oneAV, AV.low, AV.low.lows, Nat.reduceAdd, isStringD, isSliceD, isBoolD, setRange, AV.cells, AV.isCell, AV.isAgg, abytes, aconv, aeq, isConst, isByteD, isIfaceD, endQ, Int.reduceToNat, Int.reduceLE, Int.reduceLT, Int.reduceEq, Int.reduceNe, Int.reduceAdd, Int.reduceSub, Int.reduceNeg, Nat.reduceLT, Nat.reduceLeDiff, Ent.ver, Ent.imm, Ent.ty, lits, isEl, newCells, aappend, Nat.reduceBEq, fill, undef, (st1), (st2), (st3), (st4), (st5), (st6), (st7), (st8)]; try simp (disch := omega) only [wrapI64, Int.toNat_natCast, ← Int.natCast_add, nat_add_one, nat_add_two, take_drop_all, List.drop_zero, Nat.sub_zero, Nat.add_sub_cancel_left])
    exact .inr ⟨hbad, n, d, by omega, by omega, by omega, (list_set_self hid).symm⟩
  have hgi : ∀ r, sget σ r id = some (cntE n d) := fun r => by unfold sget; rw [if_pos hlt, hid]
  (simp only [(vm1), (vm2), (vm3), (vm4), aDet, ev, tget, tput, ofC, ofC1, pureR, condR, abin, aun, alen, gslot, Nat.reduceEqDiff, reduceIte, argTs, asliceS, asliceL, bnd, boolV, intV, retQ, aRes, aResV, oneAV, AV.low, AV.low.lows, Nat.reduceAdd, isStringD, isSliceD, isBoolD, setRange, AV.cells, AV.isCell, AV.isAgg, abytes, aconv, aeq, isConst, isByteD, isIfaceD, endQ, Int.reduceToNat, Int.reduceLE, Int.reduceLT, Int.reduceEq, Int.reduceNe, Int.reduceAdd, Int.reduceSub, Int.reduceNeg, Nat.reduceLT, Nat.reduceLeDiff, Ent.ver, Ent.imm, Ent.ty, lits, isEl, newCells, aappend, Nat.reduceBEq, fill, undef, (st1), (st2), (st3), (st4), (st5), (st6), (st7), (st8)]; try simp (disch := omega) only [wrapI64, Int.toNat_natCast, ← Int.natCast_add, nat_add_one, nat_add_two, take_drop_all, List.drop_zero, Nat.sub_zero, Nat.add_sub_cancel_left])
  refine yNext.bar (by rfl) [.ref id 0 0] rfl (down_ok' σ _ id n d hlt hid hn hd) (by simp) ?_
  have hGl : σ.length = (σ.set id (cntE (n + 1 : Nat) (d + 1 : Nat))).length := by simp
  have hlow : StoreLow σ.length σ (σ.set id (cntE (n + 1 : Nat) (d + 1 : Nat))) := storeLow_set rfl
  generalize hG : σ.set id (cntE (n + 1 : Nat) (d + 1 : Nat)) = G at *
  have hsz : sizeT (.mk dd nn us) = 1 + sizeTs us := by simp only [sizeT]
  have hdp : deepT (.mk dd nn us) = 1 + deepTs us := by simp only [deepT]
  have hGs : ∃ n' d' : Nat, n' ≤ 2001 ∧ d ≤ d' ∧ d' ≤ 201 ∧ G = σ.set id (cntE n' d') := ⟨n + 1, d + 1, by omega, by omega, by omega, hG.symm⟩
  have hgood : goodT n d (.mk dd nn us) → n + 1 ≤ 2000 ∧ d + 1 ≤ 200 ∧ us.length = ar ∧ (decide (dd = kiData) == conB nn) = true ∧ (dd = kiData ∨ nn = []) := fun h => by
    obtain ⟨q1, q2, q3⟩ := h
    rw [hwell] at q1
    simp only [Bool.true_and, Bool.and_eq_true, Bool.or_eq_true, decide_eq_true_eq] at q1
    exact ⟨by omega, by omega, q1.1, q1.2.1, q1.2.2.1⟩
  rw [hGl]
  cases hb : (decide (n + 1 ≤ 2000) && decide (d + 1 ≤ 200))
  · have hbad : ¬ goodT n d (.mk dd nn us) := fun h => by
      have := hgood h
      rw [← Bool.not_eq_true] at hb
      simp only [Bool.and_eq_true, decide_eq_true_eq] at hb
      omega
    (simp only [(vm1), (vm2), (vm3), (vm4), aDet, ev, tget, tput, ofC, ofC1, pureR, condR, abin, aun, alen, gslot, Nat.reduceEqDiff, reduceIte, argTs, asliceS, asliceL, bnd, boolV, intV, retQ, aRes, aResV, oneAV, AV.low, AV.low.lows, Nat.reduceAdd, isStringD, isSliceD, isBoolD, setRange, AV.cells, AV.isCell, AV.isAgg, abytes, aconv, aeq, isConst, isByteD, isIfaceD, endQ, Int.reduceToNat, Int.reduceLE, Int.reduceLT, Int.reduceEq, Int.reduceNe, Int.reduceAdd, Int.reduceSub, Int.reduceNeg, Nat.reduceLT, Nat.reduceLeDiff, Ent.ver, Ent.imm, Ent.ty, lits, isEl, newCells, aappend, Nat.reduceBEq, fill, undef, (st1), (st2), (st3), (st4), (st5), (st6), (st7), (st8)]; try simp (disch := omega) only [wrapI64, Int.toNat_natCast, ← Int.natCast_add, nat_add_one, nat_add_two, take_drop_all, List.drop_zero, Nat.sub_zero, Nat.add_sub_cancel_left])
    (simp only [dSeq_r, dRet, (vm1), (vm2), (vm3), (vm4), aDet, ev, tget, tput, ofC, ofC1, pureR, condR, abin, aun, alen, gslot, Nat.reduceEqDiff, reduceIte, argTs, asliceS, asliceL, bnd, boolV, intV, retQ, aRes, aResV, oneAV, AV.low, AV.low.lows, Nat.reduceAdd, isStringD, isSliceD, isBoolD, setRange, AV.cells, AV.isCell, AV.isAgg, abytes, aconv, aeq, isConst, isByteD, isIfaceD, endQ, Int.reduceToNat, Int.reduceLE, Int.reduceLT, Int.reduceEq, Int.reduceNe, Int.reduceAdd, Int.reduceSub, Int.reduceNeg, Nat.reduceLT, Nat.reduceLeDiff, Ent.ver, Ent.imm, Ent.ty, lits, isEl, newCells, aappend, Nat.reduceBEq, fill, undef, (st1), (st2), (st3), (st4), (st5), (st6), (st7), (st8)]; try simp (disch := omega) only [wrapI64, Int.toNat_natCast, ← Int.natCast_add, nat_add_one, nat_add_two, take_drop_all, List.drop_zero, Nat.sub_zero, Nat.add_sub_cancel_left])
    exact ⟨hlow, .inr ⟨hbad, hGs⟩⟩
  simp only [Bool.and_eq_true, decide_eq_true_eq] at hb
  have tlen : ∀ l : List Tr, (tysV l).length = l.length := fun l => by rw [tysV_map, List.length_map]
  by_cases hln : (us.length : Int) = ar
  rotate_left
  · have hbad : ¬ goodT n d (.mk dd nn us) := fun h => hln (by have := (hgood h).2.2.1; omega)
    (simp only [tlen, hln, (vm1), (vm2), (vm3), (vm4), aDet, ev, tget, tput, ofC, ofC1, pureR, condR, abin, aun, alen, gslot, Nat.reduceEqDiff, reduceIte, argTs, asliceS, asliceL, bnd, boolV, intV, retQ, aRes, aResV, oneAV, AV.low, AV.low.lows, Nat.reduceAdd, isStringD, isSliceD, isBoolD, setRange, AV.cells, AV.isCell, AV.isAgg, abytes, aconv, aeq, isConst, isByteD, isIfaceD, endQ, Int.reduceToNat, Int.reduceLE, Int.reduceLT, Int.reduceEq, Int.reduceNe, Int.reduceAdd, Int.reduceSub, Int.reduceNeg, Nat.reduceLT, Nat.reduceLeDiff, Ent.ver, Ent.imm, Ent.ty, lits, isEl, newCells, aappend, Nat.reduceBEq, fill, undef, (st1), (st2), (st3), (st4), (st5), (st6), (st7), (st8)]; try simp (disch := omega) only [wrapI64, Int.toNat_natCast, ← Int.natCast_add, nat_add_one, nat_add_two, take_drop_all, List.drop_zero, Nat.sub_zero, Nat.add_sub_cancel_left])
    (simp only [dSeq_r, dRet, (vm1), (vm2), (vm3), (vm4), aDet, ev, tget, tput, ofC, ofC1, pureR, condR, abin, aun, alen, gslot, Nat.reduceEqDiff, reduceIte, argTs, asliceS, asliceL, bnd, boolV, intV, retQ, aRes, aResV, oneAV, AV.low, AV.low.lows, Nat.reduceAdd, isStringD, isSliceD, isBoolD, setRange, AV.cells, AV.isCell, AV.isAgg, abytes, aconv, aeq, isConst, isByteD, isIfaceD, endQ, Int.reduceToNat, Int.reduceLE, Int.reduceLT, Int.reduceEq, Int.reduceNe, Int.reduceAdd, Int.reduceSub, Int.reduceNeg, Nat.reduceLT, Nat.reduceLeDiff, Ent.ver, Ent.imm, Ent.ty, lits, isEl, newCells, aappend, Nat.reduceBEq, fill, undef, (st1), (st2), (st3), (st4), (st5), (st6), (st7), (st8)]; try simp (disch := omega) only [wrapI64, Int.toNat_natCast, ← Int.natCast_add, nat_add_one, nat_add_two, take_drop_all, List.drop_zero, Nat.sub_zero, Nat.add_sub_cancel_left])
    exact ⟨hlow, .inr ⟨hbad, hGs⟩⟩
  by_cases hdd : dd = kiData
  · have t1 : (dd = [100, 97, 116, 97]) = True := eq_true hdd
    (simp only [tlen, hln, t1, (vm1), (vm2), (vm3), (vm4), aDet, ev, tget, tput, ofC, ofC1, pureR, condR, abin, aun, alen, gslot, Nat.reduceEqDiff, reduceIte, argTs, asliceS, asliceL, bnd, boolV, intV, retQ, aRes, aResV, oneAV, AV.low, AV.low.lows, Nat.reduceAdd, isStringD, isSliceD, isBoolD, setRange, AV.cells, AV.isCell, AV.isAgg, abytes, aconv, aeq, isConst, isByteD, isIfaceD, endQ, Int.reduceToNat, Int.reduceLE, Int.reduceLT, Int.reduceEq, Int.reduceNe, Int.reduceAdd, Int.reduceSub, Int.reduceNeg, Nat.reduceLT, Nat.reduceLeDiff, Ent.ver, Ent.imm, Ent.ty, lits, isEl, newCells, aappend, Nat.reduceBEq, fill, undef, (st1), (st2), (st3), (st4), (st5), (st6), (st7), (st8)]; try simp (disch := omega) only [wrapI64, Int.toNat_natCast, ← Int.natCast_add, nat_add_one, nat_add_two, take_drop_all, List.drop_zero, Nat.sub_zero, Nat.add_sub_cancel_left])
    refine yNext.go (by rfl) _ rfl (IsCon_ok nn hl.1 _) ?_
    cases hcb : conB nn
    · have hbad : ¬ goodT n d (.mk dd nn us) := fun h => by
        have := (hgood h).2.2.2.1
        rw [hcb, decide_eq_true hdd] at this; cases this
      (simp only [t1, btf, (vm1), (vm2), (vm3), (vm4), aDet, ev, tget, tput, ofC, ofC1, pureR, condR, abin, aun, alen, gslot, Nat.reduceEqDiff, reduceIte, argTs, asliceS, asliceL, bnd, boolV, intV, retQ, aRes, aResV, oneAV, AV.low, AV.low.lows, Nat.reduceAdd, isStringD, isSliceD, isBoolD, setRange, AV.cells, AV.isCell, AV.isAgg, abytes, aconv, aeq, isConst, isByteD, isIfaceD, endQ, Int.reduceToNat, Int.reduceLE, Int.reduceLT, Int.reduceEq, Int.reduceNe, Int.reduceAdd, Int.reduceSub, Int.reduceNeg, Nat.reduceLT, Nat.reduceLeDiff, Ent.ver, Ent.imm, Ent.ty, lits, isEl, newCells, aappend, Nat.reduceBEq, fill, undef, (st1), (st2), (st3), (st4), (st5), (st6), (st7), (st8)]; try simp (disch := omega) only [wrapI64, Int.toNat_natCast, ← Int.natCast_add, nat_add_one, nat_add_two, take_drop_all, List.drop_zero, Nat.sub_zero, Nat.add_sub_cancel_left])
      (simp only [dSeq_r, dRet, (vm1), (vm2), (vm3), (vm4), aDet, ev, tget, tput, ofC, ofC1, pureR, condR, abin, aun, alen, gslot, Nat.reduceEqDiff, reduceIte, argTs, asliceS, asliceL, bnd, boolV, intV, retQ, aRes, aResV, oneAV, AV.low, AV.low.lows, Nat.reduceAdd, isStringD, isSliceD, isBoolD, setRange, AV.cells, AV.isCell, AV.isAgg, abytes, aconv, aeq, isConst, isByteD, isIfaceD, endQ, Int.reduceToNat, Int.reduceLE, Int.reduceLT, Int.reduceEq, Int.reduceNe, Int.reduceAdd, Int.reduceSub, Int.reduceNeg, Nat.reduceLT, Nat.reduceLeDiff, Ent.ver, Ent.imm, Ent.ty, lits, isEl, newCells, aappend, Nat.reduceBEq, fill, undef, (st1), (st2), (st3), (st4), (st5), (st6), (st7), (st8)]; try simp (disch := omega) only [wrapI64, Int.toNat_natCast, ← Int.natCast_add, nat_add_one, nat_add_two, take_drop_all, List.drop_zero, Nat.sub_zero, Nat.add_sub_cancel_left])
      exact ⟨hlow, .inr ⟨hbad, hGs⟩⟩
    · have hw : wellT (.mk dd nn us) = wellTs us := by
        rw [hwell, hcb, decide_eq_true hdd, decide_eq_true (by omega : us.length = ar)]; simp
      (simp only [t1, (vm1), (vm2), (vm3), (vm4), aDet, ev, tget, tput, ofC, ofC1, pureR, condR, abin, aun, alen, gslot, Nat.reduceEqDiff, reduceIte, argTs, asliceS, asliceL, bnd, boolV, intV, retQ, aRes, aResV, oneAV, AV.low, AV.low.lows, Nat.reduceAdd, isStringD, isSliceD, isBoolD, setRange, AV.cells, AV.isCell, AV.isAgg, abytes, aconv, aeq, isConst, isByteD, isIfaceD, endQ, Int.reduceToNat, Int.reduceLE, Int.reduceLT, Int.reduceEq, Int.reduceNe, Int.reduceAdd, Int.reduceSub, Int.reduceNeg, Nat.reduceLT, Nat.reduceLeDiff, Ent.ver, Ent.imm, Ent.ty, lits, isEl, newCells, aappend, Nat.reduceBEq, fill, undef, (st1), (st2), (st3), (st4), (st5), (st6), (st7), (st8)]; try simp (disch := omega) only [wrapI64, Int.toNat_natCast, ← Int.natCast_add, nat_add_one, nat_add_two, take_drop_all, List.drop_zero, Nat.sub_zero, Nat.add_sub_cancel_left])
      rw [dSeq_n]
      exact validTy_rest rfl dd nn us ih σ G id n d hlt hG hl hw hb.1 hb.2 _ _ (by (simp only [(vm1), (vm2), (vm3), (vm4), aDet, ev, tget, tput, ofC, ofC1, pureR, condR, abin, aun, alen, gslot, Nat.reduceEqDiff, reduceIte, argTs, asliceS, asliceL, bnd, boolV, intV, retQ, aRes, aResV, oneAV, AV.low, AV.low.lows, Nat.reduceAdd, isStringD, isSliceD, isBoolD, setRange, AV.cells, AV.isCell, AV.isAgg, abytes, aconv, aeq, isConst, isByteD, isIfaceD, endQ, Int.reduceToNat, Int.reduceLE, Int.reduceLT, Int.reduceEq, Int.reduceNe, Int.reduceAdd, Int.reduceSub, Int.reduceNeg, Nat.reduceLT, Nat.reduceLeDiff, Ent.ver, Ent.imm, Ent.ty, lits, isEl, newCells, aappend, Nat.reduceBEq, fill, undef, (st1), (st2), (st3), (st4), (st5), (st6), (st7), (st8)]; try simp (disch := omega) only [wrapI64, Int.toNat_natCast, ← Int.natCast_add, nat_add_one, nat_add_two, take_drop_all, List.drop_zero, Nat.sub_zero, Nat.add_sub_cancel_left])) (by (simp only [(vm1), (vm2), (vm3), (vm4), aDet, ev, tget, tput, ofC, ofC1, pureR, condR, abin, aun, alen, gslot, Nat.reduceEqDiff, reduceIte, argTs, asliceS, asliceL, bnd, boolV, intV, retQ, aRes, aResV, oneAV, AV.low, AV.low.lows, Nat.reduceAdd, isStringD, isSliceD, isBoolD, setRange, AV.cells, AV.isCell, AV.isAgg, abytes, aconv, aeq, isConst, isByteD, isIfaceD, endQ, Int.reduceToNat, Int.reduceLE, Int.reduceLT, Int.reduceEq, Int.reduceNe, Int.reduceAdd, Int.reduceSub, Int.reduceNeg, Nat.reduceLT, Nat.reduceLeDiff, Ent.ver, Ent.imm, Ent.ty, lits, isEl, newCells, aappend, Nat.reduceBEq, fill, undef, (st1), (st2), (st3), (st4), (st5), (st6), (st7), (st8)]; try simp (disch := omega) only [wrapI64, Int.toNat_natCast, ← Int.natCast_add, nat_add_one, nat_add_two, take_drop_all, List.drop_zero, Nat.sub_zero, Nat.add_sub_cancel_left]))
  · have t1 : ¬ dd = [100, 97, 116, 97] := hdd
    (simp only [tlen, hln, t1, (vm1), (vm2), (vm3), (vm4), aDet, ev, tget, tput, ofC, ofC1, pureR, condR, abin, aun, alen, gslot, Nat.reduceEqDiff, reduceIte, argTs, asliceS, asliceL, bnd, boolV, intV, retQ, aRes, aResV, oneAV, AV.low, AV.low.lows, Nat.reduceAdd, isStringD, isSliceD, isBoolD, setRange, AV.cells, AV.isCell, AV.isAgg, abytes, aconv, aeq, isConst, isByteD, isIfaceD, endQ, Int.reduceToNat, Int.reduceLE, Int.reduceLT, Int.reduceEq, Int.reduceNe, Int.reduceAdd, Int.reduceSub, Int.reduceNeg, Nat.reduceLT, Nat.reduceLeDiff, Ent.ver, Ent.imm, Ent.ty, lits, isEl, newCells, aappend, Nat.reduceBEq, fill, undef, (st1), (st2), (st3), (st4), (st5), (st6), (st7), (st8)]; try simp (disch := omega) only [wrapI64, Int.toNat_natCast, ← Int.natCast_add, nat_add_one, nat_add_two, take_drop_all, List.drop_zero, Nat.sub_zero, Nat.add_sub_cancel_left])
    refine yNext.go (by rfl) _ rfl (IsCon_ok nn hl.1 _) ?_
    cases hcb : conB nn
    · by_cases hnn : nn = []
      · have hw : wellT (.mk dd nn us) = wellTs us := by
          rw [hwell, hcb, decide_eq_false hdd, decide_eq_true hnn, decide_eq_true (by omega : us.length = ar)]; simp
        (simp only [t1, hnn, (vm1), (vm2), (vm3), (vm4), aDet, ev, tget, tput, ofC, ofC1, pureR, condR, abin, aun, alen, gslot, Nat.reduceEqDiff, reduceIte, argTs, asliceS, asliceL, bnd, boolV, intV, retQ, aRes, aResV, oneAV, AV.low, AV.low.lows, Nat.reduceAdd, isStringD, isSliceD, isBoolD, setRange, AV.cells, AV.isCell, AV.isAgg, abytes, aconv, aeq, isConst, isByteD, isIfaceD, endQ, Int.reduceToNat, Int.reduceLE, Int.reduceLT, Int.reduceEq, Int.reduceNe, Int.reduceAdd, Int.reduceSub, Int.reduceNeg, Nat.reduceLT, Nat.reduceLeDiff, Ent.ver, Ent.imm, Ent.ty, lits, isEl, newCells, aappend, Nat.reduceBEq, fill, undef, (st1), (st2), (st3), (st4), (st5), (st6), (st7), (st8)]; try simp (disch := omega) only [wrapI64, Int.toNat_natCast, ← Int.natCast_add, nat_add_one, nat_add_two, take_drop_all, List.drop_zero, Nat.sub_zero, Nat.add_sub_cancel_left])
        rw [dSeq_n]
        subst hnn
        exact validTy_rest rfl dd [] us ih σ G id n d hlt hG hl hw hb.1 hb.2 _ _ (by (simp only [(vm1), (vm2), (vm3), (vm4), aDet, ev, tget, tput, ofC, ofC1, pureR, condR, abin, aun, alen, gslot, Nat.reduceEqDiff, reduceIte, argTs, asliceS, asliceL, bnd, boolV, intV, retQ, aRes, aResV, oneAV, AV.low, AV.low.lows, Nat.reduceAdd, isStringD, isSliceD, isBoolD, setRange, AV.cells, AV.isCell, AV.isAgg, abytes, aconv, aeq, isConst, isByteD, isIfaceD, endQ, Int.reduceToNat, Int.reduceLE, Int.reduceLT, Int.reduceEq, Int.reduceNe, Int.reduceAdd, Int.reduceSub, Int.reduceNeg, Nat.reduceLT, Nat.reduceLeDiff, Ent.ver, Ent.imm, Ent.ty, lits, isEl, newCells, aappend, Nat.reduceBEq, fill, undef, (st1), (st2), (st3), (st4), (st5), (st6), (st7), (st8)]; try simp (disch := omega) only [wrapI64, Int.toNat_natCast, ← Int.natCast_add, nat_add_one, nat_add_two, take_drop_all, List.drop_zero, Nat.sub_zero, Nat.add_sub_cancel_left])) (by (simp only [(vm1), (vm2), (vm3), (vm4), aDet, ev, tget, tput, ofC, ofC1, pureR, condR, abin, aun, alen, gslot, Nat.reduceEqDiff, reduceIte, argTs, asliceS, asliceL, bnd, boolV, intV, retQ, aRes, aResV, oneAV, AV.low, AV.low.lows, Nat.reduceAdd, isStringD, isSliceD, isBoolD, setRange, AV.cells, AV.isCell, AV.isAgg, abytes, aconv, aeq, isConst, isByteD, isIfaceD, endQ, Int.reduceToNat, Int.reduceLE, Int.reduceLT, Int.reduceEq, Int.reduceNe, Int.reduceAdd, Int.reduceSub, Int.reduceNeg, Nat.reduceLT, Nat.reduceLeDiff, Ent.ver, Ent.imm, Ent.ty, lits, isEl, newCells, aappend, Nat.reduceBEq, fill, undef, (st1), (st2), (st3), (st4), (st5), (st6), (st7), (st8)]; try simp (disch := omega) only [wrapI64, Int.toNat_natCast, ← Int.natCast_add, nat_add_one, nat_add_two, take_drop_all, List.drop_zero, Nat.sub_zero, Nat.add_sub_cancel_left]))
      · have hbad : ¬ goodT n d (.mk dd nn us) := fun h => by
          rcases (hgood h).2.2.2.2 with q | q
          · exact hdd q
          · exact hnn q
        (simp only [t1, hnn, (vm1), (vm2), (vm3), (vm4), aDet, ev, tget, tput, ofC, ofC1, pureR, condR, abin, aun, alen, gslot, Nat.reduceEqDiff, reduceIte, argTs, asliceS, asliceL, bnd, boolV, intV, retQ, aRes, aResV, oneAV, AV.low, AV.low.lows, Nat.reduceAdd, isStringD, isSliceD, isBoolD, setRange, AV.cells, AV.isCell, AV.isAgg, abytes, aconv, aeq, isConst, isByteD, isIfaceD, endQ, Int.reduceToNat, Int.reduceLE, Int.reduceLT, Int.reduceEq, Int.reduceNe, Int.reduceAdd, Int.reduceSub, Int.reduceNeg, Nat.reduceLT, Nat.reduceLeDiff, Ent.ver, Ent.imm, Ent.ty, lits, isEl, newCells, aappend, Nat.reduceBEq, fill, undef, (st1), (st2), (st3), (st4), (st5), (st6), (st7), (st8)]; try simp (disch := omega) only [wrapI64, Int.toNat_natCast, ← Int.natCast_add, nat_add_one, nat_add_two, take_drop_all, List.drop_zero, Nat.sub_zero, Nat.add_sub_cancel_left])
        (simp only [dSeq_r, dRet, (vm1), (vm2), (vm3), (vm4), aDet, ev, tget, tput, ofC, ofC1, pureR, condR, abin, aun, alen, gslot, Nat.reduceEqDiff, reduceIte, argTs, asliceS, asliceL, bnd, boolV, intV, retQ, aRes, aResV, oneAV, AV.low, AV.low.lows, Nat.reduceAdd, isStringD, isSliceD, isBoolD, setRange, AV.cells, AV.isCell, AV.isAgg, abytes, aconv, aeq, isConst, isByteD, isIfaceD, endQ, Int.reduceToNat, Int.reduceLE, Int.reduceLT, Int.reduceEq, Int.reduceNe, Int.reduceAdd, Int.reduceSub, Int.reduceNeg, Nat.reduceLT, Nat.reduceLeDiff, Ent.ver, Ent.imm, Ent.ty, lits, isEl, newCells, aappend, Nat.reduceBEq, fill, undef, (st1), (st2), (st3), (st4), (st5), (st6), (st7), (st8)]; try simp (disch := omega) only [wrapI64, Int.toNat_natCast, ← Int.natCast_add, nat_add_one, nat_add_two, take_drop_all, List.drop_zero, Nat.sub_zero, Nat.add_sub_cancel_left])
        exact ⟨hlow, .inr ⟨hbad, hGs⟩⟩
    · have hbad : ¬ goodT n d (.mk dd nn us) := fun h => by
        have := (hgood h).2.2.2.1
        rw [hcb, decide_eq_false hdd] at this; cases this
      (simp only [t1, (vm1), (vm2), (vm3), (vm4), aDet, ev, tget, tput, ofC, ofC1, pureR, condR, abin, aun, alen, gslot, Nat.reduceEqDiff, reduceIte, argTs, asliceS, asliceL, bnd, boolV, intV, retQ, aRes, aResV, oneAV, AV.low, AV.low.lows, Nat.reduceAdd, isStringD, isSliceD, isBoolD, setRange, AV.cells, AV.isCell, AV.isAgg, abytes, aconv, aeq, isConst, isByteD, isIfaceD, endQ, Int.reduceToNat, Int.reduceLE, Int.reduceLT, Int.reduceEq, Int.reduceNe, Int.reduceAdd, Int.reduceSub, Int.reduceNeg, Nat.reduceLT, Nat.reduceLeDiff, Ent.ver, Ent.imm, Ent.ty, lits, isEl, newCells, aappend, Nat.reduceBEq, fill, undef, (st1), (st2), (st3), (st4), (st5), (st6), (st7), (st8)]; try simp (disch := omega) only [wrapI64, Int.toNat_natCast, ← Int.natCast_add, nat_add_one, nat_add_two, take_drop_all, List.drop_zero, Nat.sub_zero, Nat.add_sub_cancel_left])
      (simp only [dSeq_r, dRet, (vm1), (vm2), (vm3), (vm4), aDet, ev, tget, tput, ofC, ofC1, pureR, condR, abin, aun, alen, gslot, Nat.reduceEqDiff, reduceIte, argTs, asliceS, asliceL, bnd, boolV, intV, retQ, aRes, aResV, oneAV, AV.low, AV.low.lows, Nat.reduceAdd, isStringD, isSliceD, isBoolD, setRange, AV.cells, AV.isCell, AV.isAgg, abytes, aconv, aeq, isConst, isByteD, isIfaceD, endQ, Int.reduceToNat, Int.reduceLE, Int.reduceLT, Int.reduceEq, Int.reduceNe, Int.reduceAdd, Int.reduceSub, Int.reduceNeg, Nat.reduceLT, Nat.reduceLeDiff, Ent.ver, Ent.imm, Ent.ty, lits, isEl, newCells, aappend, Nat.reduceBEq, fill, undef, (st1), (st2), (st3), (st4), (st5), (st6), (st7), (st8)]; try simp (disch := omega) only [wrapI64, Int.toNat_natCast, ← Int.natCast_add, nat_add_one, nat_add_two, take_drop_all, List.drop_zero, Nat.sub_zero, Nat.add_sub_cancel_left])
      exact ⟨hlow, .inr ⟨hbad, hGs⟩⟩

/-- The walk over a type of layer 2. -/
theorem validTy_ok : ∀ (m : Nat) (t : Tr), SizeOf.sizeOf t ≤ m → VT t
  | 0, .mk d n us, h => by simp at h
  | m + 1, .mk d n us, h => validTy_step d n us fun u hu => validTy_ok m u (by
      have := List.sizeOf_lt_of_mem hu
      simp at h; omega)
end Go.D
