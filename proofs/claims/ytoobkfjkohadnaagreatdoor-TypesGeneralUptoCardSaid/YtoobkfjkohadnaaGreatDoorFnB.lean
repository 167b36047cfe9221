/- Types as values; names; searches over lists of types; a type's shape. -/
import Derived.Test.YtoobkfjkohadnaaGreatDoorFnA
import Derived.Test.YtoobkfjkohadnaaGreatDoorVmF
set_option linter.unusedVariables false
set_option linter.unusedSimpArgs false
set_option maxRecDepth 100000
namespace Go.D
open Go Go.Vm Go.Proofs Go.RowKit
mutual
def tyV : Tr → AV
 | .mk d n us => .agg [.str d, .str n, .sl (tysV us)]
def tysV : List Tr → List AV
 | [] => []
 | t :: ts => tyV t :: tysV ts
end
theorem tysV_map : ∀ l : List Tr, tysV l = l.map tyV
 | [] => rfl
 | t :: ts => by rw [tysV, tysV_map ts]; rfl
theorem tysV_len (l : List Tr) : (tysV l).length = l.length := by rw [tysV_map, List.length_map]
theorem tyV_el (t : Tr) : isEl 3 true (tyV t) = true := by cases t; rfl
mutual
theorem tyV_low (n : Nat) : ∀ t : Tr, (tyV t).low n = true
 | .mk d m us => by
  simp only [tyV, AV.low, AV.low.lows, Bool.and_true, Bool.true_and]
  exact tysV_low n us
theorem tysV_low (n : Nat) : ∀ l : List Tr, AV.low.lows n (tysV l) = true
 | [] => rfl
 | t :: ts => by simp only [tysV, AV.low.lows, tyV_low n t, tysV_low n ts, Bool.and_true]
end
theorem tysV_get {us : List Tr} {i : Nat} {u : Tr} (h : us[i]? = some u) : (tysV us).getD i .un = tyV u := by rw [tysV_map]; simp [List.getD, h]
mutual
def lenT : Tr → Prop
 | .mk d n us => n.length ≤ 9223372036854775807 ∧ us.length ≤ 9223372036854775807 ∧ lenTs us
def lenTs : List Tr → Prop
 | [] => True
 | t :: ts => lenT t ∧ lenTs ts
end
theorem lenTs_mem : ∀ {us : List Tr}, lenTs us → ∀ {u : Tr}, u ∈ us → lenT u
 | t :: us, h, u, hu => by
  simp only [lenTs] at h
  rcases List.mem_cons.1 hu with rfl | hu
  ·exact h.1
  ·exact lenTs_mem h.2 hu
def conB (t : List UInt8) : Bool := decide ((long true t).1 = t.length) && decide ((long true t).2 = kCon)
theorem IsCon_ok (t : List UInt8) (hl : t.length ≤ 9223372036854775807) (σ : List Ent) : ACalls E 108 [.str t] σ fun r τ => r = boolV (conB t) ∧ τ = σ := by
 refine xacalls T0 .drop [] Tryz.func108 rfl (by kernel_rfl) (by kernel_rfl) (by simp [Tryz.ntmps108]) ?_
 (simp only [(vmA), Nat.reduceEqDiff, reduceIte, Nat.reduceAdd, Int.reduceToNat, Int.reduceLE, Int.reduceLT, Int.reduceEq, Int.reduceNe, Int.reduceAdd, Int.reduceSub, Int.reduceNeg, Nat.reduceLT, Nat.reduceLeDiff, Nat.reduceBEq, undef, (stA), Nat.reduceMul]; try simp (disch := omega) only [(vmp)])
 suffices h : ACalls E 114 [.agg [.str kCon, .str t, i64 0]] σ fun r τ => r = boolV (conB t) ∧ τ = σ by
  refine xWait.go h ?_
  (simp only [(vmA), Nat.reduceEqDiff, reduceIte, Nat.reduceAdd, Int.reduceToNat, Int.reduceLE, Int.reduceLT, Int.reduceEq, Int.reduceNe, Int.reduceAdd, Int.reduceSub, Int.reduceNeg, Nat.reduceLT, Nat.reduceLeDiff, Nat.reduceBEq, undef, (stA), Nat.reduceMul]; try simp (disch := omega) only [(vmp)])
 refine xacalls T0 .drop [] Tryz.func114 rfl (by kernel_rfl) (by kernel_rfl) (by simp [Tryz.ntmps114]) ?_
 have n1 : ¬ ([99, 111, 110] : List UInt8) = [110, 97, 109, 101] := by decide
 (simp only [kCon, n1, (vmA), Nat.reduceEqDiff, reduceIte, Nat.reduceAdd, Int.reduceToNat, Int.reduceLE, Int.reduceLT, Int.reduceEq, Int.reduceNe, Int.reduceAdd, Int.reduceSub, Int.reduceNeg, Nat.reduceLT, Nat.reduceLeDiff, Nat.reduceBEq, undef, (stA), Nat.reduceMul]; try simp (disch := omega) only [(vmp)])
 refine xWait.go (long_ok t hl _) ?_
 (simp only [(vmA), Nat.reduceEqDiff, reduceIte, Nat.reduceAdd, Int.reduceToNat, Int.reduceLE, Int.reduceLT, Int.reduceEq, Int.reduceNe, Int.reduceAdd, Int.reduceSub, Int.reduceNeg, Nat.reduceLT, Nat.reduceLeDiff, Nat.reduceBEq, undef, (stA), Nat.reduceMul]; try simp (disch := omega) only [(vmp)])
 have fin : conB t = (decide (((long true t).1 : Int) = t.length) && decide ((long true t).2 = kCon)) := by
  have : ((((long true t).1 : Nat) : Int) = t.length) = ((long true t).1 = t.length) := propext ⟨fun h => by omega, fun h => by omega⟩
  unfold conB; simp only [this]
 rw [fin]
 by_cases q : ((long true t).1 : Int) = t.length
 ·(simp only [q, (vmA), Nat.reduceEqDiff, reduceIte, Nat.reduceAdd, Int.reduceToNat, Int.reduceLE, Int.reduceLT, Int.reduceEq, Int.reduceNe, Int.reduceAdd, Int.reduceSub, Int.reduceNeg, Nat.reduceLT, Nat.reduceLeDiff, Nat.reduceBEq, undef, (stA), Nat.reduceMul]; try simp (disch := omega) only [(vmp)]); rfl
 ·(simp only [q, (vmA), Nat.reduceEqDiff, reduceIte, Nat.reduceAdd, Int.reduceToNat, Int.reduceLE, Int.reduceLT, Int.reduceEq, Int.reduceNe, Int.reduceAdd, Int.reduceSub, Int.reduceNeg, Nat.reduceLT, Nat.reduceLeDiff, Nat.reduceBEq, undef, (stA), Nat.reduceMul]; try simp (disch := omega) only [(vmp)])
theorem IsVar_ok (n : List UInt8) (hl : n.length ≤ 9223372036854775807) (σ : List Ent) : ACalls E 87 [.str n] σ fun r τ => r = boolV (varB n) ∧ τ = σ := by
 refine xacalls T0 .drop [] Tryz.func87 rfl (by kernel_rfl) (by kernel_rfl) (by simp [Tryz.ntmps87]) ?_
 (simp only [(vmA), Nat.reduceEqDiff, reduceIte, Nat.reduceAdd, Int.reduceToNat, Int.reduceLE, Int.reduceLT, Int.reduceEq, Int.reduceNe, Int.reduceAdd, Int.reduceSub, Int.reduceNeg, Nat.reduceLT, Nat.reduceLeDiff, Nat.reduceBEq, undef, (stA), Nat.reduceMul]; try simp (disch := omega) only [(vmp)])
 suffices h : ACalls E 114 [.agg [.str kiVar, .str n, i64 0]] σ fun r τ => r = boolV (varB n) ∧ τ = σ by
  refine xWait.go h ?_
  (simp only [(vmA), Nat.reduceEqDiff, reduceIte, Nat.reduceAdd, Int.reduceToNat, Int.reduceLE, Int.reduceLT, Int.reduceEq, Int.reduceNe, Int.reduceAdd, Int.reduceSub, Int.reduceNeg, Nat.reduceLT, Nat.reduceLeDiff, Nat.reduceBEq, undef, (stA), Nat.reduceMul]; try simp (disch := omega) only [(vmp)])
 refine xacalls T0 .drop [] Tryz.func114 rfl (by kernel_rfl) (by kernel_rfl) (by simp [Tryz.ntmps114]) ?_
 have n1 : ¬ ([118, 97, 114] : List UInt8) = [110, 97, 109, 101] := by decide
 have n2 : ¬ ([118, 97, 114] : List UInt8) = [99, 111, 110] := by decide
 have n3 : ¬ ([118, 97, 114] : List UInt8) = [107, 101, 121] := by decide
 have n4 : ¬ ([118, 97, 114] : List UInt8) = [105, 110, 116] := by decide
 have n5 : ¬ ([118, 97, 114] : List UInt8) = [116, 101, 120, 116] := by decide
 unfold varB
 by_cases h : (n.length : Int) = 2
 rotate_left
 ·(simp only [kiVar, n1, n2, n3, n4, n5, h, (vmA), Nat.reduceEqDiff, reduceIte, Nat.reduceAdd, Int.reduceToNat, Int.reduceLE, Int.reduceLT, Int.reduceEq, Int.reduceNe, Int.reduceAdd, Int.reduceSub, Int.reduceNeg, Nat.reduceLT, Nat.reduceLeDiff, Nat.reduceBEq, undef, (stA), Nat.reduceMul]; try simp (disch := omega) only [(vmp)])
 have h0 : (0 : Int) < n.length := by omega
 have h1 : (1 : Int) < n.length := by omega
 by_cases ha : ((n.getD 0 0).toNat : Int) = 39
 rotate_left
 ·(simp only [kiVar, n1, n2, n3, n4, n5, h, ha, (vmA), Nat.reduceEqDiff, reduceIte, Nat.reduceAdd, Int.reduceToNat, Int.reduceLE, Int.reduceLT, Int.reduceEq, Int.reduceNe, Int.reduceAdd, Int.reduceSub, Int.reduceNeg, Nat.reduceLT, Nat.reduceLeDiff, Nat.reduceBEq, undef, (stA), Nat.reduceMul]; try simp (disch := omega) only [(vmp)])
 ·(simp only [kiVar, n1, n2, n3, n4, n5, h, ha, (vmA), Nat.reduceEqDiff, reduceIte, Nat.reduceAdd, Int.reduceToNat, Int.reduceLE, Int.reduceLT, Int.reduceEq, Int.reduceNe, Int.reduceAdd, Int.reduceSub, Int.reduceNeg, Nat.reduceLT, Nat.reduceLeDiff, Nat.reduceBEq, undef, (stA), Nat.reduceMul]; try simp (disch := omega) only [(vmp)])
  refine xWait.go (between_ok _ _ _ _) ?_
  (simp only [(vmA), Nat.reduceEqDiff, reduceIte, Nat.reduceAdd, Int.reduceToNat, Int.reduceLE, Int.reduceLT, Int.reduceEq, Int.reduceNe, Int.reduceAdd, Int.reduceSub, Int.reduceNeg, Nat.reduceLT, Nat.reduceLeDiff, Nat.reduceBEq, undef, (stA), Nat.reduceMul]; try simp (disch := omega) only [(vmp)])
theorem parts_ok (d : List UInt8) (σ : List Ent) : ACalls E 109 [.str d] σ fun r τ => r = i64 (partsI d) ∧ τ = σ := by
 refine xacalls T0 .drop [] Tryz.func109 rfl (by kernel_rfl) (by kernel_rfl) (by simp [Tryz.ntmps109]) ?_
 generalize hS : partsI d = S
 unfold partsI at hS
 by_cases h0 : d = kiInt
 ·rw [if_pos (.inl h0)] at hS; subst hS
  have t0 : (d = [105, 110, 116]) = True := eq_true h0
  (simp only [t0, (vmA), Nat.reduceEqDiff, reduceIte, Nat.reduceAdd, Int.reduceToNat, Int.reduceLE, Int.reduceLT, Int.reduceEq, Int.reduceNe, Int.reduceAdd, Int.reduceSub, Int.reduceNeg, Nat.reduceLT, Nat.reduceLeDiff, Nat.reduceBEq, undef, (stA), Nat.reduceMul]; try simp (disch := omega) only [(vmp)])
  try rfl
 have n0 : ¬ d = [105, 110, 116] := h0
 by_cases h1 : d = kiBool
 ·rw [if_pos (.inr (.inl h1))] at hS; subst hS
  have t1 : (d = [98, 111, 111, 108]) = True := eq_true h1
  (simp only [n0, t1, (vmA), Nat.reduceEqDiff, reduceIte, Nat.reduceAdd, Int.reduceToNat, Int.reduceLE, Int.reduceLT, Int.reduceEq, Int.reduceNe, Int.reduceAdd, Int.reduceSub, Int.reduceNeg, Nat.reduceLT, Nat.reduceLeDiff, Nat.reduceBEq, undef, (stA), Nat.reduceMul]; try simp (disch := omega) only [(vmp)])
  try rfl
 have n1 : ¬ d = [98, 111, 111, 108] := h1
 by_cases h2 : d = kiUnit
 ·rw [if_pos (.inr (.inr (.inl h2)))] at hS; subst hS
  have t2 : (d = [117, 110, 105, 116]) = True := eq_true h2
  (simp only [n0, n1, t2, (vmA), Nat.reduceEqDiff, reduceIte, Nat.reduceAdd, Int.reduceToNat, Int.reduceLE, Int.reduceLT, Int.reduceEq, Int.reduceNe, Int.reduceAdd, Int.reduceSub, Int.reduceNeg, Nat.reduceLT, Nat.reduceLeDiff, Nat.reduceBEq, undef, (stA), Nat.reduceMul]; try simp (disch := omega) only [(vmp)])
  try rfl
 have n2 : ¬ d = [117, 110, 105, 116] := h2
 by_cases h3 : d = kiText
 ·rw [if_pos (.inr (.inr (.inr (.inl h3))))] at hS; subst hS
  have t3 : (d = [116, 101, 120, 116]) = True := eq_true h3
  (simp only [n0, n1, n2, t3, (vmA), Nat.reduceEqDiff, reduceIte, Nat.reduceAdd, Int.reduceToNat, Int.reduceLE, Int.reduceLT, Int.reduceEq, Int.reduceNe, Int.reduceAdd, Int.reduceSub, Int.reduceNeg, Nat.reduceLT, Nat.reduceLeDiff, Nat.reduceBEq, undef, (stA), Nat.reduceMul]; try simp (disch := omega) only [(vmp)])
  try rfl
 have n3 : ¬ d = [116, 101, 120, 116] := h3
 by_cases h4 : d = kiData
 ·rw [if_pos (.inr (.inr (.inr (.inr (.inl h4)))))] at hS; subst hS
  have t4 : (d = [100, 97, 116, 97]) = True := eq_true h4
  (simp only [n0, n1, n2, n3, t4, (vmA), Nat.reduceEqDiff, reduceIte, Nat.reduceAdd, Int.reduceToNat, Int.reduceLE, Int.reduceLT, Int.reduceEq, Int.reduceNe, Int.reduceAdd, Int.reduceSub, Int.reduceNeg, Nat.reduceLT, Nat.reduceLeDiff, Nat.reduceBEq, undef, (stA), Nat.reduceMul]; try simp (disch := omega) only [(vmp)])
  try rfl
 have n4 : ¬ d = [100, 97, 116, 97] := h4
 by_cases h5 : d = kiVar
 ·rw [if_pos (.inr (.inr (.inr (.inr (.inr (h5))))))] at hS; subst hS
  have t5 : (d = [118, 97, 114]) = True := eq_true h5
  (simp only [n0, n1, n2, n3, n4, t5, (vmA), Nat.reduceEqDiff, reduceIte, Nat.reduceAdd, Int.reduceToNat, Int.reduceLE, Int.reduceLT, Int.reduceEq, Int.reduceNe, Int.reduceAdd, Int.reduceSub, Int.reduceNeg, Nat.reduceLT, Nat.reduceLeDiff, Nat.reduceBEq, undef, (stA), Nat.reduceMul]; try simp (disch := omega) only [(vmp)])
  try rfl
 have n5 : ¬ d = [118, 97, 114] := h5
 rw [if_neg (by simp only [h0, h1, h2, h3, h4, h5, or_self, not_false_eq_true])] at hS
 by_cases h6 : d = kiList
 ·rw [if_pos (.inl h6)] at hS; subst hS
  have t6 : (d = [108, 105, 115, 116]) = True := eq_true h6
  (simp only [n0, n1, n2, n3, n4, n5, t6, (vmA), Nat.reduceEqDiff, reduceIte, Nat.reduceAdd, Int.reduceToNat, Int.reduceLE, Int.reduceLT, Int.reduceEq, Int.reduceNe, Int.reduceAdd, Int.reduceSub, Int.reduceNeg, Nat.reduceLT, Nat.reduceLeDiff, Nat.reduceBEq, undef, (stA), Nat.reduceMul]; try simp (disch := omega) only [(vmp)])
  try rfl
 have n6 : ¬ d = [108, 105, 115, 116] := h6
 by_cases h7 : d = kiArray
 ·rw [if_pos (.inr (h7))] at hS; subst hS
  have t7 : (d = [97, 114, 114, 97, 121]) = True := eq_true h7
  (simp only [n0, n1, n2, n3, n4, n5, n6, t7, (vmA), Nat.reduceEqDiff, reduceIte, Nat.reduceAdd, Int.reduceToNat, Int.reduceLE, Int.reduceLT, Int.reduceEq, Int.reduceNe, Int.reduceAdd, Int.reduceSub, Int.reduceNeg, Nat.reduceLT, Nat.reduceLeDiff, Nat.reduceBEq, undef, (stA), Nat.reduceMul]; try simp (disch := omega) only [(vmp)])
  try rfl
 have n7 : ¬ d = [97, 114, 114, 97, 121] := h7
 rw [if_neg (by simp only [h6, h7, or_self, not_false_eq_true])] at hS
 by_cases h8 : d = kiPair
 ·rw [if_pos (.inl h8)] at hS; subst hS
  have t8 : (d = [112, 97, 105, 114]) = True := eq_true h8
  (simp only [n0, n1, n2, n3, n4, n5, n6, n7, t8, (vmA), Nat.reduceEqDiff, reduceIte, Nat.reduceAdd, Int.reduceToNat, Int.reduceLE, Int.reduceLT, Int.reduceEq, Int.reduceNe, Int.reduceAdd, Int.reduceSub, Int.reduceNeg, Nat.reduceLT, Nat.reduceLeDiff, Nat.reduceBEq, undef, (stA), Nat.reduceMul]; try simp (disch := omega) only [(vmp)])
  try rfl
 have n8 : ¬ d = [112, 97, 105, 114] := h8
 by_cases h9 : d = kiFn
 ·rw [if_pos (.inr (h9))] at hS; subst hS
  have t9 : (d = [102, 110]) = True := eq_true h9
  (simp only [n0, n1, n2, n3, n4, n5, n6, n7, n8, t9, (vmA), Nat.reduceEqDiff, reduceIte, Nat.reduceAdd, Int.reduceToNat, Int.reduceLE, Int.reduceLT, Int.reduceEq, Int.reduceNe, Int.reduceAdd, Int.reduceSub, Int.reduceNeg, Nat.reduceLT, Nat.reduceLeDiff, Nat.reduceBEq, undef, (stA), Nat.reduceMul]; try simp (disch := omega) only [(vmp)])
  try rfl
 have n9 : ¬ d = [102, 110] := h9
 rw [if_neg (by simp only [h8, h9, or_self, not_false_eq_true])] at hS
 subst hS
 (simp only [n0, n1, n2, n3, n4, n5, n6, n7, n8, n9, (vmA), Nat.reduceEqDiff, reduceIte, Nat.reduceAdd, Int.reduceToNat, Int.reduceLE, Int.reduceLT, Int.reduceEq, Int.reduceNe, Int.reduceAdd, Int.reduceSub, Int.reduceNeg, Nat.reduceLT, Nat.reduceLeDiff, Nat.reduceBEq, undef, (stA), Nat.reduceMul]; try simp (disch := omega) only [(vmp)])
 try rfl
theorem ixTy_ok (f : FuncId) (caps : List AV) (es : List AV) (hl : es.length ≤ 9223372036854775807) (hel : ∀ e ∈ es, isEl 3 true e = true) (S : Nat → List Ent) (I : Nat → Prop) (Bad : Nat → List Ent → Prop) (hSl : ∀ i j, (S i).length = (S j).length) (h0 : I 0)
  (hf : ∀ i, i < es.length → I i → ACalls E f (es.getD i .un :: caps) (S i) fun r τ => (r = boolV false ∧ I (i + 1) ∧ τ = S (i + 1)) ∨ (r = boolV true ∧ Bad i τ)) :
  ACalls E 131 [.sl es, .fn f [] caps] (S 0) fun r τ => (r = i64 (-1) ∧ I es.length ∧ τ = S es.length) ∨ ∃ i : Nat, r = i64 i ∧ i < es.length ∧ I i ∧ Bad i τ := by
 refine xacalls T0 .stay [] Tryz.func131 rfl (by kernel_rfl) (by kernel_rfl) (by simp [Tryz.ntmps131]) ?_
 (simp only [(vmA), Nat.reduceEqDiff, reduceIte, Nat.reduceAdd, Int.reduceToNat, Int.reduceLE, Int.reduceLT, Int.reduceEq, Int.reduceNe, Int.reduceAdd, Int.reduceSub, Int.reduceNeg, Nat.reduceLT, Nat.reduceLeDiff, Nat.reduceBEq, undef, (stA), Nat.reduceMul]; try simp (disch := omega) only [(vmp)])
 refine xloop (α := Nat) T0 (fun i => [(0, .sl es), (1, .fn f [] caps), (7, i64 es.length), (8, i64 i)]) (fun i => S i) (fun _ => []) (fun i => i ≤ es.length ∧ I i) (fun i => es.length - i) (by kernel_rfl)
  ⟨0, ⟨by omega, h0⟩, by (simp only [(vmA), Nat.reduceEqDiff, reduceIte, Nat.reduceAdd, Int.reduceToNat, Int.reduceLE, Int.reduceLT, Int.reduceEq, Int.reduceNe, Int.reduceAdd, Int.reduceSub, Int.reduceNeg, Nat.reduceLT, Nat.reduceLeDiff, Nat.reduceBEq, undef, (stA), Nat.reduceMul, Int.natCast_zero]; try simp (disch := omega) only [(vmp)]), rfl, rfl⟩ ?_
 rintro i ⟨hi, hI⟩
 by_cases h : (i : Int) < es.length
 ·have hi' : i < es.length := by omega
  have hm : es.getD i .un ∈ es := by simp [List.getD, hi']
  have he := hel _ hm
  generalize hx : es.getD i .un = x at *
  cases x with
  | agg cs =>
   simp only [isEl, AV.isAgg, AV.cells, Bool.and_eq_true, beq_iff_eq] at he
   obtain ⟨⟨_, hlen⟩, hall⟩ := he
   (simp only [h, hx, hlen, hall, (vmA), Nat.reduceEqDiff, reduceIte, Nat.reduceAdd, Int.reduceToNat, Int.reduceLE, Int.reduceLT, Int.reduceEq, Int.reduceNe, Int.reduceAdd, Int.reduceSub, Int.reduceNeg, Nat.reduceLT, Nat.reduceLeDiff, Nat.reduceBEq, undef, (stA), Nat.reduceMul]; try simp (disch := omega) only [(vmp)])
   try refine ⟨hall, ?_⟩
   rw [List.take_of_length_le (by omega)]
   have hc := hf i hi' hI
   rw [hx] at hc
   refine xWait.of hc ?_
   rintro r τ (⟨rfl, hI1, rfl⟩ | ⟨rfl, hB⟩)
   ·rw [hSl i (i + 1)]
    (simp only [(vmA), Nat.reduceEqDiff, reduceIte, Nat.reduceAdd, Int.reduceToNat, Int.reduceLE, Int.reduceLT, Int.reduceEq, Int.reduceNe, Int.reduceAdd, Int.reduceSub, Int.reduceNeg, Nat.reduceLT, Nat.reduceLeDiff, Nat.reduceBEq, undef, (stA), Nat.reduceMul]; try simp (disch := omega) only [(vmp)])
    exact ⟨i + 1, ⟨by omega, hI1⟩, by omega, rfl, rfl⟩
   ·(simp only [(vmA), Nat.reduceEqDiff, reduceIte, Nat.reduceAdd, Int.reduceToNat, Int.reduceLE, Int.reduceLT, Int.reduceEq, Int.reduceNe, Int.reduceAdd, Int.reduceSub, Int.reduceNeg, Nat.reduceLT, Nat.reduceLeDiff, Nat.reduceBEq, undef, (stA), Nat.reduceMul]; try simp (disch := omega) only [(vmp)])
    exact .inr ⟨i, rfl, hi', hI, by rw [List.take_append_drop]; exact hB⟩
  | _ => simp [isEl, AV.isAgg] at he
 ·(simp only [h, (vmA), Nat.reduceEqDiff, reduceIte, Nat.reduceAdd, Int.reduceToNat, Int.reduceLE, Int.reduceLT, Int.reduceEq, Int.reduceNe, Int.reduceAdd, Int.reduceSub, Int.reduceNeg, Nat.reduceLT, Nat.reduceLeDiff, Nat.reduceBEq, undef, (stA), Nat.reduceMul]; try simp (disch := omega) only [(vmp)])
  have : i = es.length := by omega
  subst this
  exact .inl ⟨hI, rfl⟩
theorem conTy_ok (f : FuncId) (caps : List AV) (es : List AV) (hl : es.length ≤ 9223372036854775807) (hel : ∀ e ∈ es, isEl 3 true e = true) (S : Nat → List Ent) (I : Nat → Prop) (Bad : Nat → List Ent → Prop) (hSl : ∀ i j, (S i).length = (S j).length) (h0 : I 0)
  (hf : ∀ i, i < es.length → I i → ACalls E f (es.getD i .un :: caps) (S i) fun r τ => (r = boolV false ∧ I (i + 1) ∧ τ = S (i + 1)) ∨ (r = boolV true ∧ Bad i τ)) :
  ACalls E 110 [.sl es, .fn f [] caps] (S 0) fun r τ => (r = boolV false ∧ I es.length ∧ τ = S es.length) ∨ (r = boolV true ∧ ∃ i, i < es.length ∧ I i ∧ Bad i τ) := by
 refine xacalls T0 .stay [] Tryz.func110 rfl (by kernel_rfl) (by kernel_rfl) (by simp [Tryz.ntmps110]) ?_
 (simp only [(vmA), Nat.reduceEqDiff, reduceIte, Nat.reduceAdd, Int.reduceToNat, Int.reduceLE, Int.reduceLT, Int.reduceEq, Int.reduceNe, Int.reduceAdd, Int.reduceSub, Int.reduceNeg, Nat.reduceLT, Nat.reduceLeDiff, Nat.reduceBEq, undef, (stA), Nat.reduceMul]; try simp (disch := omega) only [(vmp)])
 refine xWait.of (ixTy_ok f caps es hl hel S I Bad hSl h0 hf) ?_
 rintro r τ (⟨rfl, hI1, rfl⟩ | ⟨i, rfl, h1, h2, h3⟩)
 ·rw [hSl 0 es.length]
  (simp only [(vmA), Nat.reduceEqDiff, reduceIte, Nat.reduceAdd, Int.reduceToNat, Int.reduceLE, Int.reduceLT, Int.reduceEq, Int.reduceNe, Int.reduceAdd, Int.reduceSub, Int.reduceNeg, Nat.reduceLT, Nat.reduceLeDiff, Nat.reduceBEq, undef, (stA), Nat.reduceMul]; try simp (disch := omega) only [(vmp)])
  exact .inl hI1
 ·have hi : (0 : Int) ≤ i := by omega
  (simp only [hi, (vmA), Nat.reduceEqDiff, reduceIte, Nat.reduceAdd, Int.reduceToNat, Int.reduceLE, Int.reduceLT, Int.reduceEq, Int.reduceNe, Int.reduceAdd, Int.reduceSub, Int.reduceNeg, Nat.reduceLT, Nat.reduceLeDiff, Nat.reduceBEq, undef, (stA), Nat.reduceMul]; try simp (disch := omega) only [(vmp)])
  exact .inr ⟨i, h1, h2, by rw [List.take_append_drop]; exact h3⟩
end Go.D
namespace Go.D
open Go Go.Vm Go.Proofs Go.RowKit
def TT (t : Tr) : Prop := ∀ σ : List Ent, lenT t → ACalls E 81 [tyV t] σ fun r τ => r = boolV (typeB conB t) ∧ τ = σ
theorem Type1_ok (t : Tr) (h : TT t) (hl : lenT t) (σ : List Ent) : ACalls E 111 [tyV t] σ fun r τ => r = boolV (!typeB conB t) ∧ τ = σ := by
 refine xacalls T0 .drop [] Tryz.func111 rfl (by kernel_rfl) (by kernel_rfl) (by simp [Tryz.ntmps111]) ?_
 have hh := fun σ' => h σ' hl
 cases t with
 | mk d n us =>
 simp only [tyV] at hh
 (simp only [tyV, (vmA), Nat.reduceEqDiff, reduceIte, Nat.reduceAdd, Int.reduceToNat, Int.reduceLE, Int.reduceLT, Int.reduceEq, Int.reduceNe, Int.reduceAdd, Int.reduceSub, Int.reduceNeg, Nat.reduceLT, Nat.reduceLeDiff, Nat.reduceBEq, undef, (stA), Nat.reduceMul]; try simp (disch := omega) only [(vmp)])
 refine xWait.go (hh _) ?_
 (simp only [(vmA), Nat.reduceEqDiff, reduceIte, Nat.reduceAdd, Int.reduceToNat, Int.reduceLE, Int.reduceLT, Int.reduceEq, Int.reduceNe, Int.reduceAdd, Int.reduceSub, Int.reduceNeg, Nat.reduceLT, Nat.reduceLeDiff, Nat.reduceBEq, undef, (stA), Nat.reduceMul]; try simp (disch := omega) only [(vmp)])
theorem typeBs_app : ∀ (a b : List Tr), typeBs conB (a ++ b) = (typeBs conB a && typeBs conB b)
 | [], b => by simp only [List.nil_append, typeBs, Bool.true_and]
 | t :: a, b => by simp only [List.cons_append, typeBs, typeBs_app a b, Bool.and_assoc]
theorem take_split (us : List Tr) (i : Nat) (u : Tr) (hu : us[i]? = some u) : us.take (i + 1) = us.take i ++ [u] ∧ us = us.take i ++ u :: us.drop (i + 1) := by
 obtain ⟨hi, rfl⟩ := List.getElem?_eq_some_iff.1 hu
 exact ⟨by rw [List.take_add_one, hu]; rfl, by rw [← List.drop_eq_getElem_cons hi, List.take_append_drop]⟩
theorem containsType_ok (us : List Tr) (ih : ∀ u ∈ us, TT u) (hl : us.length ≤ 9223372036854775807) (hl2 : lenTs us) (σ : List Ent) :
  ACalls E 110 [.sl (tysV us), .fn 111 [] []] σ fun r τ => r = boolV (!typeBs conB us) ∧ τ = σ := by
 have key := conTy_ok 111 [] (tysV us) (by rw [tysV_len]; exact hl) (fun e he => by rw [tysV_map] at he; obtain ⟨t, _, rfl⟩ := List.mem_map.1 he; exact tyV_el t)
  (fun _ => σ) (fun i => typeBs conB (us.take i) = true) (fun i τ => typeBs conB us = false ∧ τ = σ) (fun _ _ => rfl) (by simp only [List.take_zero, typeBs])
  (fun i hi hI => by
   rw [tysV_len] at hi
   have hu : us[i]? = some us[i] := List.getElem?_eq_getElem hi
   obtain ⟨s1, s2⟩ := take_split us i _ hu
   have hmem : us[i] ∈ us := List.getElem_mem hi
   generalize us[i] = u at *
   rw [tysV_get hu]
   refine (Type1_ok u (ih u hmem) (lenTs_mem hl2 hmem) σ).mono fun r τ ⟨h1, h2⟩ => ?_
   subst h1 h2
   cases hb : typeB conB u
   ·refine .inr ⟨rfl, ?_, rfl⟩
    rw [s2, typeBs_app]
    simp only [typeBs, hb, Bool.false_and, Bool.and_false]
   ·refine .inl ⟨rfl, ?_, rfl⟩
    rw [s1, typeBs_app, hI]
    simp only [typeBs, hb, Bool.and_self])
 refine key.mono fun r τ hh => ?_
 rcases hh with ⟨rfl, h1, rfl⟩ | ⟨rfl, i, _, _, h2, rfl⟩
 ·rw [tysV_len, List.take_of_length_le (Nat.le_refl _)] at h1
  rw [h1]; exact ⟨rfl, rfl⟩
 ·rw [h2]; exact ⟨rfl, rfl⟩
set_option maxHeartbeats 4000000 in
theorem Type_step (d n : List UInt8) (us : List Tr) (ih : ∀ u ∈ us, TT u) : TT (.mk d n us) := by
 intro σ hl
 simp only [lenT] at hl
 refine xacalls T0 .drop [] Tryz.func81 rfl (by kernel_rfl) (by kernel_rfl) (by simp [Tryz.ntmps81]) ?_
 simp only [typeB]
 by_cases hd : d = kiData
 ·have t1 : (d = [100, 97, 116, 97]) = True := eq_true hd
  have n2 : ¬ d = [118, 97, 114] := by rw [hd]; decide
  (simp only [hd, tyV, (vmA), Nat.reduceEqDiff, reduceIte, Nat.reduceAdd, Int.reduceToNat, Int.reduceLE, Int.reduceLT, Int.reduceEq, Int.reduceNe, Int.reduceAdd, Int.reduceSub, Int.reduceNeg, Nat.reduceLT, Nat.reduceLeDiff, Nat.reduceBEq, undef, (stA), Nat.reduceMul]; try simp (disch := omega) only [(vmp)])
  rw [← hd]
  refine xWait.go (IsCon_ok n hl.1 _) ?_
  cases hc : conB n
  ·(simp only [t1, (vmA), Nat.reduceEqDiff, reduceIte, Nat.reduceAdd, Int.reduceToNat, Int.reduceLE, Int.reduceLT, Int.reduceEq, Int.reduceNe, Int.reduceAdd, Int.reduceSub, Int.reduceNeg, Nat.reduceLT, Nat.reduceLeDiff, Nat.reduceBEq, undef, (stA), Nat.reduceMul]; try simp (disch := omega) only [(vmp)])
  ·(simp only [t1, n2, (vmA), Nat.reduceEqDiff, reduceIte, Nat.reduceAdd, Int.reduceToNat, Int.reduceLE, Int.reduceLT, Int.reduceEq, Int.reduceNe, Int.reduceAdd, Int.reduceSub, Int.reduceNeg, Nat.reduceLT, Nat.reduceLeDiff, Nat.reduceBEq, undef, (stA), Nat.reduceMul]; try simp (disch := omega) only [(vmp)])
   refine ydraw T0 [] (by kernel_rfl) (by kernel_rfl) (by kernel_rfl) (by kernel_rfl) ?_
   (simp only [(vmA), Nat.reduceEqDiff, reduceIte, Nat.reduceAdd, Int.reduceToNat, Int.reduceLE, Int.reduceLT, Int.reduceEq, Int.reduceNe, Int.reduceAdd, Int.reduceSub, Int.reduceNeg, Nat.reduceLT, Nat.reduceLeDiff, Nat.reduceBEq, undef, (stA), Nat.reduceMul]; try simp (disch := omega) only [(vmp)])
   refine yNext.go (by rfl) _ rfl (parts_ok d _) ?_
   by_cases hp : partsI d = us.length
   ·(simp only [hp, tysV_len, (vmA), Nat.reduceEqDiff, reduceIte, Nat.reduceAdd, Int.reduceToNat, Int.reduceLE, Int.reduceLT, Int.reduceEq, Int.reduceNe, Int.reduceAdd, Int.reduceSub, Int.reduceNeg, Nat.reduceLT, Nat.reduceLeDiff, Nat.reduceBEq, undef, (stA), Nat.reduceMul]; try simp (disch := omega) only [(vmp)])
    refine yNext.go (by rfl) _ rfl (containsType_ok us ih hl.2.1 hl.2.2 _) ?_
    (simp only [Bool.not_not, (vmA), Nat.reduceEqDiff, reduceIte, Nat.reduceAdd, Int.reduceToNat, Int.reduceLE, Int.reduceLT, Int.reduceEq, Int.reduceNe, Int.reduceAdd, Int.reduceSub, Int.reduceNeg, Nat.reduceLT, Nat.reduceLeDiff, Nat.reduceBEq, undef, (stA), Nat.reduceMul]; try simp (disch := omega) only [(vmp)])
    try rfl
   ·(simp only [hp, tysV_len, (vmA), Nat.reduceEqDiff, reduceIte, Nat.reduceAdd, Int.reduceToNat, Int.reduceLE, Int.reduceLT, Int.reduceEq, Int.reduceNe, Int.reduceAdd, Int.reduceSub, Int.reduceNeg, Nat.reduceLT, Nat.reduceLeDiff, Nat.reduceBEq, undef, (stA), Nat.reduceMul]; try simp (disch := omega) only [(vmp)])
    try rfl
 ·have n1 : ¬ d = [100, 97, 116, 97] := hd
  by_cases hv : d = kiVar
  ·have t2 : (d = [118, 97, 114]) = True := eq_true hv
   (simp only [tyV, n1, t2, (vmA), Nat.reduceEqDiff, reduceIte, Nat.reduceAdd, Int.reduceToNat, Int.reduceLE, Int.reduceLT, Int.reduceEq, Int.reduceNe, Int.reduceAdd, Int.reduceSub, Int.reduceNeg, Nat.reduceLT, Nat.reduceLeDiff, Nat.reduceBEq, undef, (stA), Nat.reduceMul]; try simp (disch := omega) only [(vmp)])
   refine xWait.go (IsVar_ok n hl.1 _) ?_
   cases hc : varB n
   ·(simp only [n1, t2, (vmA), Nat.reduceEqDiff, reduceIte, Nat.reduceAdd, Int.reduceToNat, Int.reduceLE, Int.reduceLT, Int.reduceEq, Int.reduceNe, Int.reduceAdd, Int.reduceSub, Int.reduceNeg, Nat.reduceLT, Nat.reduceLeDiff, Nat.reduceBEq, undef, (stA), Nat.reduceMul]; try simp (disch := omega) only [(vmp)])
   ·(simp only [n1, t2, (vmA), Nat.reduceEqDiff, reduceIte, Nat.reduceAdd, Int.reduceToNat, Int.reduceLE, Int.reduceLT, Int.reduceEq, Int.reduceNe, Int.reduceAdd, Int.reduceSub, Int.reduceNeg, Nat.reduceLT, Nat.reduceLeDiff, Nat.reduceBEq, undef, (stA), Nat.reduceMul]; try simp (disch := omega) only [(vmp)])
    refine ydraw T0 [] (by kernel_rfl) (by kernel_rfl) (by kernel_rfl) (by kernel_rfl) ?_
    (simp only [(vmA), Nat.reduceEqDiff, reduceIte, Nat.reduceAdd, Int.reduceToNat, Int.reduceLE, Int.reduceLT, Int.reduceEq, Int.reduceNe, Int.reduceAdd, Int.reduceSub, Int.reduceNeg, Nat.reduceLT, Nat.reduceLeDiff, Nat.reduceBEq, undef, (stA), Nat.reduceMul]; try simp (disch := omega) only [(vmp)])
    refine yNext.go (by rfl) _ rfl (parts_ok d _) ?_
    by_cases hp : partsI d = us.length
    ·(simp only [hp, tysV_len, (vmA), Nat.reduceEqDiff, reduceIte, Nat.reduceAdd, Int.reduceToNat, Int.reduceLE, Int.reduceLT, Int.reduceEq, Int.reduceNe, Int.reduceAdd, Int.reduceSub, Int.reduceNeg, Nat.reduceLT, Nat.reduceLeDiff, Nat.reduceBEq, undef, (stA), Nat.reduceMul]; try simp (disch := omega) only [(vmp)])
     refine yNext.go (by rfl) _ rfl (containsType_ok us ih hl.2.1 hl.2.2 _) ?_
     (simp only [Bool.not_not, (vmA), Nat.reduceEqDiff, reduceIte, Nat.reduceAdd, Int.reduceToNat, Int.reduceLE, Int.reduceLT, Int.reduceEq, Int.reduceNe, Int.reduceAdd, Int.reduceSub, Int.reduceNeg, Nat.reduceLT, Nat.reduceLeDiff, Nat.reduceBEq, undef, (stA), Nat.reduceMul]; try simp (disch := omega) only [(vmp)])
     try rfl
    ·(simp only [hp, tysV_len, (vmA), Nat.reduceEqDiff, reduceIte, Nat.reduceAdd, Int.reduceToNat, Int.reduceLE, Int.reduceLT, Int.reduceEq, Int.reduceNe, Int.reduceAdd, Int.reduceSub, Int.reduceNeg, Nat.reduceLT, Nat.reduceLeDiff, Nat.reduceBEq, undef, (stA), Nat.reduceMul]; try simp (disch := omega) only [(vmp)])
     try rfl
  ·have n2 : ¬ d = [118, 97, 114] := hv
   by_cases hn : n = []
   ·subst hn
    (simp only [tyV, n1, n2, (vmA), Nat.reduceEqDiff, reduceIte, Nat.reduceAdd, Int.reduceToNat, Int.reduceLE, Int.reduceLT, Int.reduceEq, Int.reduceNe, Int.reduceAdd, Int.reduceSub, Int.reduceNeg, Nat.reduceLT, Nat.reduceLeDiff, Nat.reduceBEq, undef, (stA), Nat.reduceMul]; try simp (disch := omega) only [(vmp)])
    refine ydraw T0 [] (by kernel_rfl) (by kernel_rfl) (by kernel_rfl) (by kernel_rfl) ?_
    (simp only [(vmA), Nat.reduceEqDiff, reduceIte, Nat.reduceAdd, Int.reduceToNat, Int.reduceLE, Int.reduceLT, Int.reduceEq, Int.reduceNe, Int.reduceAdd, Int.reduceSub, Int.reduceNeg, Nat.reduceLT, Nat.reduceLeDiff, Nat.reduceBEq, undef, (stA), Nat.reduceMul]; try simp (disch := omega) only [(vmp)])
    refine yNext.go (by rfl) _ rfl (parts_ok d _) ?_
    by_cases hp : partsI d = us.length
    ·(simp only [hp, tysV_len, (vmA), Nat.reduceEqDiff, reduceIte, Nat.reduceAdd, Int.reduceToNat, Int.reduceLE, Int.reduceLT, Int.reduceEq, Int.reduceNe, Int.reduceAdd, Int.reduceSub, Int.reduceNeg, Nat.reduceLT, Nat.reduceLeDiff, Nat.reduceBEq, undef, (stA), Nat.reduceMul]; try simp (disch := omega) only [(vmp)])
     refine yNext.go (by rfl) _ rfl (containsType_ok us ih hl.2.1 hl.2.2 _) ?_
     (simp only [Bool.not_not, (vmA), Nat.reduceEqDiff, reduceIte, Nat.reduceAdd, Int.reduceToNat, Int.reduceLE, Int.reduceLT, Int.reduceEq, Int.reduceNe, Int.reduceAdd, Int.reduceSub, Int.reduceNeg, Nat.reduceLT, Nat.reduceLeDiff, Nat.reduceBEq, undef, (stA), Nat.reduceMul]; try simp (disch := omega) only [(vmp)])
     try rfl
    ·(simp only [hp, tysV_len, (vmA), Nat.reduceEqDiff, reduceIte, Nat.reduceAdd, Int.reduceToNat, Int.reduceLE, Int.reduceLT, Int.reduceEq, Int.reduceNe, Int.reduceAdd, Int.reduceSub, Int.reduceNeg, Nat.reduceLT, Nat.reduceLeDiff, Nat.reduceBEq, undef, (stA), Nat.reduceMul]; try simp (disch := omega) only [(vmp)])
     try rfl
   ·(simp only [tyV, n1, n2, hn, (vmA), Nat.reduceEqDiff, reduceIte, Nat.reduceAdd, Int.reduceToNat, Int.reduceLE, Int.reduceLT, Int.reduceEq, Int.reduceNe, Int.reduceAdd, Int.reduceSub, Int.reduceNeg, Nat.reduceLT, Nat.reduceLeDiff, Nat.reduceBEq, undef, (stA), Nat.reduceMul]; try simp (disch := omega) only [(vmp)])
theorem Type_ok : ∀ (m : Nat) (t : Tr), SizeOf.sizeOf t ≤ m → TT t
 | 0, .mk d n us, h => by simp at h
 | m + 1, .mk d n us, h => Type_step d n us fun u hu => Type_ok m u (by
   have := List.sizeOf_lt_of_mem hu
   simp at h; omega)
end Go.D
namespace Go.D
open Go Go.Vm Go.Proofs Go.RowKit
def szV (s : Int × Int) : AV := .agg [i64 s.1, i64 s.2]
theorem aboveS_app : ∀ (o : Int × Int) (l : List (Int × Int)) (s : Int × Int), aboveS o (l ++ [s]) = (wr ((aboveS o l).1 + s.1), max (aboveS o l).2 (wr (s.2 + 1)))
 | o, [], s => rfl
 | o, a :: l, s => by simp only [List.cons_append, aboveS]; exact aboveS_app _ l s
set_option maxHeartbeats 4000000 in
theorem above_ok (l : List (Int × Int)) (hl : l.length ≤ 1099511627776) (σ : List Ent) : ACalls E 103 [.sl (l.map szV)] σ fun r τ => r = szV (aboveS (1, 1) l) ∧ τ = σ := by
 refine xacalls T0 .drop [] Tryz.func103 rfl (by kernel_rfl) (by kernel_rfl) (by simp [Tryz.ntmps103]) ?_
 (simp only [List.length_map, (vmA), Nat.reduceEqDiff, reduceIte, Nat.reduceAdd, Int.reduceToNat, Int.reduceLE, Int.reduceLT, Int.reduceEq, Int.reduceNe, Int.reduceAdd, Int.reduceSub, Int.reduceNeg, Nat.reduceLT, Nat.reduceLeDiff, Nat.reduceBEq, undef, (stA), Nat.reduceMul]; try simp (disch := omega) only [(vmp)])
 refine xloop (α := Nat × List Ent) T0 (fun x => [(2, .ref σ.length 0 0), (3, .ref (σ.length + 1) 0 0), (7, .sl (l.map szV)), (8, i64 l.length), (9, i64 x.1)]) (fun _ => σ)
  (fun x => .arr 89 [i64 0, i64 0] 0 0 :: .arr 89 [i64 (aboveS (1, 1) (l.take x.1)).1, i64 (aboveS (1, 1) (l.take x.1)).2] 0 0 :: x.2)
  (fun x => x.1 ≤ l.length) (fun x => l.length - x.1) (by kernel_rfl)
  ⟨(0, []), by simp, by (simp only [(vmA), Nat.reduceEqDiff, reduceIte, Nat.reduceAdd, Int.reduceToNat, Int.reduceLE, Int.reduceLT, Int.reduceEq, Int.reduceNe, Int.reduceAdd, Int.reduceSub, Int.reduceNeg, Nat.reduceLT, Nat.reduceLeDiff, Nat.reduceBEq, undef, (stA), Nat.reduceMul, Int.natCast_zero]; try simp (disch := omega) only [(vmp)]), rfl, rfl⟩ ?_
 rintro ⟨i, junk⟩ hi
 simp only at hi
 by_cases h : (i : Int) < l.length
 ·have hi' : i < l.length := by omega
  have hu : l[i]? = some l[i] := List.getElem?_eq_getElem hi'
  have hge : (l.map szV).getD i .un = szV l[i] := by simp [List.getD, hu]
  have s1 : aboveS (1, 1) (l.take (i + 1)) = (wr ((aboveS (1, 1) (l.take i)).1 + l[i].1), max (aboveS (1, 1) (l.take i)).2 (wr (l[i].2 + 1))) := by
   rw [List.take_add_one, hu]; exact aboveS_app _ _ _
  generalize l[i] = u at *
  simp only [szV] at hge
  (simp only [h, hge, List.length_map, (vmA), Nat.reduceEqDiff, reduceIte, Nat.reduceAdd, Int.reduceToNat, Int.reduceLE, Int.reduceLT, Int.reduceEq, Int.reduceNe, Int.reduceAdd, Int.reduceSub, Int.reduceNeg, Nat.reduceLT, Nat.reduceLeDiff, Nat.reduceBEq, undef, (stA), Nat.reduceMul]; try simp (disch := omega) only [(vmp)])
  exact ⟨(i + 1, junk ++ [.arr 89 [i64 u.1, i64 u.2] 0 0]), by simp only; omega, by simp only; omega, rfl, by simp only [s1, wr]⟩
 ·have hie : i = l.length := by omega
  subst hie
  (simp only [h, List.take_of_length_le (Nat.le_refl _), (vmA), Nat.reduceEqDiff, reduceIte, Nat.reduceAdd, Int.reduceToNat, Int.reduceLE, Int.reduceLT, Int.reduceEq, Int.reduceNe, Int.reduceAdd, Int.reduceSub, Int.reduceNeg, Nat.reduceLT, Nat.reduceLeDiff, Nat.reduceBEq, undef, (stA), Nat.reduceMul]; try simp (disch := omega) only [(vmp)])
  rfl
theorem Fits_ok (s : Int × Int) (σ : List Ent) : ACalls E 82 [szV s] σ fun r τ => r = boolV (fitsB s) ∧ τ = σ := by
 refine xacalls T0 .drop [] Tryz.func82 rfl (by kernel_rfl) (by kernel_rfl) (by simp [Tryz.ntmps82]) ?_
 unfold fitsB
 by_cases h : s.1 ≤ 2000
 ·(simp only [szV, h, (vmA), Nat.reduceEqDiff, reduceIte, Nat.reduceAdd, Int.reduceToNat, Int.reduceLE, Int.reduceLT, Int.reduceEq, Int.reduceNe, Int.reduceAdd, Int.reduceSub, Int.reduceNeg, Nat.reduceLT, Nat.reduceLeDiff, Nat.reduceBEq, undef, (stA), Nat.reduceMul]; try simp (disch := omega) only [(vmp)])
 ·(simp only [szV, h, (vmA), Nat.reduceEqDiff, reduceIte, Nat.reduceAdd, Int.reduceToNat, Int.reduceLE, Int.reduceLT, Int.reduceEq, Int.reduceNe, Int.reduceAdd, Int.reduceSub, Int.reduceNeg, Nat.reduceLT, Nat.reduceLeDiff, Nat.reduceBEq, undef, (stA), Nat.reduceMul]; try simp (disch := omega) only [(vmp)])
theorem sameBs_app : ∀ (a a' b b' : List Tr), a.length = a'.length → sameBs (a ++ b) (a' ++ b') = (sameBs a a' && sameBs b b')
 | [], [], b, b', _ => by simp only [List.nil_append, sameBs, Bool.true_and]
 | t :: a, t' :: a', b, b', h => by simp only [List.cons_append, sameBs, sameBs_app a a' b b' (by simpa using h), Bool.and_assoc]
set_option maxHeartbeats 4000000 in
theorem EqualFunc_ok (us us' : List Tr) (hl : us.length ≤ 9223372036854775807) (hl2 : us'.length ≤ 9223372036854775807) (f : FuncId) (caps : List AV) (hf : ∀ (u u' : Tr) (σ : List Ent), u ∈ us → u' ∈ us' → ACalls E f (tyV u :: tyV u' :: caps) σ fun r τ => r = boolV (sameB u u') ∧ τ = σ) (σ : List Ent) :
  ACalls E 112 [.sl (tysV us), .sl (tysV us'), .fn f [] caps] σ fun r τ => r = boolV (decide (us.length = us'.length) && sameBs us us') ∧ τ = σ := by
 refine xacalls T0 .drop [] Tryz.func112 rfl (by kernel_rfl) (by kernel_rfl) (by simp [Tryz.ntmps112]) ?_
 by_cases hn : (us.length : Int) = us'.length
 rotate_left
 ·have : ¬ us.length = us'.length := fun h => hn (by omega)
  (simp only [tysV_len, hn, (vmA), Nat.reduceEqDiff, reduceIte, Nat.reduceAdd, Int.reduceToNat, Int.reduceLE, Int.reduceLT, Int.reduceEq, Int.reduceNe, Int.reduceAdd, Int.reduceSub, Int.reduceNeg, Nat.reduceLT, Nat.reduceLeDiff, Nat.reduceBEq, undef, (stA), Nat.reduceMul]; try simp (disch := omega) only [(vmp)])
  simp only [this, decide_false, Bool.false_and]
 have hn' : us.length = us'.length := by omega
 (simp only [tysV_len, hn, (vmA), Nat.reduceEqDiff, reduceIte, Nat.reduceAdd, Int.reduceToNat, Int.reduceLE, Int.reduceLT, Int.reduceEq, Int.reduceNe, Int.reduceAdd, Int.reduceSub, Int.reduceNeg, Nat.reduceLT, Nat.reduceLeDiff, Nat.reduceBEq, undef, (stA), Nat.reduceMul]; try simp (disch := omega) only [(vmp)])
 refine xloop (α := Nat × List Ent) T0 (fun x => [(1, .sl (tysV us')), (2, .fn f [] caps), (15, .sl (tysV us)), (16, i64 us'.length), (17, i64 x.1)]) (fun _ => σ) (fun x => x.2)
  (fun x => x.1 ≤ us.length ∧ sameBs (us.take x.1) (us'.take x.1) = true) (fun x => us.length - x.1) (by kernel_rfl)
  ⟨(0, []), ⟨by simp, by simp only [List.take_zero, sameBs]⟩, by (simp only [(vmA), Nat.reduceEqDiff, reduceIte, Nat.reduceAdd, Int.reduceToNat, Int.reduceLE, Int.reduceLT, Int.reduceEq, Int.reduceNe, Int.reduceAdd, Int.reduceSub, Int.reduceNeg, Nat.reduceLT, Nat.reduceLeDiff, Nat.reduceBEq, undef, (stA), Nat.reduceMul, Int.natCast_zero]; try simp (disch := omega) only [(vmp)]), rfl, rfl⟩ ?_
 rintro ⟨i, junk⟩ ⟨hi, hs⟩
 simp only at hi hs
 by_cases h : (i : Int) < us'.length
 ·have hi1 : i < us.length := by omega
  have hi2 : i < us'.length := by omega
  have hu : us[i]? = some us[i] := List.getElem?_eq_getElem hi1
  have hu' : us'[i]? = some us'[i] := List.getElem?_eq_getElem hi2
  obtain ⟨s1, s2⟩ := take_split us i _ hu
  obtain ⟨s3, s4⟩ := take_split us' i _ hu'
  have hm := List.getElem_mem hi1
  have hm' := List.getElem_mem hi2
  generalize us[i] = u at *
  generalize us'[i] = u' at *
  have hlt : (us.take i).length = (us'.take i).length := by simp; omega
  have hg := tysV_get hu
  have hg' := tysV_get hu'
  have hc := fun σ' => hf u u' σ' hm hm'
  cases u with
  | mk a b cs =>
  cases u' with
  | mk a' b' cs' =>
  simp only [tyV] at hg hg' hc
  (simp only [h, hg, hg', tysV_len, hn, (vmA), Nat.reduceEqDiff, reduceIte, Nat.reduceAdd, Int.reduceToNat, Int.reduceLE, Int.reduceLT, Int.reduceEq, Int.reduceNe, Int.reduceAdd, Int.reduceSub, Int.reduceNeg, Nat.reduceLT, Nat.reduceLeDiff, Nat.reduceBEq, undef, (stA), Nat.reduceMul]; try simp (disch := omega) only [(vmp)])
  refine xWait.go (hc _) ?_
  cases hb : sameB (.mk a b cs) (.mk a' b' cs')
  ·(simp only [(vmA), Nat.reduceEqDiff, reduceIte, Nat.reduceAdd, Int.reduceToNat, Int.reduceLE, Int.reduceLT, Int.reduceEq, Int.reduceNe, Int.reduceAdd, Int.reduceSub, Int.reduceNeg, Nat.reduceLT, Nat.reduceLeDiff, Nat.reduceBEq, undef, (stA), Nat.reduceMul]; try simp (disch := omega) only [(vmp)])
   rw [s2, s4, sameBs_app _ _ _ _ hlt]
   simp only [sameBs, hb, Bool.false_and, Bool.and_false]
  ·(simp only [(vmA), Nat.reduceEqDiff, reduceIte, Nat.reduceAdd, Int.reduceToNat, Int.reduceLE, Int.reduceLT, Int.reduceEq, Int.reduceNe, Int.reduceAdd, Int.reduceSub, Int.reduceNeg, Nat.reduceLT, Nat.reduceLeDiff, Nat.reduceBEq, undef, (stA), Nat.reduceMul]; try simp (disch := omega) only [(vmp)])
   refine ⟨(i + 1, _), ⟨by simp only; omega, ?_⟩, by simp only; omega, rfl, rfl⟩
   simp only
   rw [s1, s3, sameBs_app _ _ _ _ hlt, hs]
   simp only [sameBs, hb, Bool.and_self]
 ·have hie : i = us.length := by omega
  subst hie
  (simp only [h, (vmA), Nat.reduceEqDiff, reduceIte, Nat.reduceAdd, Int.reduceToNat, Int.reduceLE, Int.reduceLT, Int.reduceEq, Int.reduceNe, Int.reduceAdd, Int.reduceSub, Int.reduceNeg, Nat.reduceLT, Nat.reduceLeDiff, Nat.reduceBEq, undef, (stA), Nat.reduceMul]; try simp (disch := omega) only [(vmp)])
  rw [List.take_of_length_le (Nat.le_refl _), hn', List.take_of_length_le (Nat.le_refl _)] at hs
  rw [hs]; simp [hn']
def ST (t : Tr) : Prop := ∀ (u : Tr) (σ : List Ent), lenT t → lenT u → ACalls E 83 [tyV t, tyV u] σ fun r τ => r = boolV (sameB t u) ∧ τ = σ
set_option maxHeartbeats 4000000 in
theorem SameType_step (d n : List UInt8) (us : List Tr) (ih : ∀ u ∈ us, ST u) : ST (.mk d n us) := by
 intro u σ hl hl2
 cases u with
 | mk d' n' us' =>
 simp only [lenT] at hl hl2
 refine xacalls T0 .drop [] Tryz.func83 rfl (by kernel_rfl) (by kernel_rfl) (by simp [Tryz.ntmps83]) ?_
 simp only [sameB]
 by_cases hd : d = d'
 rotate_left
 ·(simp only [tyV, hd, (vmA), Nat.reduceEqDiff, reduceIte, Nat.reduceAdd, Int.reduceToNat, Int.reduceLE, Int.reduceLT, Int.reduceEq, Int.reduceNe, Int.reduceAdd, Int.reduceSub, Int.reduceNeg, Nat.reduceLT, Nat.reduceLeDiff, Nat.reduceBEq, undef, (stA), Nat.reduceMul]; try simp (disch := omega) only [(vmp)])
 by_cases hn : n = n'
 rotate_left
 ·(simp only [tyV, hd, hn, (vmA), Nat.reduceEqDiff, reduceIte, Nat.reduceAdd, Int.reduceToNat, Int.reduceLE, Int.reduceLT, Int.reduceEq, Int.reduceNe, Int.reduceAdd, Int.reduceSub, Int.reduceNeg, Nat.reduceLT, Nat.reduceLeDiff, Nat.reduceBEq, undef, (stA), Nat.reduceMul]; try simp (disch := omega) only [(vmp)])
 ·(simp only [tyV, hd, hn, (vmA), Nat.reduceEqDiff, reduceIte, Nat.reduceAdd, Int.reduceToNat, Int.reduceLE, Int.reduceLT, Int.reduceEq, Int.reduceNe, Int.reduceAdd, Int.reduceSub, Int.reduceNeg, Nat.reduceLT, Nat.reduceLeDiff, Nat.reduceBEq, undef, (stA), Nat.reduceMul]; try simp (disch := omega) only [(vmp)])
  refine xWait.go (EqualFunc_ok us us' hl.2.1 hl2.2.1 83 [] (fun u u' σ' h h' => ih u h u' σ' (lenTs_mem hl.2.2 h) (lenTs_mem hl2.2.2 h')) _) ?_
  (simp only [(vmA), Nat.reduceEqDiff, reduceIte, Nat.reduceAdd, Int.reduceToNat, Int.reduceLE, Int.reduceLT, Int.reduceEq, Int.reduceNe, Int.reduceAdd, Int.reduceSub, Int.reduceNeg, Nat.reduceLT, Nat.reduceLeDiff, Nat.reduceBEq, undef, (stA), Nat.reduceMul]; try simp (disch := omega) only [(vmp)])
  try rfl
theorem SameType_ok : ∀ (m : Nat) (t : Tr), SizeOf.sizeOf t ≤ m → ST t
 | 0, .mk d n us, h => by simp at h
 | m + 1, .mk d n us, h => SameType_step d n us fun u hu => SameType_ok m u (by
   have := List.sizeOf_lt_of_mem hu
   simp at h; omega)
end Go.D
namespace Go.D
open Go Go.Vm Go.Proofs Go.RowKit
def okT (t : Tr) : Prop := lenT t ∧ typeB conB t = true
theorem parts_le (d : List UInt8) : partsI d ≤ 2 := by
 unfold partsI; split
 ·omega
 ·split
  ·omega
  ·split <;> omega
theorem okT_down (d n : List UInt8) (us : List Tr) (h : okT (.mk d n us)) : us.length ≤ 2 ∧ ∀ u ∈ us, okT u := by
 obtain ⟨h1, h2⟩ := h
 simp only [lenT] at h1
 simp only [typeB, Bool.and_eq_true, decide_eq_true_eq] at h2
 have hp := parts_le d
 refine ⟨by have := h2.2.2.2.1; omega, fun u hu => ⟨lenTs_mem h1.2.2 hu, ?_⟩⟩
 have h3 := h2.2.2.2.2
 clear h1 h2
 induction us with
 | nil => cases hu
 | cons t ts ih =>
  simp only [typeBs, Bool.and_eq_true] at h3
  rcases List.mem_cons.1 hu with rfl | hu
  ·exact h3.1
  ·exact ih hu h3.2
def OT (t : Tr) : Prop := ∀ σ : List Ent, okT t → ACalls E 72 [tyV t] σ fun r τ => r = szV (ofT t) ∧ τ = σ
theorem ofTs_map : ∀ l : List Tr, ofTs l = l.map ofT
 | [] => rfl
 | t :: ts => by rw [ofTs, ofTs_map ts]; rfl
def szCells (s : Int × Int) : List AV := [i64 s.1, i64 s.2]
def rowS (id : Nat) (acc : List (Int × Int)) : AV := match acc with
 | [] => .v (.slice none 0 0)
 | _ :: r => .rsl id r.length 0 (r.length + 1) 2
theorem szCells_len (l : List (Int × Int)) : (l.flatMap szCells).length = l.length * 2 := by
 induction l with
 | nil => rfl
 | cons a r ih => rw [List.flatMap_cons, List.length_append, ih]; simp only [szCells, List.length_cons, List.length_nil]; omega
theorem szCells_at : ∀ (l : List (Int × Int)) (i : Nat) (u : Int × Int), l[i]? = some u → ((l.flatMap szCells).drop (i * 2)).take 2 = szCells u
 | a :: r, 0, u, h => by simp at h; subst h; rfl
 | a :: r, i + 1, u, h => by
  have : (i + 1) * 2 = (szCells a).length + i * 2 := by simp only [szCells, List.length_cons, List.length_nil]; omega
  rw [List.flatMap_cons, this, List.drop_append, List.drop_of_length_le (by omega), List.nil_append, Nat.add_sub_cancel_left]
  exact szCells_at r i u (by simpa using h)
set_option maxHeartbeats 4000000 in
theorem aboveRow_ok (l : List (Int × Int)) (hl : l.length ≤ 1099511627776) (σ : List Ent) (id ver imm : Nat) (hid : σ[id]? = some (.arr 89 (l.flatMap szCells) ver imm)) :
  ACalls E 103 [.rsl id ver 0 l.length 2] σ fun r τ => r = szV (aboveS (1, 1) l) ∧ τ = σ := by
 have gi : ∀ r, sget σ r id = some (.arr 89 (l.flatMap szCells) ver imm) := fun r => by unfold sget; rw [if_pos (lt_of_get hid), hid]
 have hfl := szCells_len l
 refine xacalls T0 .drop [] Tryz.func103 rfl (by kernel_rfl) (by kernel_rfl) (by simp [Tryz.ntmps103]) ?_
 (simp only [(vmA), Nat.reduceEqDiff, reduceIte, Nat.reduceAdd, Int.reduceToNat, Int.reduceLE, Int.reduceLT, Int.reduceEq, Int.reduceNe, Int.reduceAdd, Int.reduceSub, Int.reduceNeg, Nat.reduceLT, Nat.reduceLeDiff, Nat.reduceBEq, undef, (stA), Nat.reduceMul]; try simp (disch := omega) only [(vmp)])
 refine xloop (α := Nat × List Ent) T0 (fun x => [(2, .ref σ.length 0 0), (3, .ref (σ.length + 1) 0 0), (7, .rsl id ver 0 l.length 2), (8, i64 l.length), (9, i64 x.1)]) (fun _ => σ)
  (fun x => .arr 89 [i64 0, i64 0] 0 0 :: .arr 89 [i64 (aboveS (1, 1) (l.take x.1)).1, i64 (aboveS (1, 1) (l.take x.1)).2] 0 0 :: x.2)
  (fun x => x.1 ≤ l.length) (fun x => l.length - x.1) (by kernel_rfl)
  ⟨(0, []), by simp, by (simp only [(vmA), Nat.reduceEqDiff, reduceIte, Nat.reduceAdd, Int.reduceToNat, Int.reduceLE, Int.reduceLT, Int.reduceEq, Int.reduceNe, Int.reduceAdd, Int.reduceSub, Int.reduceNeg, Nat.reduceLT, Nat.reduceLeDiff, Nat.reduceBEq, undef, (stA), Nat.reduceMul, Int.natCast_zero]; try simp (disch := omega) only [(vmp)]), rfl, rfl⟩ ?_
 rintro ⟨i, junk⟩ hi
 simp only at hi
 by_cases h : (i : Int) < l.length
 ·have hi' : i < l.length := by omega
  have hu : l[i]? = some l[i] := List.getElem?_eq_getElem hi'
  have hat := szCells_at l i _ hu
  have s1 : aboveS (1, 1) (l.take (i + 1)) = (wr ((aboveS (1, 1) (l.take i)).1 + l[i].1), max (aboveS (1, 1) (l.take i)).2 (wr (l[i].2 + 1))) := by
   rw [List.take_add_one, hu]; exact aboveS_app _ _ _
  generalize l[i] = u at *
  simp only [szCells] at hat
  (simp only [h, gi, hat, (vmA), Nat.reduceEqDiff, reduceIte, Nat.reduceAdd, Int.reduceToNat, Int.reduceLE, Int.reduceLT, Int.reduceEq, Int.reduceNe, Int.reduceAdd, Int.reduceSub, Int.reduceNeg, Nat.reduceLT, Nat.reduceLeDiff, Nat.reduceBEq, undef, (stA), Nat.reduceMul]; try simp (disch := omega) only [(vmp)])
  refine ⟨by omega, ?_⟩
  exact ⟨(i + 1, junk ++ [.arr 89 [i64 u.1, i64 u.2] 0 0]), by simp only; omega, by simp only; omega, rfl, by simp only [s1, wr]⟩
 ·have hie : i = l.length := by omega
  subst hie
  (simp only [h, List.take_of_length_le (Nat.le_refl _), (vmA), Nat.reduceEqDiff, reduceIte, Nat.reduceAdd, Int.reduceToNat, Int.reduceLE, Int.reduceLT, Int.reduceEq, Int.reduceNe, Int.reduceAdd, Int.reduceSub, Int.reduceNeg, Nat.reduceLT, Nat.reduceLeDiff, Nat.reduceBEq, undef, (stA), Nat.reduceMul]; try simp (disch := omega) only [(vmp)])
  rfl
theorem aboveS_ok (acc : List (Int × Int)) (hl : acc.length ≤ 1099511627776) (σ : List Ent) (id : Nat) (h : acc ≠ [] → σ[id]? = some (.arr 89 (acc.flatMap szCells) (acc.length - 1) 0)) :
  ACalls E 103 [rowS id acc] σ fun r τ => r = szV (aboveS (1, 1) acc) ∧ τ = σ := by
 rcases acc with _ | ⟨a, r⟩
 ·exact ACalls.wk (.cons .nil .nil) (above_ok [] (by simp) σ)
 ·exact aboveRow_ok (a :: r) hl σ id _ _ (h (by simp))
set_option maxHeartbeats 4000000 in
theorem OfType_step (d n : List UInt8) (us : List Tr) (ih : ∀ u ∈ us, OT u) : OT (.mk d n us) := by
 intro σ hl
 obtain ⟨hfew, hdn⟩ := okT_down d n us hl
 refine xacalls T0 .drop [] Tryz.func72 rfl (by kernel_rfl) (by kernel_rfl) (by simp [Tryz.ntmps72]) ?_
 (simp only [tyV, tysV_len, (vmA), Nat.reduceEqDiff, reduceIte, Nat.reduceAdd, Int.reduceToNat, Int.reduceLE, Int.reduceLT, Int.reduceEq, Int.reduceNe, Int.reduceAdd, Int.reduceSub, Int.reduceNeg, Nat.reduceLT, Nat.reduceLeDiff, Nat.reduceBEq, undef, (stA), Nat.reduceMul]; try simp (disch := omega) only [(vmp)])
 refine xloop (α := Nat × List Ent × Nat) T0 (fun x => [(2, .ref (σ.length + 1) 0 0), (3, rowS (σ.length + (x.2.2 + 2)) (ofTs (us.take x.1))), (7, .sl (tysV us)), (8, i64 us.length), (9, i64 x.1)]) (fun _ => σ)
  (fun x => .arr 24 [.str d, .str n, .sl (tysV us)] 0 0 :: .arr 89 [i64 0, i64 0] 0 0 :: x.2.1)
  (fun x => x.1 ≤ us.length ∧ (ofTs (us.take x.1) ≠ [] → x.2.1[x.2.2]? = some (.arr 89 ((ofTs (us.take x.1)).flatMap szCells) ((ofTs (us.take x.1)).length - 1) 0))) (fun x => us.length - x.1) (by kernel_rfl)
  ⟨(0, [], 0), ⟨by simp, by simp [ofTs]⟩, by (simp only [List.take_zero, ofTs, rowS, (vmA), Nat.reduceEqDiff, reduceIte, Nat.reduceAdd, Int.reduceToNat, Int.reduceLE, Int.reduceLT, Int.reduceEq, Int.reduceNe, Int.reduceAdd, Int.reduceSub, Int.reduceNeg, Nat.reduceLT, Nat.reduceLeDiff, Nat.reduceBEq, undef, (stA), Nat.reduceMul, Int.natCast_zero]; try simp (disch := omega) only [(vmp)]), rfl, rfl⟩ ?_
 rintro ⟨i, junk, rid⟩ ⟨hi, hrow⟩
 simp only at hi hrow
 have hal : (ofTs (us.take i)).length = i := by rw [ofTs_map]; simp; omega
 by_cases h : (i : Int) < us.length
 ·have hi' : i < us.length := by omega
  have hu : us[i]? = some us[i] := List.getElem?_eq_getElem hi'
  obtain ⟨s1, s2⟩ := take_split us i _ hu
  have hmem : us[i] ∈ us := List.getElem_mem hi'
  generalize us[i] = u at *
  have hg := tysV_get hu
  have hc := fun σ' => ih u hmem σ' (hdn u hmem)
  have hnext : ofTs (us.take (i + 1)) = ofTs (us.take i) ++ [ofT u] := by rw [s1, ofTs_map, ofTs_map]; simp
  rcases hr : ofT u with ⟨a, b⟩
  rw [hr] at hnext
  simp only [hr, szV] at hc
  cases u with
  | mk d2 n2 us2 =>
  simp only [tyV] at hg hc
  (simp only [h, hg, tysV_len, (vmA), Nat.reduceEqDiff, reduceIte, Nat.reduceAdd, Int.reduceToNat, Int.reduceLE, Int.reduceLT, Int.reduceEq, Int.reduceNe, Int.reduceAdd, Int.reduceSub, Int.reduceNeg, Nat.reduceLT, Nat.reduceLeDiff, Nat.reduceBEq, undef, (stA), Nat.reduceMul]; try simp (disch := omega) only [(vmp)])
  refine xWait.go (hc _) ?_
  generalize hacc : ofTs (us.take i) = acc at *
  rcases acc with _ | ⟨b0, r0⟩
  ·(simp only [rowS, (vmA), Nat.reduceEqDiff, reduceIte, Nat.reduceAdd, Int.reduceToNat, Int.reduceLE, Int.reduceLT, Int.reduceEq, Int.reduceNe, Int.reduceAdd, Int.reduceSub, Int.reduceNeg, Nat.reduceLT, Nat.reduceLeDiff, Nat.reduceBEq, undef, (stA), Nat.reduceMul]; try simp (disch := omega) only [(vmp)])
   refine ⟨by unfold maxRoom; omega, (i + 1, junk ++ [.arr 24 [.str d2, .str n2, .sl (tysV us2)] 0 0, .arr 89 [i64 a, i64 b] 0 0], junk.length + 1), ⟨by simp only; omega, fun _ => ?_⟩, by simp only; omega, ?_, rfl⟩
   ·simp only [hnext]; simp [szCells]
   ·simp only [hnext]; first | trivial | exact ⟨rfl, rfl⟩ | (constructor <;> first | rfl | trivial)
  ·have h5 : ∀ e, (junk ++ [e])[rid]? = some (.arr 89 ((b0 :: r0).flatMap szCells) ((b0 :: r0).length - 1) 0) := fun e => get_old (hrow (by simp))
   have hfl := szCells_len (b0 :: r0)
   simp only [List.length_cons] at hal hfl
   (simp only [rowS, h5, (vmA), Nat.reduceEqDiff, reduceIte, Nat.reduceAdd, Int.reduceToNat, Int.reduceLE, Int.reduceLT, Int.reduceEq, Int.reduceNe, Int.reduceAdd, Int.reduceSub, Int.reduceNeg, Nat.reduceLT, Nat.reduceLeDiff, Nat.reduceBEq, undef, (stA), Nat.reduceMul]; try simp (disch := omega) only [(vmp)])
   have e0 : (szCells b0).length = 2 := rfl
   have hf0 : (List.flatMap szCells r0).length = r0.length * 2 := szCells_len r0
   refine ⟨⟨by omega, by omega, by omega, by unfold maxRoom; omega, by unfold maxRoom; omega⟩, ?_⟩
   refine ⟨(i + 1, (junk ++ [Ent.arr 24 [AV.str d2, AV.str n2, AV.sl (tysV us2)] 0 0]).set rid (Ent.arr 89 (szCells b0 ++ (List.flatMap szCells r0 ++ [i64 a, i64 b])) (r0.length + 1 - 1 + 1) 0), rid), ⟨by simp only; omega, fun _ => ?_⟩, by simp only; omega, ?_, rfl⟩
   ·simp only [hnext]
    rw [get_set_self (h5 _)]
    simp [szCells]
   ·simp only [hnext, List.cons_append, List.length_append, List.length_cons, List.length_nil]; first | trivial | exact ⟨rfl, rfl⟩ | (constructor <;> first | rfl | trivial)
 ·have hie : i = us.length := by omega
  subst hie
  rw [List.take_of_length_le (Nat.le_refl _)] at hrow
  (simp only [h, List.take_of_length_le (Nat.le_refl _), (vmA), Nat.reduceEqDiff, reduceIte, Nat.reduceAdd, Int.reduceToNat, Int.reduceLE, Int.reduceLT, Int.reduceEq, Int.reduceNe, Int.reduceAdd, Int.reduceSub, Int.reduceNeg, Nat.reduceLT, Nat.reduceLeDiff, Nat.reduceBEq, undef, (stA), Nat.reduceMul]; try simp (disch := omega) only [(vmp)])
  refine xWait.go (aboveS_ok (ofTs us) (by rw [ofTs_map, List.length_map]; omega) _ _ fun hne => ?_) ?_
  ·have := hrow hne
   rw [List.getElem?_append_right (by omega), Nat.add_sub_cancel_left]
   simpa using this
  ·(simp only [szV, (vmA), Nat.reduceEqDiff, reduceIte, Nat.reduceAdd, Int.reduceToNat, Int.reduceLE, Int.reduceLT, Int.reduceEq, Int.reduceNe, Int.reduceAdd, Int.reduceSub, Int.reduceNeg, Nat.reduceLT, Nat.reduceLeDiff, Nat.reduceBEq, undef, (stA), Nat.reduceMul]; try simp (disch := omega) only [(vmp)])
   simp only [ofT]
   try rfl
theorem OfType_ok : ∀ (m : Nat) (t : Tr), SizeOf.sizeOf t ≤ m → OT t
 | 0, .mk d n us, h => by simp at h
 | m + 1, .mk d n us, h => OfType_step d n us fun u hu => OfType_ok m u (by
   have := List.sizeOf_lt_of_mem hu
   simp at h; omega)
theorem ValidType_ok (t : Tr) (hl : lenT t) (σ : List Ent) : ACalls E 44 [tyV t] σ fun r τ => r = boolV (validT conB t) ∧ τ = σ := by
 have h1 := fun σ' => Type_ok _ t (Nat.le_refl _) σ' hl
 have h2 := fun σ' (h : typeB conB t = true) => OfType_ok _ t (Nat.le_refl _) σ' ⟨hl, h⟩
 have h3 := fun σ' => Fits_ok (ofT t) σ'
 refine xacalls T0 .drop [] Tryz.func44 rfl (by kernel_rfl) (by kernel_rfl) (by simp [Tryz.ntmps44]) ?_
 unfold validT
 generalize ofT t = sz at *
 generalize typeB conB t = tb at *
 rcases sz with ⟨x, y⟩
 cases t with
 | mk d n us =>
 simp only [tyV] at h1 h2
 simp only [szV] at h2 h3
 (simp only [tyV, (vmA), Nat.reduceEqDiff, reduceIte, Nat.reduceAdd, Int.reduceToNat, Int.reduceLE, Int.reduceLT, Int.reduceEq, Int.reduceNe, Int.reduceAdd, Int.reduceSub, Int.reduceNeg, Nat.reduceLT, Nat.reduceLeDiff, Nat.reduceBEq, undef, (stA), Nat.reduceMul]; try simp (disch := omega) only [(vmp)])
 refine xWait.go (h1 _) ?_
 cases tb
 ·(simp only [(vmA), Nat.reduceEqDiff, reduceIte, Nat.reduceAdd, Int.reduceToNat, Int.reduceLE, Int.reduceLT, Int.reduceEq, Int.reduceNe, Int.reduceAdd, Int.reduceSub, Int.reduceNeg, Nat.reduceLT, Nat.reduceLeDiff, Nat.reduceBEq, undef, (stA), Nat.reduceMul]; try simp (disch := omega) only [(vmp)])
  try rfl
 ·(simp only [(vmA), Nat.reduceEqDiff, reduceIte, Nat.reduceAdd, Int.reduceToNat, Int.reduceLE, Int.reduceLT, Int.reduceEq, Int.reduceNe, Int.reduceAdd, Int.reduceSub, Int.reduceNeg, Nat.reduceLT, Nat.reduceLeDiff, Nat.reduceBEq, undef, (stA), Nat.reduceMul]; try simp (disch := omega) only [(vmp)])
  refine xWait.go (h2 _ rfl) ?_
  (simp only [(vmA), Nat.reduceEqDiff, reduceIte, Nat.reduceAdd, Int.reduceToNat, Int.reduceLE, Int.reduceLT, Int.reduceEq, Int.reduceNe, Int.reduceAdd, Int.reduceSub, Int.reduceNeg, Nat.reduceLT, Nat.reduceLeDiff, Nat.reduceBEq, undef, (stA), Nat.reduceMul]; try simp (disch := omega) only [(vmp)])
  refine xWait.go (h3 _) ?_
  (simp only [Bool.true_and, (vmA), Nat.reduceEqDiff, reduceIte, Nat.reduceAdd, Int.reduceToNat, Int.reduceLE, Int.reduceLT, Int.reduceEq, Int.reduceNe, Int.reduceAdd, Int.reduceSub, Int.reduceNeg, Nat.reduceLT, Nat.reduceLeDiff, Nat.reduceBEq, undef, (stA), Nat.reduceMul]; try simp (disch := omega) only [(vmp)])
  try rfl
end Go.D
set_option linter.unnecessarySimpa false
namespace Go.D
open Go Go.Vm Go.Proofs Go.RowKit Go.Sort
mutual
def foldT {α : Type} (step : α → Tr → α) : Tr → α → α
 | .mk d n us, a => foldTs step us (step a (.mk d n us))
def foldTs {α : Type} (step : α → Tr → α) : List Tr → α → α
 | [], a => a
 | t :: ts, a => foldTs step ts (foldT step t a)
end
theorem foldTs_app {α : Type} (step : α → Tr → α) : ∀ (l l' : List Tr) (a : α), foldTs step (l ++ l') a = foldTs step l' (foldTs step l a)
 | [], l', a => rfl
 | t :: l, l', a => by simp only [List.cons_append, foldTs, foldTs_app step l l']
structure Mv (c w : Nat) (τ τ' : List Ent) (w' : Nat) : Prop where
 row : w' = w ∨ τ.length ≤ w'
 len : τ.length ≤ τ'.length
 old : ∀ id, id < τ.length → id ≠ c → id ≠ w → τ'[id]? = τ[id]?
theorem Mv.refl (c w : Nat) (τ : List Ent) : Mv c w τ τ w := ⟨.inl rfl, Nat.le_refl _, fun _ _ _ _ => rfl⟩
theorem Mv.trans {c w w' w2 : Nat} {τ τ' τ2 : List Ent} (h : Mv c w τ τ' w') (h2 : Mv c w' τ' τ2 w2) : Mv c w τ τ2 w2 := by
 obtain ⟨a1, a2, a3⟩ := h
 obtain ⟨b1, b2, b3⟩ := h2
 refine ⟨?_, by omega, fun id h1 h3 h4 => ?_⟩
 ·rcases b1 with rfl | b1
  ·exact a1
  ·exact .inr (by omega)
 ·rw [b3 id (by omega) h3 (by rcases a1 with rfl | a1 <;> omega), a3 id h1 h3 h4]
theorem Mv.push {c w w' : Nat} {τ τ' l : List Ent} (h : Mv c w (τ ++ l) τ' w') : Mv c w τ τ' w' := by
 obtain ⟨a1, a2, a3⟩ := h
 simp only [List.length_append] at a1 a2 a3
 refine ⟨a1.imp id (by omega), by omega, fun id h1 h3 h4 => ?_⟩
 rw [a3 id (by omega) h3 h4, List.getElem?_append_left h1]
def StepF (c : Nat) {α : Type} (St : α → Nat → List Ent → Prop) (step : α → Tr → α) (P : Tr → Prop) (f : FuncId) (caps : List AV) : Prop :=
 ∀ (a : α) (w : Nat) (u : Tr) (τ : List Ent), P u → St a w τ → ACalls E f (tyV u :: caps) τ fun r τ' => r = .tup [] ∧ ∃ w', St (step a u) w' τ' ∧ Mv c w τ τ' w'
def ET (c : Nat) (f : FuncId) (caps : List AV) {α : Type} (St : α → Nat → List Ent → Prop) (step : α → Tr → α) (t : Tr) : Prop :=
 ∀ (a : α) (w : Nat) (τ : List Ent), St a w τ → ACalls E 67 [tyV t, .fn f [] caps] τ fun r τ' => r = .tup [] ∧ ∃ w', St (foldT step t a) w' τ' ∧ Mv c w τ τ' w'
set_option maxHeartbeats 4000000 in
theorem each_step (c : Nat) (f : FuncId) (caps : List AV) {α : Type} (St : α → Nat → List Ent → Prop) (step : α → Tr → α) (hL : ∀ a w τ l, St a w τ → St a w (τ ++ l)) (hlt : ∀ a w τ, St a w τ → c < τ.length ∧ w < τ.length) (P : Tr → Prop)
  (hf : StepF c St step P f caps) (d n : List UInt8) (us : List Tr) (hus : us.length ≤ 2) (hP : P (.mk d n us)) (ih : ∀ u ∈ us, ET c f caps St step u) : ET c f caps St step (.mk d n us) := by
 intro a w τ ha
 refine xacalls T0 .stay [] Tryz.func67 rfl (by kernel_rfl) (by kernel_rfl) (by simp [Tryz.ntmps67]) ?_
 (simp only [tyV, tysV_len, (vmA), Nat.reduceEqDiff, reduceIte, Nat.reduceAdd, Int.reduceToNat, Int.reduceLE, Int.reduceLT, Int.reduceEq, Int.reduceNe, Int.reduceAdd, Int.reduceSub, Int.reduceNeg, Nat.reduceLT, Nat.reduceLeDiff, Nat.reduceBEq, undef, (stA), Nat.reduceMul]; try simp (disch := omega) only [(vmp)])
 have hc := fun L => hf a w _ (τ ++ L) hP (hL _ _ _ L ha)
 simp only [tyV] at hc
 refine xWait.of (hc _) ?_
 rintro r τ1 ⟨rfl, w1, h1, h2⟩
 obtain ⟨hc0, hw0⟩ := hlt _ _ _ ha
 have hbox : τ1[τ.length]? = some (.arr 24 [.str d, .str n, .sl (tysV us)] 0 0) := by
  rw [h2.old _ (by simp) (by omega) (by omega), List.getElem?_append_right (Nat.le_refl _), Nat.sub_self]; rfl
 have h3 := h2.push
 have hlen := h3.len
 generalize hG : List.take τ.length τ1 = G
 generalize hLL : List.drop τ.length τ1 = L
 have hGL : τ1 = G ++ L := by rw [← hG, ← hLL, List.take_append_drop]
 have hGn : τ.length = G.length := by rw [← hG, List.length_take]; omega
 subst hGL
 rw [hGn, List.getElem?_append_right (Nat.le_refl _), Nat.sub_self] at hbox
 rw [hGn]
 obtain ⟨L', rfl⟩ : ∃ L', L = .arr 24 [.str d, .str n, .sl (tysV us)] 0 0 :: L' := by
  cases L with
  | nil => cases hbox
  | cons x r => simp at hbox; exact ⟨r, by rw [hbox]⟩
 clear hG hLL
 (simp only [tysV_len, (vmA), Nat.reduceEqDiff, reduceIte, Nat.reduceAdd, Int.reduceToNat, Int.reduceLE, Int.reduceLT, Int.reduceEq, Int.reduceNe, Int.reduceAdd, Int.reduceSub, Int.reduceNeg, Nat.reduceLT, Nat.reduceLeDiff, Nat.reduceBEq, undef, (stA), Nat.reduceMul]; try simp (disch := omega) only [(vmp)])
 have hst : foldT step (.mk d n us) a = foldTs step us (step a (.mk d n us)) := by simp only [foldT]
 rw [hst]
 generalize step a (.mk d n us) = a1 at *
 refine xloop (α := Nat × Nat × List Ent × List Ent) T0 (fun x => [(1, .fn f [] caps), (10, .sl (tysV us)), (11, i64 us.length), (12, i64 x.1)]) (fun x => x.2.2.1) (fun x => x.2.2.2)
  (fun x => x.1 ≤ us.length ∧ St (foldTs step (us.take x.1) a1) x.2.1 (x.2.2.1 ++ x.2.2.2) ∧ Mv c w τ (x.2.2.1 ++ x.2.2.2) x.2.1 ∧ τ.length = x.2.2.1.length) (fun x => us.length - x.1) (by kernel_rfl)
  ⟨(0, w1, G, _), ⟨by simp, by simpa only [List.take_zero, foldTs] using h1, h3, hGn⟩, by (simp only [(vmA), Nat.reduceEqDiff, reduceIte, Nat.reduceAdd, Int.reduceToNat, Int.reduceLE, Int.reduceLT, Int.reduceEq, Int.reduceNe, Int.reduceAdd, Int.reduceSub, Int.reduceNeg, Nat.reduceLT, Nat.reduceLeDiff, Nat.reduceBEq, undef, (stA), Nat.reduceMul, Int.natCast_zero]; try simp (disch := omega) only [(vmp)]), rfl, rfl⟩ ?_
 clear h1 h2 h3 hlen hbox hGn hc ha
 rintro ⟨i, wi, G, L⟩ ⟨hi, h1, h3, hGn⟩
 simp only at hi h1 h3 hGn
 by_cases h : (i : Int) < us.length
 ·have hi' : i < us.length := by omega
  have hu : us[i]? = some us[i] := List.getElem?_eq_getElem hi'
  have s1 : us.take (i + 1) = us.take i ++ [us[i]] := by rw [List.take_add_one, hu]; rfl
  have hmem : us[i] ∈ us := List.getElem_mem hi'
  generalize us[i] = u at *
  have hg := tysV_get hu
  have hc := fun l => ih u hmem _ wi (G ++ L ++ l) (hL _ _ _ l h1)
  cases u with
  | mk d2 n2 us2 =>
  simp only [tyV] at hg hc
  (simp only [h, hg, tysV_len, (vmA), Nat.reduceEqDiff, reduceIte, Nat.reduceAdd, Int.reduceToNat, Int.reduceLE, Int.reduceLT, Int.reduceEq, Int.reduceNe, Int.reduceAdd, Int.reduceSub, Int.reduceNeg, Nat.reduceLT, Nat.reduceLeDiff, Nat.reduceBEq, undef, (stA), Nat.reduceMul]; try simp (disch := omega) only [(vmp)])
  rw [← List.append_assoc]
  refine xWait.of (hc _) ?_
  rintro r τ1 ⟨rfl, w2, q1, q2⟩
  have q3 := h3.trans q2.push
  have hlen := q3.len
  generalize hG1 : List.take G.length τ1 = G1
  generalize hL1 : List.drop G.length τ1 = L1
  have hGL : τ1 = G1 ++ L1 := by rw [← hG1, ← hL1, List.take_append_drop]
  have hGn1 : τ.length = G1.length := by rw [← hG1, List.length_take]; omega
  subst hGL
  (simp only [(vmA), Nat.reduceEqDiff, reduceIte, Nat.reduceAdd, Int.reduceToNat, Int.reduceLE, Int.reduceLT, Int.reduceEq, Int.reduceNe, Int.reduceAdd, Int.reduceSub, Int.reduceNeg, Nat.reduceLT, Nat.reduceLeDiff, Nat.reduceBEq, undef, (stA), Nat.reduceMul]; try simp (disch := omega) only [(vmp)])
  refine ⟨(i + 1, w2, G1, L1), ⟨by simp only; omega, ?_, q3, hGn1⟩, by simp only; omega, ?_, rfl, rfl⟩
  ·simp only
   rw [s1, foldTs_app]; simpa only [foldTs] using q1
  ·rfl
 ·have hie : i = us.length := by omega
  subst hie
  rw [List.take_of_length_le (Nat.le_refl _)] at h1
  (simp only [h, (vmA), Nat.reduceEqDiff, reduceIte, Nat.reduceAdd, Int.reduceToNat, Int.reduceLE, Int.reduceLT, Int.reduceEq, Int.reduceNe, Int.reduceAdd, Int.reduceSub, Int.reduceNeg, Nat.reduceLT, Nat.reduceLeDiff, Nat.reduceBEq, undef, (stA), Nat.reduceMul]; try simp (disch := omega) only [(vmp)])
  exact ⟨wi, h1, h3⟩
theorem each_ok (c : Nat) (f : FuncId) (caps : List AV) {α : Type} (St : α → Nat → List Ent → Prop) (step : α → Tr → α) (hL : ∀ a w τ l, St a w τ → St a w (τ ++ l)) (hlt : ∀ a w τ, St a w τ → c < τ.length ∧ w < τ.length) (P : Tr → Prop)
  (hf : StepF c St step P f caps) (hdown : ∀ d n us, P (.mk d n us) → us.length ≤ 2 ∧ ∀ u ∈ us, P u) : ∀ (m : Nat) (t : Tr), SizeOf.sizeOf t ≤ m → P t → ET c f caps St step t
 | 0, .mk d n us, h, _ => by simp at h
 | m + 1, .mk d n us, h, hP => each_step c f caps St step hL hlt P hf d n us (hdown d n us hP).1 hP fun u hu => each_ok c f caps St step hL hlt P hf hdown m u (by
   have := List.sizeOf_lt_of_mem hu
   simp at h; omega) ((hdown d n us hP).2 u hu)
end Go.D
namespace Go.D
open Go Go.Vm Go.Proofs Go.RowKit Go.Sort
def strsV (l : List (List UInt8)) : List AV := l.map .str
theorem strsV_len (l : List (List UInt8)) : (strsV l).length = l.length := by simp [strsV]
theorem strsV_get {l : List (List UInt8)} {j : Nat} (h : j < l.length) : (strsV l)[j]? = some (.str l[j]) := by simp [strsV, h]
def rowN (id : Nat) (acc : List (List UInt8)) : AV := match acc with
 | [] => .v (.slice none 0 0)
 | _ :: r => .rsl id r.length 0 (r.length + 1) 1
theorem containsS_map (ss : List (List UInt8)) (x : List UInt8) : Lib.containsS ((ss.map fun l => (⟨⟨l⟩⟩ : ByteArray)).take ss.length) ⟨⟨x⟩⟩ = decide (x ∈ ss) := by
 rw [List.take_of_length_le (by simp)]
 rw [Bool.eq_iff_iff, Lib.containsS_iff]
 simp
theorem containsRow_ok (ss : List (List UInt8)) (x : List UInt8) (σ : List Ent) (id ty ver : Nat) (hl : ss.length ≤ 1099511627776) (hσ : σ[id]? = some (.arr ty (strsV ss) ver 0)) :
  ACalls E 90 [.rsl id ver 0 ss.length 1, .str x] σ fun r τ => r = boolV (decide (x ∈ ss)) ∧ τ = σ := by
 refine .inl ⟨⟨_, Tryz.func90, by kernel_rfl, by kernel_rfl⟩, fun s vs hs hI hΓ hr => ?_⟩
 obtain ⟨v, u, rfl, hv, hu⟩ := repL2 hr
 rw [← hs] at hσ ⊢
 rw [rep_str hu]
 obtain ⟨ab, ao, cap, b, rfl, hb, hb0, h1, h2, h3, h4, h5, hc, hf⟩ := row_at hI hσ hv
 rcases Nat.eq_zero_or_pos ss.length with h0 | h0
 ·obtain rfl : ss = [] := List.length_eq_zero_iff.1 h0
  refine (Tryz.slices_Contains_string_empty _ cap ⟨⟨x⟩⟩ s.w).mono fun e w' ⟨q1, q2⟩ => ⟨_, boolV false, s, q1, q2.symm, hI, Ext.refl s, rep_mk_v _ _, by simp, rfl⟩
 ·obtain ⟨rfl, rfl⟩ := h4 (by omega)
  refine (Tryz.slices_Contains_string b.blk 0 ss.length cap (ss.map fun l => ⟨⟨l⟩⟩) ⟨⟨x⟩⟩ s.w (by simp) (by omega) (fun j hj => ?_)).mono fun e w' ⟨q1, q2⟩ => ⟨_, boolV (decide (x ∈ ss)), s, q1, q2.symm, hI, Ext.refl s, by rw [containsS_map]; exact rep_mk_v _ _, rfl, rfl⟩
  simp only [List.length_map] at hj
  obtain ⟨y, q1, q2, _⟩ := hc j _ (strsV_get hj)
  rw [rep_str q2] at q1
  rw [Nat.zero_add, q1]
  simp [hj]
theorem containsN_ok (acc : List (List UInt8)) (x : List UInt8) (σ : List Ent) (id : Nat) (hl : acc.length ≤ 1099511627776) (h : acc ≠ [] → σ[id]? = some (.arr 9 (strsV acc) (acc.length - 1) 0)) :
  ACalls E 90 [rowN id acc, .str x] σ fun r τ => r = boolV (decide (x ∈ acc)) ∧ τ = σ := by
 rcases acc with _ | ⟨a, r⟩
 ·exact ACalls.wk (.cons .nil (.cons (.refl _) .nil)) (slicesContains_ok [] x σ (by simp))
 ·exact containsRow_ok (a :: r) x σ id _ _ hl (h (by simp))
def stepO (acc : List (List UInt8)) (u : Tr) : List (List UInt8) := if u.d = kiVar ∧ u.n ∉ acc then acc ++ [u.n] else acc
mutual
theorem ordT_fold : ∀ (t : Tr) (acc : List (List UInt8)), ordT t acc = foldT stepO t acc
 | .mk d n us, acc => by simp only [ordT, foldT, stepO, Tr.d, Tr.n]; exact ordTs_fold us _
theorem ordTs_fold : ∀ (l : List Tr) (acc : List (List UInt8)), ordTs l acc = foldTs stepO l acc
 | [], acc => by simp only [ordTs, foldTs]
 | t :: ts, acc => by simp only [ordTs, foldTs]; rw [ordT_fold t acc]; exact ordTs_fold ts _
end
def StO (c : Nat) (acc : List (List UInt8)) (w : Nat) (τ : List Ent) : Prop :=
 c < τ.length ∧ w < τ.length ∧ τ[c]? = some (.arr 29 [rowN w acc] 0 0) ∧ (acc ≠ [] → w ≠ c ∧ τ[w]? = some (.arr 9 (strsV acc) (acc.length - 1) 0)) ∧ acc.Nodup ∧ ∀ n ∈ acc, varB n = true
theorem nodup_few : ∀ (k : Nat) (l : List Nat), l.Nodup → (∀ x ∈ l, x < k) → l.length ≤ k
 | 0, l, _, h => by
  cases l with
  | nil => simp
  | cons a r => have := h a (by simp); omega
 | k + 1, l, hd, h => by
  by_cases hk : k ∈ l
  ·have h1 := nodup_few k (l.erase k) (hd.erase k) fun x hx => by
    rw [hd.mem_erase_iff] at hx
    have := h x hx.2; omega
   rw [List.length_erase_of_mem hk] at h1
   omega
  ·have := nodup_few k l hd fun x hx => by
    have h1 := h x hx
    have h2 : x ≠ k := fun hh => hk (hh ▸ hx)
    omega
   omega
theorem varB_shape {n : List UInt8} (h : varB n = true) : ∃ b : UInt8, n = [39, b] ∧ 97 ≤ b.toNat ∧ b.toNat ≤ 122 := by
 unfold varB btw at h
 simp only [Bool.and_eq_true, decide_eq_true_eq] at h
 obtain ⟨h1, h2, h3, h4⟩ := h
 rcases n with _ | ⟨a, _ | ⟨b, _ | ⟨c, r⟩⟩⟩
 ·simp at h1
 ·simp at h1
 ·simp only [List.getD_cons_zero, List.getD_cons_succ] at h2 h3 h4
  have : a = 39 := UInt8.toNat_inj.1 (by have : (39 : UInt8).toNat = 39 := rfl; omega)
  subst this
  exact ⟨b, rfl, by omega, by omega⟩
 ·simp only [List.length_cons] at h1; omega
theorem vars_few {acc : List (List UInt8)} (h : acc.Nodup) (h2 : ∀ n ∈ acc, varB n = true) : acc.length ≤ 26 := by
 have := nodup_few 26 (acc.map fun n => (n.getD 1 0).toNat - 97) ?_ ?_
 ·simpa using this
 ·refine List.Pairwise.map _ ?_ (List.Pairwise.imp_of_mem (R := (· ≠ ·)) (S := fun a b => varB a = true ∧ varB b = true ∧ a ≠ b) (fun ha hb hab => ⟨h2 _ ha, h2 _ hb, hab⟩) h)
  rintro a b ⟨ha, hb, hab⟩ hh
  obtain ⟨x, rfl, hx1, hx2⟩ := varB_shape ha
  obtain ⟨y, rfl, hy1, hy2⟩ := varB_shape hb
  simp only [List.getD_cons_zero, List.getD_cons_succ] at hh
  exact hab (by rw [UInt8.toNat_inj.1 (by omega : x.toNat = y.toNat)])
 ·intro x hx
  obtain ⟨n, hn, rfl⟩ := List.mem_map.1 hx
  obtain ⟨y, rfl, hy1, hy2⟩ := varB_shape (h2 n hn)
  simp only [List.getD_cons_zero, List.getD_cons_succ]
  omega
theorem get_olds {α : Type} {l : List α} {y : α} {i : Nat} (h : l[i]? = some y) (l' : List α) : (l ++ l')[i]? = some y := by
 obtain ⟨hi, _⟩ := List.getElem?_eq_some_iff.1 h
 rw [List.getElem?_append_left hi]; exact h
theorem stO_push {c w : Nat} {acc : List (List UInt8)} {τ : List Ent} (h : StO c acc w τ) (l : List Ent) : StO c acc w (τ ++ l) := by
 obtain ⟨h1, h2, h3, h4, h5, h6⟩ := h
 exact ⟨by rw [List.length_append]; omega, by rw [List.length_append]; omega, get_olds h3 l, fun hne => ⟨(h4 hne).1, get_olds (h4 hne).2 l⟩, h5, h6⟩
theorem mv_push (c w : Nat) (τ l : List Ent) : Mv c w τ (τ ++ l) w := ⟨.inl rfl, by simp, fun id h _ _ => List.getElem?_append_left h⟩
set_option maxHeartbeats 4000000 in
theorem order1_ok (c : Nat) : StepF c (StO c) stepO okT 89 [.ref c 0 0] := by
 intro acc w u τ hP hst
 obtain ⟨h1, h2, h3, h4, h5, h6⟩ := hst
 have hfew := vars_few h5 h6
 have gk : ∀ r, sget τ r c = some (.arr 29 [rowN w acc] 0 0) := fun r => by unfold sget; rw [if_pos h1, h3]
 have sG0 : ∀ e, ssetG τ c e = τ.set c e := fun e => by unfold ssetG; rw [if_pos h1]
 have sL0 : ∀ e l, ssetL τ l c e = l := fun e l => by unfold ssetL; rw [if_pos h1]
 refine xacalls T0 .stay [] Tryz.func89 rfl (by kernel_rfl) (by kernel_rfl) (by simp [Tryz.ntmps89]) ?_
 cases u with
 | mk d n us =>
 simp only [stepO, Tr.d, Tr.n]
 by_cases hd : d = kiVar
 rotate_left
 ·have n1 : ¬ d = [118, 97, 114] := hd
  (simp only [tyV, n1, (vmA), Nat.reduceEqDiff, reduceIte, Nat.reduceAdd, Int.reduceToNat, Int.reduceLE, Int.reduceLT, Int.reduceEq, Int.reduceNe, Int.reduceAdd, Int.reduceSub, Int.reduceNeg, Nat.reduceLT, Nat.reduceLeDiff, Nat.reduceBEq, undef, (stA), Nat.reduceMul]; try simp (disch := omega) only [(vmp)])
  simp only [hd, false_and, if_false]
  exact ⟨w, stO_push ⟨h1, h2, h3, h4, h5, h6⟩ _, mv_push _ _ _ _⟩
 have t1 : (d = [118, 97, 114]) = True := eq_true hd
 (simp only [tyV, t1, gk, (vmA), Nat.reduceEqDiff, reduceIte, Nat.reduceAdd, Int.reduceToNat, Int.reduceLE, Int.reduceLT, Int.reduceEq, Int.reduceNe, Int.reduceAdd, Int.reduceSub, Int.reduceNeg, Nat.reduceLT, Nat.reduceLeDiff, Nat.reduceBEq, undef, (stA), Nat.reduceMul]; try simp (disch := omega) only [(vmp)])
 refine xWait.go (containsN_ok acc n _ w (by omega) fun hne => get_old (h4 hne).2) ?_
 have hdk : (d = kiVar) = True := eq_true hd
 by_cases hn : n ∈ acc
 ·(simp only [hn, t1, (vmA), Nat.reduceEqDiff, reduceIte, Nat.reduceAdd, Int.reduceToNat, Int.reduceLE, Int.reduceLT, Int.reduceEq, Int.reduceNe, Int.reduceAdd, Int.reduceSub, Int.reduceNeg, Nat.reduceLT, Nat.reduceLeDiff, Nat.reduceBEq, undef, (stA), Nat.reduceMul]; try simp (disch := omega) only [(vmp)])
  simp only [hn, not_true, and_false, if_false]
  exact ⟨w, stO_push ⟨h1, h2, h3, h4, h5, h6⟩ _, mv_push _ _ _ _⟩
 have hvn : varB n = true := by
  have := hP.2
  simp only [typeB, hd, Bool.and_eq_true] at this
  simpa using this.2.1
 have h5' : (acc ++ [n]).Nodup := by
  rw [List.nodup_append]; exact ⟨h5, by simp, fun a ha b hb => by simp at hb; subst hb; exact fun h => hn (h ▸ ha)⟩
 have h6' : ∀ m ∈ acc ++ [n], varB m = true := fun m hm => by
  rcases List.mem_append.1 hm with hm | hm
  ·exact h6 m hm
  ·simp at hm; subst hm; exact hvn
 rcases acc with _ | ⟨b0, r0⟩
 ·(simp only [hn, t1, gk, sG0, sL0, rowN, (vmA), Nat.reduceEqDiff, reduceIte, Nat.reduceAdd, Int.reduceToNat, Int.reduceLE, Int.reduceLT, Int.reduceEq, Int.reduceNe, Int.reduceAdd, Int.reduceSub, Int.reduceNeg, Nat.reduceLT, Nat.reduceLeDiff, Nat.reduceBEq, undef, (stA), Nat.reduceMul]; try simp (disch := omega) only [(vmp)])
  simp only [hdk, hn, not_false_iff, and_self, if_true, List.nil_append]
  refine ⟨by unfold maxRoom; omega, τ.length + 1, ⟨by simp; omega, by simp, ?_, fun _ => ⟨by omega, ?_⟩, h5', h6'⟩, .inr (by omega), by simp, fun id q1 q2 q3 => ?_⟩
  ·rw [List.getElem?_append_left (by simpa using h1), get_set_self h3]; rfl
  ·rw [List.getElem?_append_right (by simp)]; simp [strsV]
  ·rw [List.getElem?_append_left (by simpa using q1), get_set_ne (Ne.symm q2)]
 ·obtain ⟨hwc, hw⟩ := h4 (by simp)
  have gw : ∀ r, sget τ r w = some (.arr 9 (strsV (b0 :: r0)) ((b0 :: r0).length - 1) 0) := fun r => by unfold sget; rw [if_pos h2, hw]
  have sGw : ∀ e, ssetG τ w e = τ.set w e := fun e => by unfold ssetG; rw [if_pos h2]
  have sLw : ∀ e l, ssetL τ l w e = l := fun e l => by unfold ssetL; rw [if_pos h2]
  have gk2 : ∀ e, (τ.set w e)[c]? = some (.arr 29 [.rsl w r0.length 0 (r0.length + 1) 1] 0 0) := fun e => by rw [get_set_ne hwc, h3]; rfl
  have gk' : ∀ e r, sget (τ.set w e) r c = some (.arr 29 [.rsl w r0.length 0 (r0.length + 1) 1] 0 0) := fun e r => by
   unfold sget; rw [if_pos (by simpa using h1), get_set_ne hwc, h3]; rfl
  have sG' : ∀ e e', ssetG (τ.set w e) c e' = (τ.set w e).set c e' := fun e e' => by unfold ssetG; rw [if_pos (by simpa using h1)]
  have sL' : ∀ e e' l, ssetL (τ.set w e) l c e' = l := fun e e' l => by unfold ssetL; rw [if_pos (by simpa using h1)]
  simp only [List.length_cons] at hfew
  (simp only [hn, t1, gk, gw, sG0, sL0, sGw, sLw, gk', sG', sL', rowN, strsV_len, (vmA), Nat.reduceEqDiff, reduceIte, Nat.reduceAdd, Int.reduceToNat, Int.reduceLE, Int.reduceLT, Int.reduceEq, Int.reduceNe, Int.reduceAdd, Int.reduceSub, Int.reduceNeg, Nat.reduceLT, Nat.reduceLeDiff, Nat.reduceBEq, undef, (stA), Nat.reduceMul]; try simp (disch := omega) only [(vmp)])
  simp only [hdk, hn, not_false_iff, and_self, if_true]
  refine ⟨⟨by omega, by unfold maxRoom; omega, by unfold maxRoom; omega⟩, w, ⟨by simp; omega, by simp; omega, ?_, fun _ => ⟨hwc, ?_⟩, h5', h6'⟩, .inl rfl, by simp, fun id q1 q2 q3 => ?_⟩
  ·rw [List.getElem?_append_left (by simpa using h1), get_set_self (gk2 _)]; simp [rowN]
  ·rw [List.getElem?_append_left (by simpa using h2), get_set_ne (Ne.symm hwc), get_set_self hw]; simp [strsV]
  ·rw [List.getElem?_append_left (by simpa using q1), get_set_ne (Ne.symm q2), get_set_ne (Ne.symm q3)]
end Go.D
namespace Go.D
open Go Go.Vm Go.Proofs Go.RowKit Go.Sort
def rowAt (w : Nat) (l : List (List UInt8)) (n : Nat) (τ : List Ent) : Prop := l ≠ [] → n ≤ w ∧ τ[w]? = some (.arr 9 (strsV l) (l.length - 1) 0)
set_option maxHeartbeats 4000000 in
theorem order_ok (t : Tr) (ht : okT t) (σ : List Ent) : ACalls E 53 [tyV t] σ fun r τ => ∃ w L, r = rowN w (ordT t []) ∧ τ = σ ++ L ∧ rowAt w (ordT t []) σ.length τ ∧ (ordT t []).Nodup ∧ ∀ n ∈ ordT t [], varB n = true := by
 have he := each_ok (σ.length + 1) 89 [.ref (σ.length + 1) 0 0] (StO (σ.length + 1)) stepO (fun a w τ l h => stO_push h l) (fun a w τ h => ⟨h.1, h.2.1⟩) okT (order1_ok _) okT_down _ t (Nat.le_refl _) ht
 refine xacalls T0 .stay [] Tryz.func53 rfl (by kernel_rfl) (by kernel_rfl) (by simp [Tryz.ntmps53]) ?_
 have hh := he [] (σ.length + 1) (σ ++ [.arr 24 (tyV t).cells 0 0, .arr 29 [.v (.slice none 0 0)] 0 0])
  ⟨by simp, by simp, by rw [List.getElem?_append_right (by omega), Nat.add_sub_cancel_left]; rfl, fun h => absurd rfl h, by simp, by simp⟩
 rw [← ordT_fold] at hh
 cases t with
 | mk d n us =>
 simp only [tyV, AV.cells] at hh
 (simp only [tyV, (vmA), Nat.reduceEqDiff, reduceIte, Nat.reduceAdd, Int.reduceToNat, Int.reduceLE, Int.reduceLT, Int.reduceEq, Int.reduceNe, Int.reduceAdd, Int.reduceSub, Int.reduceNeg, Nat.reduceLT, Nat.reduceLeDiff, Nat.reduceBEq, undef, (stA), Nat.reduceMul]; try simp (disch := omega) only [(vmp)])
 refine xWait.of hh ?_
 rintro r τ1 ⟨rfl, w, h1, h2⟩
 generalize ordT (.mk d n us) [] = acc at *
 obtain ⟨a1, a2, a3, a4, a5, a6⟩ := h1
 have hG : List.take σ.length τ1 = σ := by
  apply List.ext_getElem?
  intro i
  rw [List.getElem?_take]
  by_cases hi : i < σ.length
  ·rw [if_pos hi, h2.old i (by simp; omega) (by omega) (by omega), List.getElem?_append_left hi]
  ·rw [if_neg hi, List.getElem?_eq_none (by omega)]
 generalize hL : List.drop σ.length τ1 = L
 have hGL : τ1 = σ ++ L := by rw [← hL, ← hG, hG, ← hG]; simp [hG]; exact (List.take_append_drop σ.length τ1).symm.trans (by rw [hG])
 subst hGL
 clear hG hL
 have hcell : L[1]? = some (.arr 29 [rowN w acc] 0 0) := by
  rw [List.getElem?_append_right (by omega), Nat.add_sub_cancel_left] at a3; exact a3
 rw [List.take_left]
 have gs : sget σ L (σ.length + 1) = some (.arr 29 [rowN w acc] 0 0) := by rw [sget_l]; exact hcell
 (simp only [gs, (vmA), Nat.reduceEqDiff, reduceIte, Nat.reduceAdd, Int.reduceToNat, Int.reduceLE, Int.reduceLT, Int.reduceEq, Int.reduceNe, Int.reduceAdd, Int.reduceSub, Int.reduceNeg, Nat.reduceLT, Nat.reduceLeDiff, Nat.reduceBEq, undef, (stA), Nat.reduceMul]; try simp (disch := omega) only [(vmp)])
 refine ⟨w, L, rfl, rfl, fun hne => ⟨?_, (a4 hne).2⟩, a5, a6⟩
 rcases h2.row with h | h
 ·omega
 ·simp only [List.length_append, List.length_cons, List.length_nil] at h; omega
def sortS (l : List (List UInt8)) : List (List UInt8) := l.mergeSort fun x y => decide (x ≤ y)
theorem strsV_rep {s : S} {zs : List (List UInt8)} {i : Nat} {c : AV} {y : Value} (hc : (strsV zs)[i]? = some c) (hy : (zs.map fun l => Value.string ⟨⟨l⟩⟩)[i]? = some y) : Rep s c y ∧ cellV y := by
 simp only [strsV, List.getElem?_map, Option.map_eq_some_iff] at hc hy
 obtain ⟨z, h1, rfl⟩ := hc
 obtain ⟨z', h2, rfl⟩ := hy
 rw [h1] at h2; cases h2
 exact ⟨by unfold Rep; rfl, by simp [cellV]⟩
theorem holds_strs {s : S} {zs : List (List UInt8)} {blk ext : Nat} (hx : zs.length ≤ ext) (hc : ∀ (j : Nat) c, (strsV zs)[j]? = some c → ∃ y, s.w.cell? ⟨blk, j, none⟩ = some y ∧ Rep s c y ∧ cellV y)
  (hf : ∀ j, j < ext → s.w.frozen? ⟨blk, j, none⟩ = false) : Holds encStr s.w blk 0 zs.toArray := by
 intro j hj
 have hj' : j < zs.length := by simpa using hj
 obtain ⟨y, h1, h2, _⟩ := hc j _ (strsV_get hj')
 rw [rep_str h2] at h1
 rw [Nat.zero_add]
 refine ⟨?_, hf j (by omega)⟩
 rw [h1]
 simp [hj', encStr]
theorem sortS_ok (zs : List (List UInt8)) (hz : zs.length ≤ 1099511627776) (σ : List Ent) (id ty ver : Nat) (hσ : σ[id]? = some (.arr ty (strsV zs) ver 0)) :
  ACalls E 69 [.rsl id ver 0 zs.length 1] σ fun r τ => r = .tup [] ∧ τ = σ.set id (.arr ty (strsV (sortS zs)) ver 0) := by
 refine .inl ⟨⟨_, Tryz.func69, by kernel_rfl, by kernel_rfl⟩, fun s vs hs hI hΓ hr => ?_⟩
 obtain ⟨v, rfl, hv⟩ := repL1 hr
 rw [← hs] at hσ ⊢
 obtain ⟨ab, ao, cap, b, rfl, hb, hb0, h1, h2, h3, h4, h5, hc, hf⟩ := row_at hI hσ hv
 rcases Nat.eq_zero_or_pos zs.length with h0 | h0
 ·obtain rfl : zs = [] := List.length_eq_zero_iff.1 h0
  refine (Tryz.slices_Sort_string_none _ cap s.w).mono fun e w' ⟨q1, q2⟩ => ⟨_, .tup [], s, q1, q2.symm, hI, Ext.refl s, by unfold Rep RepL; exact ⟨#[], rfl, rfl⟩, rfl, ?_⟩
  unfold sortS
  rw [List.mergeSort_nil]; exact (list_set_self hσ).symm
 ·obtain ⟨rfl, rfl⟩ := h4 (by omega)
  have hH := holds_strs (by rw [strsV_len] at h3; exact h3) hc hf
  refine (Tryz.slices_Sort_string b.blk 0 cap zs s.w hH h5 (by omega)).mono fun e w' ⟨q1, n, os, q2⟩ => ?_
  have hls : (sortS zs).length = zs.length := List.length_mergeSort _
  rw [Lib.putRow_eq_setCells _ _ _ _ _ _ _ hH (by simpa [sortS] using hls)] at q2
  obtain ⟨s', a1, a2, a3, a4⟩ := row_written (cs := strsV (sortS zs)) (ys := (sortS zs).map fun l => Value.string ⟨⟨l⟩⟩) hI hσ hb hb0 (by rw [strsV_len, strsV_len, hls]) (by rw [strsV_len]; simp) h3 (fun i c y => strsV_rep) n os
  exact ⟨_, .tup [], s', q1, by rw [a1, q2]; rfl, a3, a4, by unfold Rep RepL; exact ⟨#[], rfl, rfl⟩, rfl, a2⟩
theorem sort0_ok (σ : List Ent) : ACalls E 69 [.v (.slice none 0 0)] σ fun r τ => r = .tup [] ∧ τ = σ := by
 refine .inl ⟨⟨_, Tryz.func69, by kernel_rfl, by kernel_rfl⟩, fun s vs hs hI hΓ hr => ?_⟩
 obtain ⟨v, rfl, hv⟩ := repL1 hr
 rw [rep_v' hv, ← hs]
 exact (Tryz.slices_Sort_string_none _ _ s.w).mono fun e w' ⟨q1, q2⟩ => ⟨_, .tup [], s, q1, q2.symm, hI, Ext.refl s, by unfold Rep RepL; exact ⟨#[], rfl, rfl⟩, rfl, rfl⟩
theorem strsV_cells (l : List (List UInt8)) : (strsV l).flatMap AV.cells = strsV l := by
 induction l with
 | nil => rfl
 | cons a r ih => simp only [strsV, List.map_cons, List.flatMap_cons] at ih ⊢; rw [ih]; rfl
theorem strsV_low (n : Nat) : ∀ l : List (List UInt8), AV.low.lows n (strsV l) = true
 | [] => rfl
 | a :: r => by
  have := strsV_low n r
  simp only [strsV, List.map_cons, AV.low.lows, AV.low, Bool.true_and] at this ⊢; exact this
theorem frz_strs {n0 id ver imm ty n : Nat} {l : List Ent} {zs : List (List UInt8)} (hid : n0 ≤ id) (h : l[id - n0]? = some (.arr ty (strsV zs) ver imm)) (hn : n = zs.length) : Frz n0 l (.rsl id ver 0 n 1) (.sl (strsV zs)) :=
 .rsl (imm := imm) (ag := false) (cells := strsV zs) (es := strsV zs) hid h (by rw [List.drop_zero, strsV_cells]) (by omega) (by rw [strsV_len, hn]) (by omega) (fun e he => by obtain ⟨x, _, rfl⟩ := List.mem_map.1 he; rfl) FrzL.refl
set_option maxHeartbeats 4000000 in
theorem vars_ok (t : Tr) (ht : okT t) (σ : List Ent) : ACalls E 46 [tyV t] σ fun r τ => r = .sl (strsV (sortS (ordT t []))) ∧ τ = σ := by
 refine xacalls T0 .freeze [] Tryz.func46 rfl (by kernel_rfl) (by kernel_rfl) (by simp [Tryz.ntmps46]) ?_
 have ho := fun σ' => order_ok t ht σ'
 cases t with
 | mk d n us =>
 simp only [tyV] at ho
 (simp only [tyV, (vmA), Nat.reduceEqDiff, reduceIte, Nat.reduceAdd, Int.reduceToNat, Int.reduceLE, Int.reduceLT, Int.reduceEq, Int.reduceNe, Int.reduceAdd, Int.reduceSub, Int.reduceNeg, Nat.reduceLT, Nat.reduceLeDiff, Nat.reduceBEq, undef, (stA), Nat.reduceMul]; try simp (disch := omega) only [(vmp)])
 refine xWait.of (ho _) ?_
 rintro r τ1 ⟨w, L, rfl, rfl, h1, h2, h3⟩
 have hfew := vars_few h2 h3
 generalize ordT (.mk d n us) [] = acc at *
 rw [List.append_assoc, List.take_left, List.drop_left]
 rw [List.append_assoc] at h1
 generalize hX : [Ent.arr 24 [AV.str d, AV.str n, AV.sl (tysV us)] 0 0] ++ L = X at *
 rcases acc with _ | ⟨a, r0⟩
 ·(simp only [rowN, (vmA), Nat.reduceEqDiff, reduceIte, Nat.reduceAdd, Int.reduceToNat, Int.reduceLE, Int.reduceLT, Int.reduceEq, Int.reduceNe, Int.reduceAdd, Int.reduceSub, Int.reduceNeg, Nat.reduceLT, Nat.reduceLeDiff, Nat.reduceBEq, undef, (stA), Nat.reduceMul]; try simp (disch := omega) only [(vmp)])
  refine xWait.go (sort0_ok _) ?_
  rw [List.take_left, List.drop_left]
  (simp only [(vmA), Nat.reduceEqDiff, reduceIte, Nat.reduceAdd, Int.reduceToNat, Int.reduceLE, Int.reduceLT, Int.reduceEq, Int.reduceNe, Int.reduceAdd, Int.reduceSub, Int.reduceNeg, Nat.reduceLT, Nat.reduceLeDiff, Nat.reduceBEq, undef, (stA), Nat.reduceMul]; try simp (disch := omega) only [(vmp)])
  exact ⟨_, .none, by simp only [AV.low, AV.low.lows], by unfold sortS; rw [List.mergeSort_nil]; rfl⟩
 ·obtain ⟨q1, q2⟩ := h1 (by simp)
  simp only [List.length_append] at q1
  (simp only [rowN, (vmA), Nat.reduceEqDiff, reduceIte, Nat.reduceAdd, Int.reduceToNat, Int.reduceLE, Int.reduceLT, Int.reduceEq, Int.reduceNe, Int.reduceAdd, Int.reduceSub, Int.reduceNeg, Nat.reduceLT, Nat.reduceLeDiff, Nat.reduceBEq, undef, (stA), Nat.reduceMul]; try simp (disch := omega) only [(vmp)])
  refine xWait.go (sortS_ok (a :: r0) (by omega) _ _ _ _ q2) ?_
  have hXw : X[w - σ.length]? = some (.arr 9 (strsV (a :: r0)) ((a :: r0).length - 1) 0) := by rw [List.getElem?_append_right (by omega)] at q2; exact q2
  rw [List.set_append_right _ _ (by omega), List.take_left, List.drop_left]
  (simp only [(vmA), Nat.reduceEqDiff, reduceIte, Nat.reduceAdd, Int.reduceToNat, Int.reduceLE, Int.reduceLT, Int.reduceEq, Int.reduceNe, Int.reduceAdd, Int.reduceSub, Int.reduceNeg, Nat.reduceLT, Nat.reduceLeDiff, Nat.reduceBEq, undef, (stA), Nat.reduceMul]; try simp (disch := omega) only [(vmp)])
  have hls : (sortS (a :: r0)).length = r0.length + 1 := List.length_mergeSort _
  exact ⟨_, frz_strs (by omega) (get_set_self hXw) hls.symm, by simp only [AV.low, strsV_low], rfl⟩
end Go.D
namespace Go.D
open Go Go.Vm Go.Proofs Go.RowKit
def tyCells : Tr → List AV
 | .mk d n us => [.str d, .str n, .sl (tysV us)]
def rowT (n : Nat) (acc : List Tr) : AV := match acc with
 | [] => .v (.slice none 0 0)
 | _ :: r => .rsl n r.length 0 (r.length + 1) 3
theorem tyCells_len (l : List Tr) : (l.flatMap tyCells).length = l.length * 3 := by
 induction l with
 | nil => rfl
 | cons a r ih => cases a; rw [List.flatMap_cons, List.length_append, ih]; simp only [tyCells, List.length_cons, List.length_nil]; omega
theorem tyV_cells (t : Tr) : (tyV t).cells = tyCells t := by cases t; rfl
theorem tysV_cells : ∀ l : List Tr, (tysV l).flatMap AV.cells = l.flatMap tyCells
 | [] => rfl
 | t :: ts => by simp only [tysV, List.flatMap_cons, tyV_cells, tysV_cells ts]
def CL (t : Tr) : Prop := ∀ σ : List Ent, okT t → ACalls E 47 [tyV t] σ fun r τ => r = tyV t ∧ τ = σ
set_option maxHeartbeats 4000000 in
theorem clone_step (d n : List UInt8) (us : List Tr) (ih : ∀ u ∈ us, CL u) : CL (.mk d n us) := by
 intro σ hl
 obtain ⟨hfew, hdn⟩ := okT_down d n us hl
 refine xacalls T0 .freeze [] Tryz.func47 rfl (by kernel_rfl) (by kernel_rfl) (by simp [Tryz.ntmps47]) ?_
 (simp only [tyV, tysV_len, (vmA), Nat.reduceEqDiff, reduceIte, Nat.reduceAdd, Int.reduceToNat, Int.reduceLE, Int.reduceLT, Int.reduceEq, Int.reduceNe, Int.reduceAdd, Int.reduceSub, Int.reduceNeg, Nat.reduceLT, Nat.reduceLeDiff, Nat.reduceBEq, undef, (stA), Nat.reduceMul]; try simp (disch := omega) only [(vmp)])
 refine xloop (α := Nat × List Ent × Nat) T0 (fun x => [(2, .ref (σ.length + 1) 0 0), (3, .ref (σ.length + 2) 0 0), (12, .sl (tysV us)), (13, i64 us.length), (14, i64 x.1)]) (fun _ => σ)
  (fun x => .arr 24 [.str d, .str n, .sl (tysV us)] 0 0 :: .arr 24 [.str [], .str [], .v (.slice none 0 0)] 0 0 :: .arr 24 [.str d, .str n, rowT (σ.length + (x.2.2 + 3)) (us.take x.1)] 0 0 :: x.2.1)
  (fun x => x.1 ≤ us.length ∧ (us.take x.1 ≠ [] → x.2.1[x.2.2]? = some (.arr 24 ((us.take x.1).flatMap tyCells) ((us.take x.1).length - 1) 0))) (fun x => us.length - x.1) (by kernel_rfl)
  ⟨(0, [], 0), ⟨by simp, by simp⟩, by (simp only [(vmA), Nat.reduceEqDiff, reduceIte, Nat.reduceAdd, Int.reduceToNat, Int.reduceLE, Int.reduceLT, Int.reduceEq, Int.reduceNe, Int.reduceAdd, Int.reduceSub, Int.reduceNeg, Nat.reduceLT, Nat.reduceLeDiff, Nat.reduceBEq, undef, (stA), Nat.reduceMul, Int.natCast_zero]; try simp (disch := omega) only [(vmp)]), rfl, by simp only [List.take_zero, rowT]⟩ ?_
 rintro ⟨i, junk, rid⟩ ⟨hi, hrow⟩
 simp only at hi hrow
 have hal : (us.take i).length = i := by simp; omega
 by_cases h : (i : Int) < us.length
 ·have hi' : i < us.length := by omega
  have hu : us[i]? = some us[i] := List.getElem?_eq_getElem hi'
  obtain ⟨s1, s2⟩ := take_split us i _ hu
  have hmem : us[i] ∈ us := List.getElem_mem hi'
  generalize us[i] = u at *
  have hg := tysV_get hu
  have hc := fun σ' => ih u hmem σ' (hdn u hmem)
  cases u with
  | mk d2 n2 us2 =>
  simp only [tyV] at hg hc
  (simp only [h, hg, tysV_len, (vmA), Nat.reduceEqDiff, reduceIte, Nat.reduceAdd, Int.reduceToNat, Int.reduceLE, Int.reduceLT, Int.reduceEq, Int.reduceNe, Int.reduceAdd, Int.reduceSub, Int.reduceNeg, Nat.reduceLT, Nat.reduceLeDiff, Nat.reduceBEq, undef, (stA), Nat.reduceMul]; try simp (disch := omega) only [(vmp)])
  refine ydraw T0 [5, 7] (by kernel_rfl) (by kernel_rfl) (by kernel_rfl) (by kernel_rfl) ?_
  (simp only [(vmA), Nat.reduceEqDiff, reduceIte, Nat.reduceAdd, Int.reduceToNat, Int.reduceLE, Int.reduceLT, Int.reduceEq, Int.reduceNe, Int.reduceAdd, Int.reduceSub, Int.reduceNeg, Nat.reduceLT, Nat.reduceLeDiff, Nat.reduceBEq, undef, (stA), Nat.reduceMul]; try simp (disch := omega) only [(vmp)])
  refine yNext.go (by rfl) _ rfl (hc _) ?_
  generalize hacc : us.take i = acc at *
  rcases acc with _ | ⟨b0, r0⟩
  ·(simp only [rowT, (vmA), Nat.reduceEqDiff, reduceIte, Nat.reduceAdd, Int.reduceToNat, Int.reduceLE, Int.reduceLT, Int.reduceEq, Int.reduceNe, Int.reduceAdd, Int.reduceSub, Int.reduceNeg, Nat.reduceLT, Nat.reduceLeDiff, Nat.reduceBEq, undef, (stA), Nat.reduceMul]; try simp (disch := omega) only [(vmp)])
   refine ⟨by unfold maxRoom; omega, (i + 1, junk ++ [.arr 24 [.str d2, .str n2, .sl (tysV us2)] 0 0, .arr 24 [.str d2, .str n2, .sl (tysV us2)] 0 0], junk.length + 1), ⟨by simp only; omega, fun _ => ?_⟩, by simp only; omega, rfl, ?_⟩
   ·simp only [s1]; simp [tyCells]
   ·simp only [s1, List.nil_append, rowT, List.length_nil, List.append_assoc, List.cons_append, Nat.add_assoc]
    try rfl
  ·have h5 : ∀ e, (junk ++ [e])[rid]? = some (.arr 24 ((b0 :: r0).flatMap tyCells) ((b0 :: r0).length - 1) 0) := fun e => get_old (hrow (by simp))
   have e0 : (tyCells b0).length = 3 := by cases b0; rfl
   have hf0 : (List.flatMap tyCells r0).length = r0.length * 3 := tyCells_len r0
   simp only [List.length_cons] at hal
   (simp only [rowT, h5, (vmA), Nat.reduceEqDiff, reduceIte, Nat.reduceAdd, Int.reduceToNat, Int.reduceLE, Int.reduceLT, Int.reduceEq, Int.reduceNe, Int.reduceAdd, Int.reduceSub, Int.reduceNeg, Nat.reduceLT, Nat.reduceLeDiff, Nat.reduceBEq, undef, (stA), Nat.reduceMul]; try simp (disch := omega) only [(vmp)])
   refine ⟨⟨by omega, by omega, by omega, by unfold maxRoom; omega, by unfold maxRoom; omega⟩, ?_⟩
   refine ⟨(i + 1, (junk ++ [Ent.arr 24 [AV.str d2, AV.str n2, AV.sl (tysV us2)] 0 0]).set rid (Ent.arr 24 (tyCells b0 ++ (List.flatMap tyCells r0 ++ [AV.str d2, AV.str n2, AV.sl (tysV us2)])) (r0.length + 1 - 1 + 1) 0), rid), ⟨by simp only; omega, fun _ => ?_⟩, by simp only; omega, rfl, ?_⟩
   ·simp only [s1]
    rw [get_set_self (h5 _)]
    simp [tyCells]
   ·simp only [s1, rowT, List.cons_append, List.length_append, List.length_cons, List.length_nil]
    try rfl
 ·have hie : i = us.length := by omega
  subst hie
  rw [List.take_of_length_le (Nat.le_refl _)] at hrow
  rcases us with _ | ⟨u0, ur⟩
  ·(simp only [h, List.take_of_length_le (Nat.le_refl _), rowT, (vmA), Nat.reduceEqDiff, reduceIte, Nat.reduceAdd, Int.reduceToNat, Int.reduceLE, Int.reduceLT, Int.reduceEq, Int.reduceNe, Int.reduceAdd, Int.reduceSub, Int.reduceNeg, Nat.reduceLT, Nat.reduceLeDiff, Nat.reduceBEq, undef, (stA), Nat.reduceMul]; try simp (disch := omega) only [(vmp)])
   exact ⟨_, .agg (.cons (.refl _) (.cons (.refl _) (.cons .none .nil))), by simp only [AV.low, AV.low.lows, Bool.and_self], by simp only [tysV]⟩
  ·have hr := hrow (by simp)
   simp only [List.length_cons] at h hr
   (simp only [h, List.take_of_length_le (Nat.le_refl _), List.length_cons, rowT, (vmA), Nat.reduceEqDiff, reduceIte, Nat.reduceAdd, Int.reduceToNat, Int.reduceLE, Int.reduceLT, Int.reduceEq, Int.reduceNe, Int.reduceAdd, Int.reduceSub, Int.reduceNeg, Nat.reduceLT, Nat.reduceLeDiff, Nat.reduceBEq, undef, (stA), Nat.reduceMul]; try simp (disch := omega) only [(vmp)])
   have hf0 := tyCells_len (u0 :: ur)
   refine ⟨_, .agg (.cons (.refl _) (.cons (.refl _) (.cons (.rsl (ty := 24) (ver := ur.length) (imm := 0) (ag := true) (cells := (u0 :: ur).flatMap tyCells) (es := tysV (u0 :: ur)) (es' := tysV (u0 :: ur)) (by omega) ?_ (by rw [List.drop_zero, tysV_cells]) (by omega) (by rw [tysV_len]; rfl) (by omega) (fun e he => by rw [tysV_map] at he; obtain ⟨x, _, rfl⟩ := List.mem_map.1 he; exact tyV_el x) FrzL.refl) .nil))), by simp only [AV.low, AV.low.lows, tysV_low, Bool.and_self], rfl⟩
   rw [Nat.add_sub_cancel_left]
   simpa using hr
theorem clone_ok : ∀ (m : Nat) (t : Tr), SizeOf.sizeOf t ≤ m → CL t
 | 0, .mk d n us, h => by simp at h
 | m + 1, .mk d n us, h => clone_step d n us fun u hu => clone_ok m u (by
   have := List.sizeOf_lt_of_mem hu
   simp at h; omega)
end Go.D
namespace Go.D
open Go Go.Vm Go.Proofs Go.RowKit
def mEnts : Nat → Sub' → List (AV × AV × Nat)
 | _, [] => []
 | k, e :: r => (.str e.1, tyV e.2, k) :: mEnts (k + 1) r
def mapE (s : Sub') : Ent := .map (mEnts 0 s) s.length
theorem mget_ents (n : List UInt8) : ∀ (k : Nat) (s : Sub'), mget (.str n) (mEnts k s) = (s.look n).map tyV
 | k, [] => rfl
 | k, e :: r => by
  unfold mEnts mget Sub'.look
  by_cases h : n = e.1
  ·simp [h, keq]
  ·simp only [keq, h, decide_false, Bool.false_eq_true, if_false]
   exact mget_ents n (k + 1) r
theorem mput_ents (n : List UInt8) (t : Tr) : ∀ (k : Nat) (s : Sub'), s.look n = none → mput (.str n) (tyV t) (k + s.length) (mEnts k s) = mEnts k (s ++ [(n, t)])
 | k, [], _ => by simp [mEnts, mput]
 | k, e :: r, h => by
  unfold Sub'.look at h
  by_cases hh : n = e.1
  ·simp [hh] at h
  ·simp only [hh, if_false] at h
   have := mput_ents n t (k + 1) r h
   unfold mEnts mput
   simp only [keq, hh, decide_false, Bool.false_eq_true, if_false, List.cons_append, mEnts, List.length_cons]
   rw [← this]
   congr 2
   omega
theorem ents_keys (T : Nat → TI) (g l : List Ent) : ∀ (k : Nat) (s : Sub'), ∀ e ∈ mEnts k s, kOK T g l .string e.1
 | k, [], e, h => by simp [mEnts] at h
 | k, a :: r, e, h => by
  simp only [mEnts] at h
  rcases List.mem_cons.1 h with rfl | h
  ·simp [kOK]
  ·exact ents_keys T g l (k + 1) r e h
def ixs (n : Nat) : List AV := (List.range n).map fun i => i64 (i : Nat)
theorem ixs_len (n : Nat) : (ixs n).length = n := by simp [ixs]
def rowI (n k : Nat) : AV := match k with
 | 0 => .v (.slice none 0 0)
 | k + 1 => .rsl n k 0 (k + 1) 1
theorem ixs_succ (k : Nat) : ixs (k + 1) = ixs k ++ [i64 (k : Nat)] := by simp [ixs, List.range_succ]
theorem ixs_cells (k : Nat) : (ixs k).flatMap AV.cells = ixs k := by
 induction k with
 | zero => rfl
 | succ k ih => rw [ixs_succ, List.flatMap_append, ih]; rfl
theorem lows_app (n : Nat) : ∀ a b : List AV, AV.low.lows n (a ++ b) = (AV.low.lows n a && AV.low.lows n b)
 | [], b => by simp only [List.nil_append, AV.low.lows, Bool.true_and]
 | x :: a, b => by simp only [List.cons_append, AV.low.lows, lows_app n a b, Bool.and_assoc]
theorem ixs_low (n k : Nat) : AV.low.lows n (ixs k) = true := by
 induction k with
 | zero => rfl
 | succ k ih => rw [ixs_succ, lows_app, ih]; rfl
def rowIE (k : Nat) : List Ent := match k with
 | 0 => []
 | k + 1 => [.arr 3 (ixs (k + 1)) k 0]
set_option maxHeartbeats 4000000 in
theorem indexes_ok (us : List Tr) (hl : us.length ≤ 2) (σ : List Ent) : ACalls E 85 [.sl (tysV us)] σ fun r τ => r = .sl (ixs us.length) ∧ τ = σ := by
 refine xacalls T0 .freeze [] Tryz.func85 rfl (by kernel_rfl) (by kernel_rfl) (by simp [Tryz.ntmps85]) ?_
 (simp only [tysV_len, (vmA), Nat.reduceEqDiff, reduceIte, Nat.reduceAdd, Int.reduceToNat, Int.reduceLE, Int.reduceLT, Int.reduceEq, Int.reduceNe, Int.reduceAdd, Int.reduceSub, Int.reduceNeg, Nat.reduceLT, Nat.reduceLeDiff, Nat.reduceBEq, undef, (stA), Nat.reduceMul]; try simp (disch := omega) only [(vmp)])
 refine xloop (α := Nat) T0 (fun i => [(3, rowI σ.length i), (5, .sl (tysV us)), (6, i64 us.length), (7, i64 i)]) (fun _ => σ) (fun i => rowIE i) (fun i => i ≤ us.length) (fun i => us.length - i) (by kernel_rfl)
  ⟨0, by omega, by (simp only [rowI, (vmA), Nat.reduceEqDiff, reduceIte, Nat.reduceAdd, Int.reduceToNat, Int.reduceLE, Int.reduceLT, Int.reduceEq, Int.reduceNe, Int.reduceAdd, Int.reduceSub, Int.reduceNeg, Nat.reduceLT, Nat.reduceLeDiff, Nat.reduceBEq, undef, (stA), Nat.reduceMul, Int.natCast_zero]; try simp (disch := omega) only [(vmp)]), rfl, rfl⟩ ?_
 intro i hi
 by_cases h : (i : Int) < us.length
 ·rcases i with _ | k
  ·have h0 : (0 : Int) < us.length := by simpa using h
   (simp only [h0, tysV_len, rowI, rowIE, (vmA), Nat.reduceEqDiff, reduceIte, Nat.reduceAdd, Int.reduceToNat, Int.reduceLE, Int.reduceLT, Int.reduceEq, Int.reduceNe, Int.reduceAdd, Int.reduceSub, Int.reduceNeg, Nat.reduceLT, Nat.reduceLeDiff, Nat.reduceBEq, undef, (stA), Nat.reduceMul]; try simp (disch := omega) only [(vmp)])
   refine ⟨by unfold maxRoom; omega, 1, by omega, by omega, ?_, ?_⟩
   ·first | trivial | exact ⟨rfl, rfl⟩
   ·simp [ixs]
  ·(simp only [h, tysV_len, rowI, rowIE, (vmA), Nat.reduceEqDiff, reduceIte, Nat.reduceAdd, Int.reduceToNat, Int.reduceLE, Int.reduceLT, Int.reduceEq, Int.reduceNe, Int.reduceAdd, Int.reduceSub, Int.reduceNeg, Nat.reduceLT, Nat.reduceLeDiff, Nat.reduceBEq, undef, (stA), Nat.reduceMul]; try simp (disch := omega) only [(vmp)])
   refine ⟨⟨by rw [ixs_len], by omega, by unfold maxRoom; omega, by unfold maxRoom; omega⟩, k + 1 + 1, by omega, by omega, ?_, ?_⟩
   ·first | trivial | exact ⟨rfl, rfl⟩
   ·simp only [ixs_succ (k + 1)]
 ·have hie : i = us.length := by omega
  subst hie
  (simp only [h, tysV_len, (vmA), Nat.reduceEqDiff, reduceIte, Nat.reduceAdd, Int.reduceToNat, Int.reduceLE, Int.reduceLT, Int.reduceEq, Int.reduceNe, Int.reduceAdd, Int.reduceSub, Int.reduceNeg, Nat.reduceLT, Nat.reduceLeDiff, Nat.reduceBEq, undef, (stA), Nat.reduceMul]; try simp (disch := omega) only [(vmp)])
  rcases hk : us.length with _ | k
  ·exact ⟨_, .none, by simp only [AV.low, AV.low.lows], rfl⟩
  ·refine ⟨_, .rsl (ty := 3) (ver := k) (imm := 0) (ag := false) (cells := ixs (k + 1)) (es := ixs (k + 1)) (es' := ixs (k + 1)) (Nat.le_refl _) (by rw [Nat.sub_self]; rfl) (by rw [List.drop_zero, ixs_cells]) (by omega) (by rw [ixs_len]) (by omega) (fun e he => by unfold ixs at he; obtain ⟨x, _, rfl⟩ := List.mem_map.1 he; rfl) FrzL.refl, by simp only [AV.low]; exact ixs_low _ _, rfl⟩
theorem ixI_ok (f : FuncId) (caps : List AV) (k : Nat) (hk : k ≤ 1099511627776) (S : Nat → List Ent) (I : Nat → Prop) (Bad : Nat → List Ent → Prop) (hSl : ∀ i j, (S i).length = (S j).length) (h0 : I 0)
  (hf : ∀ i, i < k → I i → ACalls E f (i64 (i : Nat) :: caps) (S i) fun r τ => (r = boolV false ∧ I (i + 1) ∧ τ = S (i + 1)) ∨ (r = boolV true ∧ Bad i τ)) :
  ACalls E 113 [.sl (ixs k), .fn f [] caps] (S 0) fun r τ => (r = i64 (-1) ∧ I k ∧ τ = S k) ∨ ∃ i : Nat, r = i64 i ∧ i < k ∧ I i ∧ Bad i τ := by
 refine xacalls T0 .stay [] Tryz.func113 rfl (by kernel_rfl) (by kernel_rfl) (by simp [Tryz.ntmps113]) ?_
 (simp only [ixs_len, (vmA), Nat.reduceEqDiff, reduceIte, Nat.reduceAdd, Int.reduceToNat, Int.reduceLE, Int.reduceLT, Int.reduceEq, Int.reduceNe, Int.reduceAdd, Int.reduceSub, Int.reduceNeg, Nat.reduceLT, Nat.reduceLeDiff, Nat.reduceBEq, undef, (stA), Nat.reduceMul]; try simp (disch := omega) only [(vmp)])
 refine xloop (α := Nat) T0 (fun i => [(0, .sl (ixs k)), (1, .fn f [] caps), (7, i64 k), (8, i64 i)]) (fun i => S i) (fun _ => []) (fun i => i ≤ k ∧ I i) (fun i => k - i) (by kernel_rfl)
  ⟨0, ⟨by omega, h0⟩, by (simp only [(vmA), Nat.reduceEqDiff, reduceIte, Nat.reduceAdd, Int.reduceToNat, Int.reduceLE, Int.reduceLT, Int.reduceEq, Int.reduceNe, Int.reduceAdd, Int.reduceSub, Int.reduceNeg, Nat.reduceLT, Nat.reduceLeDiff, Nat.reduceBEq, undef, (stA), Nat.reduceMul, Int.natCast_zero]; try simp (disch := omega) only [(vmp)]), rfl, rfl⟩ ?_
 rintro i ⟨hi, hI⟩
 by_cases h : (i : Int) < k
 ·have hi' : i < k := by omega
  have hge : (ixs k).getD i .un = i64 (i : Nat) := by simp [ixs, List.getD, hi']
  (simp only [h, hge, ixs_len, (vmA), Nat.reduceEqDiff, reduceIte, Nat.reduceAdd, Int.reduceToNat, Int.reduceLE, Int.reduceLT, Int.reduceEq, Int.reduceNe, Int.reduceAdd, Int.reduceSub, Int.reduceNeg, Nat.reduceLT, Nat.reduceLeDiff, Nat.reduceBEq, undef, (stA), Nat.reduceMul]; try simp (disch := omega) only [(vmp)])
  refine xWait.of (hf i hi' hI) ?_
  rintro r τ (⟨rfl, hI1, rfl⟩ | ⟨rfl, hB⟩)
  ·rw [hSl i (i + 1)]
   (simp only [(vmA), Nat.reduceEqDiff, reduceIte, Nat.reduceAdd, Int.reduceToNat, Int.reduceLE, Int.reduceLT, Int.reduceEq, Int.reduceNe, Int.reduceAdd, Int.reduceSub, Int.reduceNeg, Nat.reduceLT, Nat.reduceLeDiff, Nat.reduceBEq, undef, (stA), Nat.reduceMul]; try simp (disch := omega) only [(vmp)])
   exact ⟨i + 1, ⟨by omega, hI1⟩, by omega, rfl, rfl⟩
  ·(simp only [(vmA), Nat.reduceEqDiff, reduceIte, Nat.reduceAdd, Int.reduceToNat, Int.reduceLE, Int.reduceLT, Int.reduceEq, Int.reduceNe, Int.reduceAdd, Int.reduceSub, Int.reduceNeg, Nat.reduceLT, Nat.reduceLeDiff, Nat.reduceBEq, undef, (stA), Nat.reduceMul]; try simp (disch := omega) only [(vmp)])
   exact .inr ⟨i, rfl, hi', hI, by rw [List.take_append_drop]; exact hB⟩
 ·(simp only [h, (vmA), Nat.reduceEqDiff, reduceIte, Nat.reduceAdd, Int.reduceToNat, Int.reduceLE, Int.reduceLT, Int.reduceEq, Int.reduceNe, Int.reduceAdd, Int.reduceSub, Int.reduceNeg, Nat.reduceLT, Nat.reduceLeDiff, Nat.reduceBEq, undef, (stA), Nat.reduceMul]; try simp (disch := omega) only [(vmp)])
  have : i = k := by omega
  subst this
  exact .inl ⟨hI, rfl⟩
theorem conI_ok (f : FuncId) (caps : List AV) (k : Nat) (hk : k ≤ 1099511627776) (S : Nat → List Ent) (I : Nat → Prop) (Bad : Nat → List Ent → Prop) (hSl : ∀ i j, (S i).length = (S j).length) (h0 : I 0)
  (hf : ∀ i, i < k → I i → ACalls E f (i64 (i : Nat) :: caps) (S i) fun r τ => (r = boolV false ∧ I (i + 1) ∧ τ = S (i + 1)) ∨ (r = boolV true ∧ Bad i τ)) :
  ACalls E 84 [.sl (ixs k), .fn f [] caps] (S 0) fun r τ => (r = boolV false ∧ I k ∧ τ = S k) ∨ (r = boolV true ∧ ∃ i, i < k ∧ I i ∧ Bad i τ) := by
 refine xacalls T0 .stay [] Tryz.func84 rfl (by kernel_rfl) (by kernel_rfl) (by simp [Tryz.ntmps84]) ?_
 (simp only [(vmA), Nat.reduceEqDiff, reduceIte, Nat.reduceAdd, Int.reduceToNat, Int.reduceLE, Int.reduceLT, Int.reduceEq, Int.reduceNe, Int.reduceAdd, Int.reduceSub, Int.reduceNeg, Nat.reduceLT, Nat.reduceLeDiff, Nat.reduceBEq, undef, (stA), Nat.reduceMul]; try simp (disch := omega) only [(vmp)])
 refine xWait.of (ixI_ok f caps k hk S I Bad hSl h0 hf) ?_
 rintro r τ (⟨rfl, hI1, rfl⟩ | ⟨i, rfl, h1, h2, h3⟩)
 ·rw [hSl 0 k]
  (simp only [(vmA), Nat.reduceEqDiff, reduceIte, Nat.reduceAdd, Int.reduceToNat, Int.reduceLE, Int.reduceLT, Int.reduceEq, Int.reduceNe, Int.reduceAdd, Int.reduceSub, Int.reduceNeg, Nat.reduceLT, Nat.reduceLeDiff, Nat.reduceBEq, undef, (stA), Nat.reduceMul]; try simp (disch := omega) only [(vmp)])
  exact .inl hI1
 ·have hi : (0 : Int) ≤ i := by omega
  (simp only [hi, (vmA), Nat.reduceEqDiff, reduceIte, Nat.reduceAdd, Int.reduceToNat, Int.reduceLE, Int.reduceLT, Int.reduceEq, Int.reduceNe, Int.reduceAdd, Int.reduceSub, Int.reduceNeg, Nat.reduceLT, Nat.reduceLeDiff, Nat.reduceBEq, undef, (stA), Nat.reduceMul]; try simp (disch := omega) only [(vmp)])
  exact .inr ⟨i, h1, h2, by rw [List.take_append_drop]; exact h3⟩
end Go.D
