/- Which types are valid, by the document. -/
import Derived.Test.YtoobkfjkohadnaaGreatDoorFnC
import Derived.Test.YtoobkfjkohadnaaGreatDoorFnE
import Derived.Sort.Walk0
set_option linter.unusedVariables false
set_option linter.unusedSimpArgs false
set_option linter.unnecessarySimpa false
set_option maxRecDepth 100000
namespace Go.D
open Go Go.Vm Go.Proofs Go.RowKit

theorem IsVarR_ok (n : List UInt8) (σ : List Ent) : ACalls E 98 [.str n] σ fun r τ => r = boolV (varB n) ∧ τ = σ := by
  refine xacalls T0 .drop [] Tryz.func98 rfl (by kernel_rfl) (by kernel_rfl) (by simp [Tryz.ntmps98]) ?_
  unfold varB btw
  by_cases h : (n.length : Int) = 2
  rotate_left
  · (simp only [h, (vmA), Nat.reduceEqDiff, reduceIte, Nat.reduceAdd, Int.reduceToNat, Int.reduceLE, Int.reduceLT, Int.reduceEq, Int.reduceNe, Int.reduceAdd, Int.reduceSub, Int.reduceNeg, Nat.reduceLT, Nat.reduceLeDiff, Nat.reduceBEq, undef, (stA), Nat.reduceMul]; try simp (disch := omega) only [(vmp)])
  have h0 : (0 : Int) < n.length := by omega
  have h1 : (1 : Int) < n.length := by omega
  by_cases ha : ((n.getD 0 0).toNat : Int) = 39
  rotate_left
  · (simp only [h, ha, (vmA), Nat.reduceEqDiff, reduceIte, Nat.reduceAdd, Int.reduceToNat, Int.reduceLE, Int.reduceLT, Int.reduceEq, Int.reduceNe, Int.reduceAdd, Int.reduceSub, Int.reduceNeg, Nat.reduceLT, Nat.reduceLeDiff, Nat.reduceBEq, undef, (stA), Nat.reduceMul]; try simp (disch := omega) only [(vmp)])
  by_cases hb : (97 : Int) ≤ ((n.getD 1 0).toNat : Int)
  rotate_left
  · (simp only [h, ha, hb, (vmA), Nat.reduceEqDiff, reduceIte, Nat.reduceAdd, Int.reduceToNat, Int.reduceLE, Int.reduceLT, Int.reduceEq, Int.reduceNe, Int.reduceAdd, Int.reduceSub, Int.reduceNeg, Nat.reduceLT, Nat.reduceLeDiff, Nat.reduceBEq, undef, (stA), Nat.reduceMul]; try simp (disch := omega) only [(vmp)])
  · (simp only [h, ha, hb, (vmA), Nat.reduceEqDiff, reduceIte, Nat.reduceAdd, Int.reduceToNat, Int.reduceLE, Int.reduceLT, Int.reduceEq, Int.reduceNe, Int.reduceAdd, Int.reduceSub, Int.reduceNeg, Nat.reduceLT, Nat.reduceLeDiff, Nat.reduceBEq, undef, (stA), Nat.reduceMul]; try simp (disch := omega) only [(vmp)])
theorem IsConT_ok (t : List UInt8) (hl : t.length ≤ 1099511627776) (σ : List Ent) : ACalls E 106 [.str t] σ fun r τ => r = boolV (conB t) ∧ τ = σ := IsConR_ok t hl σ
theorem smallT_ok (a b : Int) (σ : List Ent) : ACalls E 78 [i64 a, i64 b] σ fun r τ => r = boolV (fitsB (a, b)) ∧ τ = σ := by
  refine xacalls T0 .drop [] Tryz.func78 rfl (by kernel_rfl) (by kernel_rfl) (by simp [Tryz.ntmps78]) ?_
  unfold fitsB
  by_cases h : a ≤ 2000
  · (simp only [h, (vmA), Nat.reduceEqDiff, reduceIte, Nat.reduceAdd, Int.reduceToNat, Int.reduceLE, Int.reduceLT, Int.reduceEq, Int.reduceNe, Int.reduceAdd, Int.reduceSub, Int.reduceNeg, Nat.reduceLT, Nat.reduceLeDiff, Nat.reduceBEq, undef, (stA), Nat.reduceMul]; try simp (disch := omega) only [(vmp)])
  · (simp only [h, (vmA), Nat.reduceEqDiff, reduceIte, Nat.reduceAdd, Int.reduceToNat, Int.reduceLE, Int.reduceLT, Int.reduceEq, Int.reduceNe, Int.reduceAdd, Int.reduceSub, Int.reduceNeg, Nat.reduceLT, Nat.reduceLeDiff, Nat.reduceBEq, undef, (stA), Nat.reduceMul]; try simp (disch := omega) only [(vmp)])
theorem grown_ok (a b c d : Int) (σ : List Ent) : ACalls E 107 [i64 a, i64 b, i64 c, i64 d] σ fun r τ => r = .tup [i64 (wr (a + c)), i64 (max b (wr (d + 1)))] ∧ τ = σ := by
  refine xacalls T0 .drop [] Tryz.func107 rfl (by kernel_rfl) (by kernel_rfl) (by simp [Tryz.ntmps107]) ?_
  (simp only [wr, (vmA), Nat.reduceEqDiff, reduceIte, Nat.reduceAdd, Int.reduceToNat, Int.reduceLE, Int.reduceLT, Int.reduceEq, Int.reduceNe, Int.reduceAdd, Int.reduceSub, Int.reduceNeg, Nat.reduceLT, Nat.reduceLeDiff, Nat.reduceBEq, undef, (stA), Nat.reduceMul]; try simp (disch := omega) only [(vmp)])
def ZR (t : Tr) : Prop := ∀ σ : List Ent, lenT t → ACalls E 79 [tyV t] σ fun r τ => r = .tup [i64 (ofT t).1, i64 (ofT t).2] ∧ τ = σ
set_option maxHeartbeats 4000000 in
theorem sizeType_step (d n : List UInt8) (us : List Tr) (ih : ∀ u ∈ us, ZR u) : ZR (.mk d n us) := by
  intro σ hl
  simp only [lenT] at hl
  refine xacalls T0 .drop [] Tryz.func79 rfl (by kernel_rfl) (by kernel_rfl) (by simp [Tryz.ntmps79]) ?_
  (simp only [tyV, tysV_len, (vmA), Nat.reduceEqDiff, reduceIte, Nat.reduceAdd, Int.reduceToNat, Int.reduceLE, Int.reduceLT, Int.reduceEq, Int.reduceNe, Int.reduceAdd, Int.reduceSub, Int.reduceNeg, Nat.reduceLT, Nat.reduceLeDiff, Nat.reduceBEq, undef, (stA), Nat.reduceMul]; try simp (disch := omega) only [(vmp)])
  refine xloop (α := Nat × List Ent) T0 (fun x => [(2, i64 (aboveS (1, 1) (ofTs (us.take x.1))).1), (3, i64 (aboveS (1, 1) (ofTs (us.take x.1))).2), (9, .sl (tysV us)), (10, i64 us.length), (11, i64 x.1)]) (fun _ => σ)
    (fun x => .arr 24 [.str d, .str n, .sl (tysV us)] 0 0 :: x.2) (fun x => x.1 ≤ us.length) (fun x => us.length - x.1) (by kernel_rfl)
    ⟨(0, []), by simp, by (simp only [List.take_zero, ofTs, aboveS, (vmA), Nat.reduceEqDiff, reduceIte, Nat.reduceAdd, Int.reduceToNat, Int.reduceLE, Int.reduceLT, Int.reduceEq, Int.reduceNe, Int.reduceAdd, Int.reduceSub, Int.reduceNeg, Nat.reduceLT, Nat.reduceLeDiff, Nat.reduceBEq, undef, (stA), Nat.reduceMul, Int.natCast_zero]; try simp (disch := omega) only [(vmp)]), rfl, rfl⟩ ?_
  rintro ⟨i, junk⟩ hi
  simp only at hi
  by_cases h : (i : Int) < us.length
  · have hi' : i < us.length := by omega
    have hu : us[i]? = some us[i] := List.getElem?_eq_getElem hi'
    have hmem : us[i] ∈ us := List.getElem_mem hi'
    obtain ⟨s1, s2⟩ := take_split us i _ hu
    generalize us[i] = u at *
    have hg := tysV_get hu
    have hc := fun σ' => ih u hmem σ' (lenTs_mem hl.2.2 hmem)
    have hnext : aboveS (1, 1) (ofTs (us.take (i + 1))) = (wr ((aboveS (1, 1) (ofTs (us.take i))).1 + (ofT u).1), max (aboveS (1, 1) (ofTs (us.take i))).2 (wr ((ofT u).2 + 1))) := by
      rw [s1, ofTs_map, ofTs_map, List.map_append]; exact aboveS_app _ _ _
    rcases hr : ofT u with ⟨a, b⟩
    rw [hr] at hnext
    simp only [hr] at hc
    have hgr := fun σ' => grown_ok (aboveS (1, 1) (ofTs (us.take i))).1 (aboveS (1, 1) (ofTs (us.take i))).2 a b σ'
    generalize aboveS (1, 1) (ofTs (us.take i)) = A at *
    cases u with
    | mk d2 n2 us2 =>
    simp only [tyV] at hg hc
    (simp only [h, hg, tysV_len, (vmA), Nat.reduceEqDiff, reduceIte, Nat.reduceAdd, Int.reduceToNat, Int.reduceLE, Int.reduceLT, Int.reduceEq, Int.reduceNe, Int.reduceAdd, Int.reduceSub, Int.reduceNeg, Nat.reduceLT, Nat.reduceLeDiff, Nat.reduceBEq, undef, (stA), Nat.reduceMul]; try simp (disch := omega) only [(vmp)])
    refine xWait.go (hc _) ?_
    (simp only [(vmA), Nat.reduceEqDiff, reduceIte, Nat.reduceAdd, Int.reduceToNat, Int.reduceLE, Int.reduceLT, Int.reduceEq, Int.reduceNe, Int.reduceAdd, Int.reduceSub, Int.reduceNeg, Nat.reduceLT, Nat.reduceLeDiff, Nat.reduceBEq, undef, (stA), Nat.reduceMul]; try simp (disch := omega) only [(vmp)])
    refine xWait.go (hgr _) ?_
    (simp only [(vmA), Nat.reduceEqDiff, reduceIte, Nat.reduceAdd, Int.reduceToNat, Int.reduceLE, Int.reduceLT, Int.reduceEq, Int.reduceNe, Int.reduceAdd, Int.reduceSub, Int.reduceNeg, Nat.reduceLT, Nat.reduceLeDiff, Nat.reduceBEq, undef, (stA), Nat.reduceMul]; try simp (disch := omega) only [(vmp)])
    refine ⟨(i + 1, junk ++ [.arr 24 [.str d2, .str n2, .sl (tysV us2)] 0 0]), by simp only; omega, by simp only; omega, ?_⟩
    simp only [hnext]
    first | trivial | exact ⟨rfl, rfl⟩
  · have hie : i = us.length := by omega
    subst hie
    (simp only [h, List.take_of_length_le (Nat.le_refl _), (vmA), Nat.reduceEqDiff, reduceIte, Nat.reduceAdd, Int.reduceToNat, Int.reduceLE, Int.reduceLT, Int.reduceEq, Int.reduceNe, Int.reduceAdd, Int.reduceSub, Int.reduceNeg, Nat.reduceLT, Nat.reduceLeDiff, Nat.reduceBEq, undef, (stA), Nat.reduceMul]; try simp (disch := omega) only [(vmp)])
    simp only [ofT]
theorem sizeType_ok : ∀ (m : Nat) (t : Tr), SizeOf.sizeOf t ≤ m → ZR t
  | 0, .mk d n us, h => by simp at h
  | m + 1, .mk d n us, h => sizeType_step d n us fun u hu => sizeType_ok m u (by
      have := List.sizeOf_lt_of_mem hu
      simp at h; omega)
def WT (t : Tr) : Prop := ∀ σ : List Ent, bulkT t ≤ 1048576 → ACalls E 77 [tyV t] σ fun r τ => r = boolV (typeB conB t) ∧ τ = σ
set_option maxHeartbeats 4000000 in
theorem wellType_step (d n : List UInt8) (us : List Tr) (ih : ∀ u ∈ us, WT u) : WT (.mk d n us) := by
  intro σ hb
  have hl := bulk_len _ hb
  simp only [bulkT] at hb
  have hcn := fun σ' => IsConT_ok n (by omega) σ'
  have hva := fun σ' => IsVarR_ok n σ'
  simp only [lenT] at hl
  refine xacalls T0 .drop [] Tryz.func77 rfl (by kernel_rfl) (by kernel_rfl) (by simp [Tryz.ntmps77]) ?_
  (simp only [tyV, tysV_len, (vmA), Nat.reduceEqDiff, reduceIte, Nat.reduceAdd, Int.reduceToNat, Int.reduceLE, Int.reduceLT, Int.reduceEq, Int.reduceNe, Int.reduceAdd, Int.reduceSub, Int.reduceNeg, Nat.reduceLT, Nat.reduceLeDiff, Nat.reduceBEq, undef, (stA), Nat.reduceMul]; try simp (disch := omega) only [(vmp)])
  refine xCond.cut (.seq (.block (.cut (fun ts g l => tget ts 1 = .ref σ.length 0 0 ∧ tget ts 3 = i64 (partsI d) ∧ g = σ ∧ l = [.arr 24 [.str d, .str n, .sl (tysV us)] 0 0] ∧ ¬ d = kiData ∧ ¬ d = kiVar) ?_))) ?_
  · rintro ts g l ⟨h1, h3, rfl, rfl, m4, m5⟩
    have hty : typeB conB (.mk d n us) = (decide (n = []) && (decide (partsI d = us.length) && typeBs conB us)) := by
      simp only [typeB, m4, m5, decide_false, Bool.not_false, Bool.true_or, Bool.true_and, Bool.false_or]
    rw [hty]
    (simp only [h1, h3, tysV_len, (vmA), Nat.reduceEqDiff, reduceIte, Nat.reduceAdd, Int.reduceToNat, Int.reduceLE, Int.reduceLT, Int.reduceEq, Int.reduceNe, Int.reduceAdd, Int.reduceSub, Int.reduceNeg, Nat.reduceLT, Nat.reduceLeDiff, Nat.reduceBEq, undef, (stA), Nat.reduceMul]; try simp (disch := omega) only [(vmp)])
    refine xloop (α := Nat × List Ent) T0 (fun x => [(1, .ref g.length 0 0), (3, i64 (partsI d)), (42, .sl (tysV us)), (43, i64 us.length), (44, i64 x.1)]) (fun _ => g)
      (fun x => .arr 24 [.str d, .str n, .sl (tysV us)] 0 0 :: x.2) (fun x => x.1 ≤ us.length ∧ typeBs conB (us.take x.1) = true) (fun x => us.length - x.1) (by kernel_rfl)
      ⟨(0, []), ⟨by simp, rfl⟩, by (simp only [h1, h3, (vmA), Nat.reduceEqDiff, reduceIte, Nat.reduceAdd, Int.reduceToNat, Int.reduceLE, Int.reduceLT, Int.reduceEq, Int.reduceNe, Int.reduceAdd, Int.reduceSub, Int.reduceNeg, Nat.reduceLT, Nat.reduceLeDiff, Nat.reduceBEq, undef, (stA), Nat.reduceMul, Int.natCast_zero]; try simp (disch := omega) only [(vmp)]), rfl, rfl⟩ ?_
    rintro ⟨i, junk⟩ ⟨hi, hall⟩
    simp only at hi hall
    by_cases h : (i : Int) < us.length
    · have hi' : i < us.length := by omega
      have hu : us[i]? = some us[i] := List.getElem?_eq_getElem hi'
      have hmem : us[i] ∈ us := List.getElem_mem hi'
      obtain ⟨s1, s2⟩ := take_split us i _ hu
      have hbm := bulk_mem hmem
      generalize us[i] = u at *
      have hg := tysV_get hu
      have hc := fun σ' => ih u hmem σ' (by omega)
      have hnext : typeBs conB (us.take (i + 1)) = typeB conB u := by
        rw [s1, typeBs_app, hall]; simp [typeBs]
      have hbad : typeB conB u = false → typeBs conB us = false := fun e => by
        rw [s2, typeBs_app]; simp only [typeBs, e, Bool.false_and, Bool.and_false]
      cases hq : typeB conB u
      · rw [hbad hq]
        simp only [hq] at hc
        cases u with
        | mk d2 n2 us2 =>
        simp only [tyV] at hg hc
        (simp only [h, hg, tysV_len, (vmA), Nat.reduceEqDiff, reduceIte, Nat.reduceAdd, Int.reduceToNat, Int.reduceLE, Int.reduceLT, Int.reduceEq, Int.reduceNe, Int.reduceAdd, Int.reduceSub, Int.reduceNeg, Nat.reduceLT, Nat.reduceLeDiff, Nat.reduceBEq, undef, (stA), Nat.reduceMul]; try simp (disch := omega) only [(vmp)])
        refine xWait.go (hc _) ?_
        (simp only [(vmA), Nat.reduceEqDiff, reduceIte, Nat.reduceAdd, Int.reduceToNat, Int.reduceLE, Int.reduceLT, Int.reduceEq, Int.reduceNe, Int.reduceAdd, Int.reduceSub, Int.reduceNeg, Nat.reduceLT, Nat.reduceLeDiff, Nat.reduceBEq, undef, (stA), Nat.reduceMul]; try simp (disch := omega) only [(vmp)])
      · rw [hq] at hnext
        simp only [hq] at hc
        cases u with
        | mk d2 n2 us2 =>
        simp only [tyV] at hg hc
        (simp only [h, hg, tysV_len, (vmA), Nat.reduceEqDiff, reduceIte, Nat.reduceAdd, Int.reduceToNat, Int.reduceLE, Int.reduceLT, Int.reduceEq, Int.reduceNe, Int.reduceAdd, Int.reduceSub, Int.reduceNeg, Nat.reduceLT, Nat.reduceLeDiff, Nat.reduceBEq, undef, (stA), Nat.reduceMul]; try simp (disch := omega) only [(vmp)])
        refine xWait.go (hc _) ?_
        (simp only [(vmA), Nat.reduceEqDiff, reduceIte, Nat.reduceAdd, Int.reduceToNat, Int.reduceLE, Int.reduceLT, Int.reduceEq, Int.reduceNe, Int.reduceAdd, Int.reduceSub, Int.reduceNeg, Nat.reduceLT, Nat.reduceLeDiff, Nat.reduceBEq, undef, (stA), Nat.reduceMul]; try simp (disch := omega) only [(vmp)])
        exact ⟨(i + 1, junk ++ [.arr 24 [.str d2, .str n2, .sl (tysV us2)] 0 0]), ⟨by simp only; omega, hnext⟩, by simp only; omega, rfl, rfl⟩
    · have hie : i = us.length := by omega
      subst hie
      rw [List.take_of_length_le (Nat.le_refl _)] at hall
      rw [hall]
      have hsym : ((us.length : Int) = partsI d) = (partsI d = us.length) := propext eq_comm
      by_cases hn : n = []
      · (simp only [h, hn, hsym, tysV_len, (vmA), Nat.reduceEqDiff, reduceIte, Nat.reduceAdd, Int.reduceToNat, Int.reduceLE, Int.reduceLT, Int.reduceEq, Int.reduceNe, Int.reduceAdd, Int.reduceSub, Int.reduceNeg, Nat.reduceLT, Nat.reduceLeDiff, Nat.reduceBEq, undef, (stA), Nat.reduceMul]; try simp (disch := omega) only [(vmp)])
        try simp only [Bool.and_true]
      · (simp only [h, hn, (vmA), Nat.reduceEqDiff, reduceIte, Nat.reduceAdd, Int.reduceToNat, Int.reduceLE, Int.reduceLT, Int.reduceEq, Int.reduceNe, Int.reduceAdd, Int.reduceSub, Int.reduceNeg, Nat.reduceLT, Nat.reduceLeDiff, Nat.reduceBEq, undef, (stA), Nat.reduceMul]; try simp (disch := omega) only [(vmp)])
  · have fin : ∀ k : List UInt8, d = k → ¬ k = kiData → ¬ k = kiVar → ¬ d = [100, 97, 116, 97] ∧ ¬ d = [118, 97, 114] := fun k e h1 h2 => ⟨e ▸ h1, e ▸ h2⟩
    by_cases h0 : d = kiInt
    · have t0 : (d = [105, 110, 116]) = True := eq_true h0
      have hp : partsI d = 0 := by rw [h0]; decide
      obtain ⟨m4, m5⟩ := fin _ h0 (by decide) (by decide)
      (simp only [t0, hp, m4, m5, (vmA), Nat.reduceEqDiff, reduceIte, Nat.reduceAdd, Int.reduceToNat, Int.reduceLE, Int.reduceLT, Int.reduceEq, Int.reduceNe, Int.reduceAdd, Int.reduceSub, Int.reduceNeg, Nat.reduceLT, Nat.reduceLeDiff, Nat.reduceBEq, undef, (stA), Nat.reduceMul]; try simp (disch := omega) only [(vmp)])
      try exact not_false
    have n0 : ¬ d = [105, 110, 116] := h0
    by_cases h1 : d = kiBool
    · have t1 : (d = [98, 111, 111, 108]) = True := eq_true h1
      have hp : partsI d = 0 := by rw [h1]; decide
      obtain ⟨m4, m5⟩ := fin _ h1 (by decide) (by decide)
      (simp only [n0, t1, hp, m4, m5, (vmA), Nat.reduceEqDiff, reduceIte, Nat.reduceAdd, Int.reduceToNat, Int.reduceLE, Int.reduceLT, Int.reduceEq, Int.reduceNe, Int.reduceAdd, Int.reduceSub, Int.reduceNeg, Nat.reduceLT, Nat.reduceLeDiff, Nat.reduceBEq, undef, (stA), Nat.reduceMul]; try simp (disch := omega) only [(vmp)])
      try exact not_false
    have n1 : ¬ d = [98, 111, 111, 108] := h1
    by_cases h2 : d = kiUnit
    · have t2 : (d = [117, 110, 105, 116]) = True := eq_true h2
      have hp : partsI d = 0 := by rw [h2]; decide
      obtain ⟨m4, m5⟩ := fin _ h2 (by decide) (by decide)
      (simp only [n0, n1, t2, hp, m4, m5, (vmA), Nat.reduceEqDiff, reduceIte, Nat.reduceAdd, Int.reduceToNat, Int.reduceLE, Int.reduceLT, Int.reduceEq, Int.reduceNe, Int.reduceAdd, Int.reduceSub, Int.reduceNeg, Nat.reduceLT, Nat.reduceLeDiff, Nat.reduceBEq, undef, (stA), Nat.reduceMul]; try simp (disch := omega) only [(vmp)])
      try exact not_false
    have n2 : ¬ d = [117, 110, 105, 116] := h2
    by_cases h3 : d = kiText
    · have t3 : (d = [116, 101, 120, 116]) = True := eq_true h3
      have hp : partsI d = 0 := by rw [h3]; decide
      obtain ⟨m4, m5⟩ := fin _ h3 (by decide) (by decide)
      (simp only [n0, n1, n2, t3, hp, m4, m5, (vmA), Nat.reduceEqDiff, reduceIte, Nat.reduceAdd, Int.reduceToNat, Int.reduceLE, Int.reduceLT, Int.reduceEq, Int.reduceNe, Int.reduceAdd, Int.reduceSub, Int.reduceNeg, Nat.reduceLT, Nat.reduceLeDiff, Nat.reduceBEq, undef, (stA), Nat.reduceMul]; try simp (disch := omega) only [(vmp)])
      try exact not_false
    have n3 : ¬ d = [116, 101, 120, 116] := h3
    by_cases h4 : d = kiPair
    · have t4 : (d = [112, 97, 105, 114]) = True := eq_true h4
      have hp : partsI d = 2 := by rw [h4]; decide
      obtain ⟨m4, m5⟩ := fin _ h4 (by decide) (by decide)
      (simp only [n0, n1, n2, n3, t4, hp, m4, m5, (vmA), Nat.reduceEqDiff, reduceIte, Nat.reduceAdd, Int.reduceToNat, Int.reduceLE, Int.reduceLT, Int.reduceEq, Int.reduceNe, Int.reduceAdd, Int.reduceSub, Int.reduceNeg, Nat.reduceLT, Nat.reduceLeDiff, Nat.reduceBEq, undef, (stA), Nat.reduceMul]; try simp (disch := omega) only [(vmp)])
      try exact not_false
    have n4 : ¬ d = [112, 97, 105, 114] := h4
    by_cases h5 : d = kiFn
    · have t5 : (d = [102, 110]) = True := eq_true h5
      have hp : partsI d = 2 := by rw [h5]; decide
      obtain ⟨m4, m5⟩ := fin _ h5 (by decide) (by decide)
      (simp only [n0, n1, n2, n3, n4, t5, hp, m4, m5, (vmA), Nat.reduceEqDiff, reduceIte, Nat.reduceAdd, Int.reduceToNat, Int.reduceLE, Int.reduceLT, Int.reduceEq, Int.reduceNe, Int.reduceAdd, Int.reduceSub, Int.reduceNeg, Nat.reduceLT, Nat.reduceLeDiff, Nat.reduceBEq, undef, (stA), Nat.reduceMul]; try simp (disch := omega) only [(vmp)])
      try exact not_false
    have n5 : ¬ d = [102, 110] := h5
    by_cases h6 : d = kiList
    · have t6 : (d = [108, 105, 115, 116]) = True := eq_true h6
      have hp : partsI d = 1 := by rw [h6]; decide
      obtain ⟨m4, m5⟩ := fin _ h6 (by decide) (by decide)
      (simp only [n0, n1, n2, n3, n4, n5, t6, hp, m4, m5, (vmA), Nat.reduceEqDiff, reduceIte, Nat.reduceAdd, Int.reduceToNat, Int.reduceLE, Int.reduceLT, Int.reduceEq, Int.reduceNe, Int.reduceAdd, Int.reduceSub, Int.reduceNeg, Nat.reduceLT, Nat.reduceLeDiff, Nat.reduceBEq, undef, (stA), Nat.reduceMul]; try simp (disch := omega) only [(vmp)])
      try exact not_false
    have n6 : ¬ d = [108, 105, 115, 116] := h6
    by_cases h7 : d = kiArray
    · have t7 : (d = [97, 114, 114, 97, 121]) = True := eq_true h7
      have hp : partsI d = 1 := by rw [h7]; decide
      obtain ⟨m4, m5⟩ := fin _ h7 (by decide) (by decide)
      (simp only [n0, n1, n2, n3, n4, n5, n6, t7, hp, m4, m5, (vmA), Nat.reduceEqDiff, reduceIte, Nat.reduceAdd, Int.reduceToNat, Int.reduceLE, Int.reduceLT, Int.reduceEq, Int.reduceNe, Int.reduceAdd, Int.reduceSub, Int.reduceNeg, Nat.reduceLT, Nat.reduceLeDiff, Nat.reduceBEq, undef, (stA), Nat.reduceMul]; try simp (disch := omega) only [(vmp)])
      try exact not_false
    have n7 : ¬ d = [97, 114, 114, 97, 121] := h7
    by_cases h8 : d = kiData
    · have t8 : (d = [100, 97, 116, 97]) = True := eq_true h8
      have hty : typeB conB (.mk d n us) = (conB n && decide (us.length = 0)) := by
        have m5 : ¬ d = kiVar := by rw [h8]; decide
        have hp : partsI kiData = 0 := by decide
        simp only [typeB, h8, m5, hp, decide_true, decide_false, Bool.not_true, Bool.not_false, Bool.false_or, Bool.true_or, Bool.true_and]
        cases us with
        | nil => simp [typeBs]
        | cons a r =>
          have e : ¬ (0 : Int) = ((a :: r).length : Int) := by simp only [List.length_cons]; omega
          simp only [e, decide_false, Bool.false_and]
          simp
      rw [hty]
      (simp only [n0, n1, n2, n3, n4, n5, n6, n7, t8, (vmA), Nat.reduceEqDiff, reduceIte, Nat.reduceAdd, Int.reduceToNat, Int.reduceLE, Int.reduceLT, Int.reduceEq, Int.reduceNe, Int.reduceAdd, Int.reduceSub, Int.reduceNeg, Nat.reduceLT, Nat.reduceLeDiff, Nat.reduceBEq, undef, (stA), Nat.reduceMul]; try simp (disch := omega) only [(vmp)])
      refine xWait.go (hcn _) ?_
      cases hcv : conB n
      · (simp only [(vmA), Nat.reduceEqDiff, reduceIte, Nat.reduceAdd, Int.reduceToNat, Int.reduceLE, Int.reduceLT, Int.reduceEq, Int.reduceNe, Int.reduceAdd, Int.reduceSub, Int.reduceNeg, Nat.reduceLT, Nat.reduceLeDiff, Nat.reduceBEq, undef, (stA), Nat.reduceMul]; try simp (disch := omega) only [(vmp)])
      · (simp only [tysV_len, (vmA), Nat.reduceEqDiff, reduceIte, Nat.reduceAdd, Int.reduceToNat, Int.reduceLE, Int.reduceLT, Int.reduceEq, Int.reduceNe, Int.reduceAdd, Int.reduceSub, Int.reduceNeg, Nat.reduceLT, Nat.reduceLeDiff, Nat.reduceBEq, undef, (stA), Nat.reduceMul]; try simp (disch := omega) only [(vmp)])
        have : ((us.length : Int) = 0) = (us.length = 0) := propext (by omega)
        simp only [this, Bool.true_and]
    have n8 : ¬ d = [100, 97, 116, 97] := h8
    by_cases h9 : d = kiVar
    · have t9 : (d = [118, 97, 114]) = True := eq_true h9
      have hty : typeB conB (.mk d n us) = (varB n && decide (us.length = 0)) := by
        have m4 : ¬ d = kiData := by rw [h9]; decide
        have hp : partsI kiVar = 0 := by decide
        simp only [typeB, h9, m4, hp, decide_true, decide_false, Bool.not_true, Bool.not_false, Bool.false_or, Bool.true_or, Bool.or_true, Bool.true_and]
        cases us with
        | nil => simp [typeBs]
        | cons a r =>
          have e : ¬ (0 : Int) = ((a :: r).length : Int) := by simp only [List.length_cons]; omega
          simp only [e, decide_false, Bool.false_and]
          simp
      rw [hty]
      (simp only [n0, n1, n2, n3, n4, n5, n6, n7, n8, t9, (vmA), Nat.reduceEqDiff, reduceIte, Nat.reduceAdd, Int.reduceToNat, Int.reduceLE, Int.reduceLT, Int.reduceEq, Int.reduceNe, Int.reduceAdd, Int.reduceSub, Int.reduceNeg, Nat.reduceLT, Nat.reduceLeDiff, Nat.reduceBEq, undef, (stA), Nat.reduceMul]; try simp (disch := omega) only [(vmp)])
      refine xWait.go (hva _) ?_
      cases hcv : varB n
      · (simp only [(vmA), Nat.reduceEqDiff, reduceIte, Nat.reduceAdd, Int.reduceToNat, Int.reduceLE, Int.reduceLT, Int.reduceEq, Int.reduceNe, Int.reduceAdd, Int.reduceSub, Int.reduceNeg, Nat.reduceLT, Nat.reduceLeDiff, Nat.reduceBEq, undef, (stA), Nat.reduceMul]; try simp (disch := omega) only [(vmp)])
      · (simp only [tysV_len, (vmA), Nat.reduceEqDiff, reduceIte, Nat.reduceAdd, Int.reduceToNat, Int.reduceLE, Int.reduceLT, Int.reduceEq, Int.reduceNe, Int.reduceAdd, Int.reduceSub, Int.reduceNeg, Nat.reduceLT, Nat.reduceLeDiff, Nat.reduceBEq, undef, (stA), Nat.reduceMul]; try simp (disch := omega) only [(vmp)])
        have : ((us.length : Int) = 0) = (us.length = 0) := propext (by omega)
        simp only [this, Bool.true_and]
    have n9 : ¬ d = [118, 97, 114] := h9
    have hty : typeB conB (.mk d n us) = false := by
      have hp : partsI d = -1 := by unfold partsI; simp only [h0, h1, h2, h3, h4, h5, h6, h7, h8, h9, or_self, if_false]
      have : ¬ (-1 : Int) = us.length := by omega
      simp only [typeB, hp, this, decide_false, Bool.false_and, Bool.and_false]
    rw [hty]
    (simp only [n0, n1, n2, n3, n4, n5, n6, n7, n8, n9, (vmA), Nat.reduceEqDiff, reduceIte, Nat.reduceAdd, Int.reduceToNat, Int.reduceLE, Int.reduceLT, Int.reduceEq, Int.reduceNe, Int.reduceAdd, Int.reduceSub, Int.reduceNeg, Nat.reduceLT, Nat.reduceLeDiff, Nat.reduceBEq, undef, (stA), Nat.reduceMul]; try simp (disch := omega) only [(vmp)])
theorem wellType_ok : ∀ (m : Nat) (t : Tr), SizeOf.sizeOf t ≤ m → WT t
  | 0, .mk d n us, h => by simp at h
  | m + 1, .mk d n us, h => wellType_step d n us fun u hu => wellType_ok m u (by
      have := List.sizeOf_lt_of_mem hu
      simp at h; omega)
/-- The document's types. -/
theorem ValidTypeR_ok (t : Tr) (hb : bulkT t ≤ 1048576) (σ : List Ent) : ACalls E 42 [tyV t] σ fun r τ => r = boolV (validT conB t) ∧ τ = σ := by
  have h1 := fun σ' => wellType_ok _ t (Nat.le_refl _) σ' hb
  have h2 := fun σ' => sizeType_ok _ t (Nat.le_refl _) σ' (bulk_len t hb)
  have h3 := fun σ' => smallT_ok (ofT t).1 (ofT t).2 σ'
  refine xacalls T0 .drop [] Tryz.func42 rfl (by kernel_rfl) (by kernel_rfl) (by simp [Tryz.ntmps42]) ?_
  unfold validT
  generalize ofT t = sz at *
  generalize typeB conB t = tb at *
  rcases sz with ⟨x, y⟩
  cases t with
  | mk d n us =>
  simp only [tyV] at h1 h2
  simp only at h3
  (simp only [tyV, (vmA), Nat.reduceEqDiff, reduceIte, Nat.reduceAdd, Int.reduceToNat, Int.reduceLE, Int.reduceLT, Int.reduceEq, Int.reduceNe, Int.reduceAdd, Int.reduceSub, Int.reduceNeg, Nat.reduceLT, Nat.reduceLeDiff, Nat.reduceBEq, undef, (stA), Nat.reduceMul]; try simp (disch := omega) only [(vmp)])
  refine xWait.go (h1 _) ?_
  cases tb
  · (simp only [(vmA), Nat.reduceEqDiff, reduceIte, Nat.reduceAdd, Int.reduceToNat, Int.reduceLE, Int.reduceLT, Int.reduceEq, Int.reduceNe, Int.reduceAdd, Int.reduceSub, Int.reduceNeg, Nat.reduceLT, Nat.reduceLeDiff, Nat.reduceBEq, undef, (stA), Nat.reduceMul]; try simp (disch := omega) only [(vmp)])
    try rfl
  · (simp only [(vmA), Nat.reduceEqDiff, reduceIte, Nat.reduceAdd, Int.reduceToNat, Int.reduceLE, Int.reduceLT, Int.reduceEq, Int.reduceNe, Int.reduceAdd, Int.reduceSub, Int.reduceNeg, Nat.reduceLT, Nat.reduceLeDiff, Nat.reduceBEq, undef, (stA), Nat.reduceMul]; try simp (disch := omega) only [(vmp)])
    refine xWait.go (h2 _) ?_
    (simp only [(vmA), Nat.reduceEqDiff, reduceIte, Nat.reduceAdd, Int.reduceToNat, Int.reduceLE, Int.reduceLT, Int.reduceEq, Int.reduceNe, Int.reduceAdd, Int.reduceSub, Int.reduceNeg, Nat.reduceLT, Nat.reduceLeDiff, Nat.reduceBEq, undef, (stA), Nat.reduceMul]; try simp (disch := omega) only [(vmp)])
    refine xWait.go (h3 _) ?_
    (simp only [Bool.true_and, (vmA), Nat.reduceEqDiff, reduceIte, Nat.reduceAdd, Int.reduceToNat, Int.reduceLE, Int.reduceLT, Int.reduceEq, Int.reduceNe, Int.reduceAdd, Int.reduceSub, Int.reduceNeg, Nat.reduceLT, Nat.reduceLeDiff, Nat.reduceBEq, undef, (stA), Nat.reduceMul]; try simp (disch := omega) only [(vmp)])
    try rfl
end Go.D

/- What makes a type another one, as a list in order; the same by the document (plain). -/
set_option linter.unusedVariables false
set_option maxRecDepth 100000
namespace Go.D
open Go Go.Vm Go.Proofs Go.RowKit

/-! ### Lists in order -/
theorem less_lt (a b : List UInt8) : Op.bytesLess a b = decide (a < b) := Go.Proofs.bytesLess_eq a b
theorem lt_irr (a : List UInt8) : ¬ a < a := List.lt_irrefl a
theorem lt_tr {a b c : List UInt8} (h : a < b) (h2 : b < c) : a < c := List.lt_trans h h2
theorem lt_tri (a b : List UInt8) : a < b ∨ a = b ∨ b < a := by
  by_cases h : a < b
  · exact .inl h
  · by_cases h2 : b < a
    · exact .inr (.inr h2)
    · exact .inr (.inl (List.le_antisymm (List.not_lt.1 h2) (List.not_lt.1 h)))
theorem asc_ext : ∀ (a b : List (List UInt8)), a.Pairwise (· < ·) → b.Pairwise (· < ·) → (∀ x, x ∈ a ↔ x ∈ b) → a = b
  | [], [], _, _, _ => rfl
  | [], y :: ys, _, _, h => by have := (h y).2 (by simp); simp at this
  | x :: xs, [], _, _, h => by have := (h x).1 (by simp); simp at this
  | x :: xs, y :: ys, ha, hb, h => by
    obtain ⟨a1, a2⟩ := List.pairwise_cons.1 ha
    obtain ⟨b1, b2⟩ := List.pairwise_cons.1 hb
    have hxy : x = y := by
      rcases List.mem_cons.1 ((h x).1 (by simp)) with e | hm
      · exact e
      · rcases List.mem_cons.1 ((h y).2 (by simp)) with e | hm2
        · exact e.symm
        · exact absurd (lt_tr (b1 x hm) (a1 y hm2)) (lt_irr _)
    subst hxy
    rw [asc_ext xs ys a2 b2 fun z => ⟨fun hz => by
      rcases List.mem_cons.1 ((h z).1 (by simp [hz])) with e | hm
      · subst e; exact absurd (a1 z hz) (lt_irr _)
      · exact hm, fun hz => by
      rcases List.mem_cons.1 ((h z).2 (by simp [hz])) with e | hm
      · subst e; exact absurd (b1 z hz) (lt_irr _)
      · exact hm⟩]
theorem sortS_asc {l : List (List UInt8)} (h : l.Nodup) : (sortS l).Pairwise (· < ·) := by
  have h1 : (sortS l).Pairwise fun a b => decide (a ≤ b) = true := List.pairwise_mergeSort (fun a b c h1 h2 => by simp only [decide_eq_true_eq] at *; exact List.le_trans h1 h2) (fun a b => by simp only [Bool.or_eq_true, decide_eq_true_eq]; exact List.le_total a b) l
  have h2 : (sortS l).Nodup := (List.mergeSort_perm l _).nodup_iff.2 h
  exact (h1.and h2).imp fun {a b} ⟨h3, h4⟩ => by
    rcases lt_tri a b with h | h | h
    · exact h
    · exact absurd h h4
    · simp only [decide_eq_true_eq] at h3; exact absurd h (List.not_lt.2 h3)
theorem sortS_mem {l : List (List UInt8)} {x : List UInt8} : x ∈ sortS l ↔ x ∈ l := List.mem_mergeSort

/-! ### What the document finds -/
def atC (n : List UInt8) (s : List Cl) : Nat := (s.takeWhile fun c => decide (c.1 < n)).length
def insC (n : List UInt8) (t : Tr) (s : List Cl) : List Cl := s.take (atC n s) ++ (n, t) :: s.drop (atC n s)
mutual
def fitT : Tr → Tr → List Cl → List Cl × Bool
  | .mk d n us, .mk d' n' us', s =>
    if d = kiVar then
      match Sub'.look s n with
      | some x => (s, sameB x (.mk d' n' us'))
      | none => (insC n (.mk d' n' us') s, true)
    else if d = d' ∧ n = n' ∧ us.length = us'.length then fitTs us us' s else ([], false)
def fitTs : List Tr → List Tr → List Cl → List Cl × Bool
  | t :: ts, u :: us, s => if (fitT t u s).2 = true then fitTs ts us (fitT t u s).1 else ([], false)
  | _, _, s => (s, true)
end
def ascC (l : List Cl) : Prop := l.Pairwise fun a b => a.1 < b.1
theorem insC_nil (n : List UInt8) (t : Tr) : insC n t [] = [(n, t)] := rfl
theorem insC_cons (n : List UInt8) (t : Tr) (c : Cl) (r : List Cl) : insC n t (c :: r) = if c.1 < n then c :: insC n t r else (n, t) :: c :: r := by
  unfold insC atC
  by_cases h : c.1 < n
  · simp [h]
  · simp [h]
theorem insC_look (n : List UInt8) (t : Tr) : ∀ (s : List Cl) (m : List UInt8), Sub'.look s n = none → Sub'.look (insC n t s) m = if m = n then some t else Sub'.look s m
  | [], m, _ => by simp [insC_nil, Sub'.look]
  | c :: r, m, h => by
    have hn : ¬ n = c.1 := fun e => by simp only [Sub'.look, e, if_true] at h; cases h
    have hr : Sub'.look r n = none := by simpa only [Sub'.look, hn, if_false] using h
    rw [insC_cons]
    split
    · simp only [Sub'.look, insC_look n t r m hr]
      by_cases e : m = c.1
      · have : ¬ m = n := fun e2 => hn (e2 ▸ e)
        rw [if_pos e, if_neg this, if_pos e]
      · simp [e]
    · simp only [Sub'.look]
theorem insC_mem {n : List UInt8} {t : Tr} : ∀ {s : List Cl} {c : Cl}, c ∈ insC n t s ↔ c = (n, t) ∨ c ∈ s
  | [], c => by simp [insC_nil]
  | a :: r, c => by
    rw [insC_cons]
    split
    · rw [List.mem_cons, insC_mem, List.mem_cons]
      constructor
      · rintro (h | h | h)
        · exact .inr (.inl h)
        · exact .inl h
        · exact .inr (.inr h)
      · rintro (h | h | h)
        · exact .inr (.inl h)
        · exact .inl h
        · exact .inr (.inr h)
    · rw [List.mem_cons]
theorem insC_asc {n : List UInt8} {t : Tr} : ∀ {s : List Cl}, ascC s → Sub'.look s n = none → ascC (insC n t s)
  | [], _, _ => by rw [insC_nil]; exact List.pairwise_singleton _ _
  | c :: r, h, hl => by
    have hn : ¬ n = c.1 := fun e => by simp only [Sub'.look, e, if_true] at hl; cases hl
    have hr : Sub'.look r n = none := by simpa only [Sub'.look, hn, if_false] using hl
    obtain ⟨h1, h2⟩ := List.pairwise_cons.1 h
    rw [insC_cons]
    split
    · rename_i hc
      refine List.pairwise_cons.2 ⟨fun x hx => ?_, insC_asc h2 hr⟩
      rcases insC_mem.1 hx with rfl | hx
      · exact hc
      · exact h1 x hx
    · rename_i hc
      have hnc : n < c.1 := by
        rcases lt_tri n c.1 with h | h | h
        · exact h
        · exact absurd h hn
        · exact absurd h hc
      refine List.pairwise_cons.2 ⟨fun x hx => ?_, h⟩
      rcases List.mem_cons.1 hx with rfl | hx
      · exact hnc
      · exact lt_tr hnc (h1 x hx)
/-- The same is known, in another order. -/
def RelC (S : Sub') (s : List Cl) : Prop := (∀ n, Sub'.look s n = Sub'.look S n) ∧ ascC s
mutual
theorem fit_mat : ∀ (g u : Tr) (S : Sub') (s : List Cl), RelC S s → (fitT g u s).2 = (matT g u S).1 ∧ ((matT g u S).1 = true → RelC (matT g u S).2 (fitT g u s).1)
  | .mk d n us, .mk d' n' us', S, s, h => by
    unfold fitT matT
    by_cases hd : d = kiVar
    · simp only [hd, if_true]
      rw [h.1 n]
      cases hl : Sub'.look S n with
      | none =>
        have hs : Sub'.look s n = none := by rw [h.1, hl]
        simp only
        refine ⟨trivial, fun _ => ⟨fun m => ?_, insC_asc h.2 hs⟩⟩
        rw [insC_look n _ s m hs, look_app, h.1]
        by_cases e : m = n
        · subst e; simp [hl]
        · simp only [e, if_false]; cases Sub'.look S m <;> rfl
      | some x => exact ⟨rfl, fun _ => h⟩
    · simp only [hd, if_false]
      by_cases hc : d = d' ∧ n = n' ∧ us.length = us'.length
      · simp only [hc, and_self, if_true]
        exact fit_mats us us' S s h
      · simp only [hc, if_false]
        exact ⟨trivial, fun e => by cases e⟩
theorem fit_mats : ∀ (g u : List Tr) (S : Sub') (s : List Cl), RelC S s → (fitTs g u s).2 = (matTs g u S).1 ∧ ((matTs g u S).1 = true → RelC (matTs g u S).2 (fitTs g u s).1)
  | [], _, S, s, h => by simp only [fitTs, matTs]; exact ⟨trivial, fun _ => h⟩
  | _ :: _, [], S, s, h => by simp only [fitTs, matTs]; exact ⟨trivial, fun _ => h⟩
  | t :: ts, u :: us, S, s, h => by
    obtain ⟨h1, h2⟩ := fit_mat t u S s h
    simp only [fitTs, matTs, h1]
    cases hm : (matT t u S).1
    · simp only [Bool.false_eq_true, if_false]
      exact ⟨trivial, fun e => by cases e⟩
    · simp only [if_true]
      exact fit_mats ts us _ _ (h2 hm)
end
mutual
theorem mat_keys : ∀ (g u : Tr) (S : Sub') (acc : List (List UInt8)), (∀ n x, Sub'.look S n = some x → n ∈ acc) → ∀ n x, Sub'.look (matT g u S).2 n = some x → n ∈ ordT g acc
  | .mk d n us, .mk d' n' us', S, acc, h, m, x, hm => by
    unfold matT at hm
    by_cases hd : d = kiVar
    · simp only [hd, if_true] at hm
      have hpre := ords_pre us (if d = kiVar ∧ n ∉ acc then acc ++ [n] else acc)
      have key : m ∈ (if d = kiVar ∧ n ∉ acc then acc ++ [n] else acc) := by
        cases hl : Sub'.look S n with
        | none =>
          simp only [hl, look_app] at hm
          by_cases e : m = n
          · subst e
            by_cases hn : m ∈ acc
            · rw [if_neg (fun hh => hh.2 hn)]; exact hn
            · rw [if_pos ⟨hd, hn⟩]; simp
          · simp only [e, if_false] at hm
            have : m ∈ acc := by
              cases hl2 : Sub'.look S m with
              | none => rw [hl2] at hm; cases hm
              | some y => exact h m y hl2
            split
            · simp [this]
            · exact this
        | some y =>
          simp only [hl] at hm
          have := h m x hm
          split
          · simp [this]
          · exact this
      simp only [ordT]
      exact hpre.subset key
    · simp only [hd, if_false] at hm
      simp only [ordT, hd, false_and, if_false]
      by_cases hc : d = d' ∧ n = n' ∧ us.length = us'.length
      · simp only [hc, and_self, if_true] at hm
        exact mat_keyss us us' S acc h m x hm
      · simp only [hc, if_false] at hm
        exact (ords_pre us acc).subset (h m x hm)
theorem mat_keyss : ∀ (g u : List Tr) (S : Sub') (acc : List (List UInt8)), (∀ n x, Sub'.look S n = some x → n ∈ acc) → ∀ n x, Sub'.look (matTs g u S).2 n = some x → n ∈ ordTs g acc
  | [], _, S, acc, h, m, x, hm => by simp only [matTs] at hm; simp only [ordTs]; exact h m x hm
  | t :: ts, [], S, acc, h, m, x, hm => by
    simp only [matTs] at hm
    exact (ords_pre (t :: ts) acc).subset (h m x hm)
  | t :: ts, u :: us, S, acc, h, m, x, hm => by
    simp only [matTs] at hm
    simp only [ordTs]
    cases hb : (matT t u S).1
    · simp only [hb, Bool.false_eq_true, if_false] at hm
      exact (ords_pre ts _).subset (mat_keys t u S acc h m x hm)
    · simp only [hb, if_true] at hm
      exact mat_keyss ts us _ _ (fun a b hab => mat_keys t u S acc h a b hab) m x hm
end
end Go.D

/- A type that another one becomes, by what is found (plain). -/
set_option linter.unusedVariables false
set_option maxRecDepth 100000
namespace Go.D
open Go Go.Vm Go.Proofs Go.RowKit

theorem look_some_mem : ∀ {s : Sub'} {n : List UInt8} {x : Tr}, Sub'.look s n = some x → (n, x) ∈ s
  | [], n, x, h => by cases h
  | c :: r, n, x, h => by
    simp only [Sub'.look] at h
    by_cases e : n = c.1
    · simp only [e, if_true, Option.some.injEq] at h; subst h; subst e; simp
    · simp only [e, if_false] at h; exact List.mem_cons_of_mem _ (look_some_mem h)
theorem asc_look : ∀ {s : List Cl} {c : Cl}, ascC s → c ∈ s → Sub'.look s c.1 = some c.2
  | a :: r, c, h, hc => by
    obtain ⟨h1, h2⟩ := List.pairwise_cons.1 h
    rcases List.mem_cons.1 hc with rfl | hc
    · simp [Sub'.look]
    · have hne : ¬ c.1 = a.1 := fun e => lt_irr _ (e ▸ h1 c hc)
      simp only [Sub'.look, hne, if_false]; exact asc_look h2 hc
theorem look_self_of : ∀ {s : List Cl} {n : List UInt8}, n ∈ s.map (·.1) → (Sub'.look s n).isSome = true
  | c :: r, n, h => by
    simp only [Sub'.look]
    by_cases e : n = c.1
    · simp [e]
    · simp only [e, if_false]
      refine look_self_of ?_
      simp only [List.map_cons, List.mem_cons, e, false_or] at h; exact h
theorem clsOf_self {s : List Cl} (h : ascC s) : clsOf s (s.map (·.1)) = s := by
  unfold clsOf
  rw [List.map_map]
  conv => rhs; rw [← List.map_id s]
  refine List.map_congr_left fun c hc => ?_
  simp only [Function.comp, asc_look h hc, Option.getD_some, id]
/-- What the document finds is what the program finds. -/
theorem fit_inst {g u : Tr} (hg : typeB conB g = true) (hm : (matT g u []).1 = true) : fitT g u [] = (clsOf (matT g u []).2 (sortS (ordT g [])), true) := by
  obtain ⟨h1, h2⟩ := fit_mat g u [] [] ⟨fun _ => rfl, List.Pairwise.nil⟩
  obtain ⟨h3, h4⟩ := h2 hm
  have hnd := (ordT_names g [] hg (by simp) (by simp)).1
  have hk : (fitT g u []).1.map (·.1) = sortS (ordT g []) := by
    refine asc_ext _ _ (List.pairwise_map.2 h4) (sortS_asc hnd) fun x => ?_
    rw [sortS_mem]
    constructor
    · intro hx
      have h5 := look_self_of hx
      rw [h3] at h5
      obtain ⟨y, hy⟩ := Option.isSome_iff_exists.1 h5
      exact mat_keys g u [] [] (fun n x h => by cases h) x y hy
    · intro hx
      have h5 := matT_dom g u [] [] hg hm (fun n hn => by cases hn) x hx
      rw [← h3] at h5
      obtain ⟨y, hy⟩ := Option.isSome_iff_exists.1 h5
      exact List.mem_map.2 ⟨_, look_some_mem hy, rfl⟩
  refine Prod.ext ?_ (by rw [h1, hm])
  show (fitT g u []).1 = _
  rw [← clsOf_self h4, hk]
  unfold clsOf
  simp only [h3]
theorem put_vT_some {F : Sub'} {n : List UInt8} {x : Tr} (h : Sub'.look F n = some x) : putT F (vT n) = x := by rw [put_vT, h]; rfl
theorem put_non {S : Sub'} {d n : List UInt8} {us : List Tr} (h : ¬ d = kiVar) : putT S (.mk d n us) = .mk d n (putTs S us) := by
  unfold putT; rw [if_neg (fun hh => h hh.1)]
mutual
/-- What was found makes the type the other one. -/
theorem mat_put : ∀ (g u : Tr) (S F : Sub'), typeB conB g = true → (matT g u S).1 = true → (∀ n x, Sub'.look (matT g u S).2 n = some x → Sub'.look F n = some x) → putT F g = u
  | .mk d n us, .mk d' n' us', S, F, hg, h, hF => by
    unfold matT at h hF
    by_cases hd : d = kiVar
    · subst hd
      obtain ⟨rfl, _⟩ := vT_args hg
      simp only [if_true] at h hF
      cases hl : Sub'.look S n with
      | none =>
        simp only [hl] at hF
        exact put_vT_some (hF n _ (by rw [look_app, hl]; simp))
      | some x =>
        simp only [hl] at h hF
        rw [← (sameB_eq _ _ h)]
        exact put_vT_some (hF n x hl)
    · simp only [hd, if_false] at h hF
      by_cases hc : d = d' ∧ n = n' ∧ us.length = us'.length
      · rw [if_pos hc] at h
        rw [if_pos hc] at hF
        simp only [typeB, Bool.and_eq_true] at hg
        obtain ⟨rfl, rfl, hlen⟩ := hc
        rw [put_non hd, mat_puts us us' S F hg.2.2.2.2 hlen h hF]
      · rw [if_neg hc] at h; cases h
theorem mat_puts : ∀ (g u : List Tr) (S F : Sub'), typeBs conB g = true → g.length = u.length → (matTs g u S).1 = true → (∀ n x, Sub'.look (matTs g u S).2 n = some x → Sub'.look F n = some x) → putTs F g = u
  | [], [], S, F, _, _, _, _ => rfl
  | t :: ts, u :: us, S, F, hg, hl, h, hF => by
    simp only [typeBs, Bool.and_eq_true] at hg
    simp only [matTs] at h hF
    cases hb : (matT t u S).1
    · simp only [hb, Bool.false_eq_true, if_false] at h
    · simp only [hb, if_true] at h hF
      rw [putTs, mat_put t u S F hg.1 hb (fun n x hx => hF n x (matTs_mono ts us _ n x hx)), mat_puts ts us _ F hg.2 (by simpa using hl) h hF]
end
mutual
/-- A type becomes each one that a substitution makes of it. -/
theorem mat_sub : ∀ (g : Tr) (s S : Sub'), typeB conB g = true → (∀ n x, Sub'.look S n = some x → x = putT s (vT n)) → (matT g (putT s g) S).1 = true ∧ ∀ n x, Sub'.look (matT g (putT s g) S).2 n = some x → x = putT s (vT n)
  | .mk d n us, s, S, hg, hS => by
    by_cases hd : d = kiVar
    · subst hd
      obtain ⟨rfl, _⟩ := vT_args hg
      show (matT (vT n) (putT s (vT n)) S).1 = true ∧ ∀ m x, Sub'.look (matT (vT n) (putT s (vT n)) S).2 m = some x → x = putT s (vT m)
      generalize hw : putT s (vT n) = w
      rcases w with ⟨d2, n2, us2⟩
      unfold vT matT
      simp only [if_true]
      cases hl : Sub'.look S n with
      | none =>
        simp only [look_app]
        refine ⟨trivial, fun m x hx => ?_⟩
        by_cases e : m = n
        · subst e
          simp only [hl, if_true, Option.some.injEq] at hx
          rw [← hx]; exact hw.symm
        · cases hl2 : Sub'.look S m with
          | none => simp only [hl2, e, if_false] at hx; cases hx
          | some y => simp only [hl2, Option.some.injEq] at hx; exact hx ▸ hS m y hl2
      | some x =>
        simp only
        refine ⟨?_, hS⟩
        have := hS n x hl
        rw [this]; show sameB (putT s (vT n)) _ = true
        rw [hw]; exact sameB_refl _
    · rw [put_non hd]
      simp only [typeB, Bool.and_eq_true] at hg
      unfold matT
      rw [if_neg hd, if_pos ⟨rfl, rfl, by rw [putTs_map, List.length_map]⟩]
      exact mat_subs us s S hg.2.2.2.2 hS
theorem mat_subs : ∀ (g : List Tr) (s S : Sub'), typeBs conB g = true → (∀ n x, Sub'.look S n = some x → x = putT s (vT n)) → (matTs g (putTs s g) S).1 = true ∧ ∀ n x, Sub'.look (matTs g (putTs s g) S).2 n = some x → x = putT s (vT n)
  | [], s, S, _, hS => ⟨rfl, hS⟩
  | t :: ts, s, S, hg, hS => by
    simp only [typeBs, Bool.and_eq_true] at hg
    obtain ⟨h1, h2⟩ := mat_sub t s S hg.1 hS
    simp only [putTs, matTs, h1, if_true]
    exact mat_subs ts s _ hg.2 h2
end
/-- How small what is found is. -/
def smallBy (k j : Nat) (S : Sub') : Prop := ∀ n x, Sub'.look S n = some x → cntT x ≤ k ∧ deepT x ≤ j
mutual
theorem mat_small : ∀ (g u : Tr) (S : Sub') (k j : Nat), cntT u ≤ k → deepT u ≤ j → smallBy k j S → smallBy k j (matT g u S).2
  | .mk d n us, .mk d' n' us', S, k, j, hk, hj, hS => by
    unfold matT
    by_cases hd : d = kiVar
    · simp only [hd, if_true]
      cases hl : Sub'.look S n with
      | none =>
        simp only
        intro m x hx
        rw [look_app] at hx
        cases hl2 : Sub'.look S m with
        | none =>
          rw [hl2] at hx; simp only at hx
          split at hx
          · cases hx; exact ⟨hk, hj⟩
          · cases hx
        | some y => rw [hl2] at hx; cases hx; exact hS m _ hl2
      | some x => exact hS
    · simp only [hd, if_false]
      split
      · simp only [cntT, deepT] at hk hj
        exact mat_smalls us us' S k j (by omega) (by omega) hS
      · exact hS
theorem mat_smalls : ∀ (g u : List Tr) (S : Sub') (k j : Nat), cntTs u ≤ k → deepTs u ≤ j → smallBy k j S → smallBy k j (matTs g u S).2
  | [], _, S, k, j, _, _, hS => by simp only [matTs]; exact hS
  | _ :: _, [], S, k, j, _, _, hS => by simp only [matTs]; exact hS
  | t :: ts, u :: us, S, k, j, hk, hj, hS => by
    simp only [cntTs, deepTs] at hk hj
    simp only [matTs]
    split
    · exact mat_smalls ts us _ k j (by omega) (by omega) (mat_small t u S k j (by omega) (by omega) hS)
    · exact mat_small t u S k j (by omega) (by omega) hS
end
theorem fits_real {t : Tr} (h : cntT t ≤ 4611686018427387904) : fitsB (ofT t) = true ↔ cntT t ≤ 2000 ∧ deepT t ≤ 200 := by
  unfold fitsB
  rw [of_real t h]
  simp only [Bool.and_eq_true, decide_eq_true_eq]
  omega
theorem clsOf_look {S : Sub'} : ∀ {l : List (List UInt8)} {n : List UInt8} {x : Tr}, n ∈ l → Sub'.look S n = some x → Sub'.look (clsOf S l) n = some x
  | m :: r, n, x, hn, hx => by
    simp only [clsOf, List.map_cons, Sub'.look]
    by_cases e : n = m
    · subst e; simp [hx]
    · simp only [e, if_false]
      rcases List.mem_cons.1 hn with h | h
      · exact absurd h e
      · exact clsOf_look h hx
theorem asc_subst {l : List Cl} (h : ascC l) (h2 : ∀ c ∈ l, varB c.1 = true ∧ validT conB c.2 = true) : substB l = true := by
  refine substB_of fun i hi => ?_
  unfold substAt
  rw [List.getElem?_eq_getElem hi]
  obtain ⟨v1, v2⟩ := h2 _ (List.getElem_mem hi)
  simp only
  unfold nextC
  rw [v1, v2]
  simp only [Bool.true_and]
  cases hp : (l.take i).getLast? with
  | none => rfl
  | some p =>
    simp only
    have hi0 : 0 < i := by
      rcases Nat.eq_zero_or_pos i with e | e
      · subst e; simp at hp
      · exact e
    have hp2 : l[i - 1]? = some p := by
      rw [List.getLast?_eq_getElem?, List.length_take, Nat.min_eq_left (by omega), List.getElem?_take] at hp
      rwa [if_pos (by omega)] at hp
    rw [less_lt, decide_eq_true_eq]
    obtain ⟨h3, h4⟩ := List.getElem?_eq_some_iff.1 hp2
    rw [← h4]
    exact List.pairwise_iff_getElem.1 h (i - 1) i h3 hi (by omega)
end Go.D

/- A substitution put into a type, by the document. -/
set_option linter.unusedVariables false
set_option linter.unusedSimpArgs false
set_option linter.unnecessarySimpa false
set_option maxRecDepth 100000
namespace Go.D
open Go Go.Vm Go.Proofs Go.RowKit

def ofV (l : List Cl) (n : List UInt8) : AV := match Sub'.look l n with
  | some u => .tup [tyV u, boolV true]
  | none => .tup [.agg [.str [], .str [], .v (.slice none 0 0)], boolV false]
theorem look_take {l : List Cl} {n : List UInt8} {i : Nat} {c : Cl} (h : l[i]? = some c) (h0 : Sub'.look (l.take i) n = none) : (n = c.1 → Sub'.look l n = some c.2) ∧ (¬ n = c.1 → Sub'.look (l.take (i + 1)) n = none) := by
  obtain ⟨s1, s2⟩ := take_splitC l i c h
  obtain ⟨a, t⟩ := c
  constructor
  · intro hn
    simp only at hn
    subst hn
    rw [s2]
    clear s1 s2 h
    generalize l.take i = p at *
    generalize l.drop (i + 1) = q
    induction p with
    | nil => simp [Sub'.look]
    | cons e r ih =>
      unfold Sub'.look at h0
      by_cases hh : n = e.1
      · simp only [hh, if_true] at h0; cases h0
      · simp only [hh, if_false] at h0
        simp only [List.cons_append]
        unfold Sub'.look
        rw [if_neg hh]
        exact ih h0
  · intro hn
    rw [s1, look_app, h0]
    simp only [hn, if_false]
set_option maxHeartbeats 4000000 in
theorem of_ok (l : List Cl) (hl : lenC l) (n : List UInt8) (σ : List Ent) : ACalls E 52 [.sl (clsV l), .str n] σ fun r τ => r = ofV l n ∧ τ = σ := by
  refine xacalls T0 .drop [] Tryz.func52 rfl (by kernel_rfl) (by kernel_rfl) (by simp [Tryz.ntmps52]) ?_
  have hb := hl.1
  (simp only [clsV_len, (vmA), Nat.reduceEqDiff, reduceIte, Nat.reduceAdd, Int.reduceToNat, Int.reduceLE, Int.reduceLT, Int.reduceEq, Int.reduceNe, Int.reduceAdd, Int.reduceSub, Int.reduceNeg, Nat.reduceLT, Nat.reduceLeDiff, Nat.reduceBEq, undef, (stA), Nat.reduceMul]; try simp (disch := omega) only [(vmp)])
  refine xloop (α := Nat × List Ent) T0 (fun x => [(1, .str n), (4, .ref σ.length 0 0), (8, .sl (clsV l)), (9, i64 l.length), (10, i64 x.1)]) (fun _ => σ) (fun x => .arr 24 [.str [], .str [], .v (.slice none 0 0)] 0 0 :: x.2)
    (fun x => x.1 ≤ l.length ∧ Sub'.look (l.take x.1) n = none) (fun x => l.length - x.1) (by kernel_rfl)
    ⟨(0, []), ⟨by simp, rfl⟩, by (simp only [(vmA), Nat.reduceEqDiff, reduceIte, Nat.reduceAdd, Int.reduceToNat, Int.reduceLE, Int.reduceLT, Int.reduceEq, Int.reduceNe, Int.reduceAdd, Int.reduceSub, Int.reduceNeg, Nat.reduceLT, Nat.reduceLeDiff, Nat.reduceBEq, undef, (stA), Nat.reduceMul, Int.natCast_zero]; try simp (disch := omega) only [(vmp)]), rfl, rfl⟩ ?_
  rintro ⟨i, junk⟩ ⟨hi, hno⟩
  simp only at hi hno
  by_cases h : (i : Int) < l.length
  · have hi1 : i < l.length := by omega
    have hu : l[i]? = some l[i] := List.getElem?_eq_getElem hi1
    obtain ⟨k1, k2⟩ := look_take hu hno
    generalize l[i] = u at *
    have hg := clsV_get hu
    obtain ⟨a, t⟩ := u
    cases t with
    | mk b c cs =>
    simp only [clV, clC, tyCells] at hg
    by_cases ha : a = n
    · have k3 := k1 ha.symm
      unfold ofV
      rw [k3]
      (simp only [h, hg, ha, clsV_len, tyV, (vmA), Nat.reduceEqDiff, reduceIte, Nat.reduceAdd, Int.reduceToNat, Int.reduceLE, Int.reduceLT, Int.reduceEq, Int.reduceNe, Int.reduceAdd, Int.reduceSub, Int.reduceNeg, Nat.reduceLT, Nat.reduceLeDiff, Nat.reduceBEq, undef, (stA), Nat.reduceMul]; try simp (disch := omega) only [(vmp)])
      exact tysV_low _ _
    · (simp only [h, hg, ha, clsV_len, (vmA), Nat.reduceEqDiff, reduceIte, Nat.reduceAdd, Int.reduceToNat, Int.reduceLE, Int.reduceLT, Int.reduceEq, Int.reduceNe, Int.reduceAdd, Int.reduceSub, Int.reduceNeg, Nat.reduceLT, Nat.reduceLeDiff, Nat.reduceBEq, undef, (stA), Nat.reduceMul]; try simp (disch := omega) only [(vmp)])
      exact ⟨(i + 1, junk ++ [.arr 33 [.str a, .str b, .str c, .sl (tysV cs)] 0 0]), ⟨by simp only; omega, k2 (fun hh => ha hh.symm)⟩, by simp only; omega, rfl, rfl⟩
  · have hie : i = l.length := by omega
    subst hie
    rw [List.take_of_length_le (Nat.le_refl _)] at hno
    unfold ofV
    rw [hno]
    (simp only [h, (vmA), Nat.reduceEqDiff, reduceIte, Nat.reduceAdd, Int.reduceToNat, Int.reduceLE, Int.reduceLT, Int.reduceEq, Int.reduceNe, Int.reduceAdd, Int.reduceSub, Int.reduceNeg, Nat.reduceLT, Nat.reduceLeDiff, Nat.reduceBEq, undef, (stA), Nat.reduceMul]; try simp (disch := omega) only [(vmp)])
def PR (t : Tr) : Prop := ∀ (s : List Cl) (σ : List Ent), lenC s → okT t → ACalls E 21 [.sl (clsV s), tyV t] σ fun r τ => r = tyV (putT s t) ∧ τ = σ
set_option maxHeartbeats 8000000 in
theorem Put_step (d n : List UInt8) (us : List Tr) (ih : ∀ u ∈ us, PR u) : PR (.mk d n us) := by
  intro s σ hs hl
  obtain ⟨hfew, hdn⟩ := okT_down d n us hl
  have hof := fun σ' => of_ok s hs n σ'
  refine xacalls T0 .freeze [] Tryz.func21 rfl (by kernel_rfl) (by kernel_rfl) (by simp [Tryz.ntmps21]) ?_
  unfold ofV at hof
  obtain ⟨EE, hEE⟩ : ∃ EE, (∃ d2 n2 us2, Sub'.look s n = some (.mk d2 n2 us2) ∧ ¬ d = kiVar ∧ EE = Ent.arr 24 [.str d2, .str n2, .sl (tysV us2)] 0 0) ∨ (Sub'.look s n = none ∧ EE = Ent.arr 24 [.str [], .str [], .v (.slice none 0 0)] 0 0) ∨ (∃ d2 n2 us2, Sub'.look s n = some (.mk d2 n2 us2) ∧ d = kiVar) := by
    rcases hlk : Sub'.look s n with _ | ⟨d2, n2, us2⟩
    · exact ⟨_, .inr (.inl ⟨rfl, rfl⟩)⟩
    · by_cases hd : d = kiVar
      · exact ⟨.arr 0 [] 0 0, .inr (.inr ⟨d2, n2, us2, rfl, hd⟩)⟩
      · exact ⟨_, .inl ⟨d2, n2, us2, rfl, hd, rfl⟩⟩
  rw [← or_assoc] at hEE
  rcases hEE with hEE | ⟨d2, n2, us2, hlk, hd⟩
  rotate_left
  · have t1 : (d = [118, 97, 114]) = True := eq_true hd
    have heq : putT s (.mk d n us) = .mk d2 n2 us2 := by unfold putT; rw [if_pos ⟨hd, by rw [hlk]; rfl⟩, hlk]; rfl
    rw [heq]
    simp only [hlk, tyV] at hof
    (simp only [tyV, tysV_len, (vmA), Nat.reduceEqDiff, reduceIte, Nat.reduceAdd, Int.reduceToNat, Int.reduceLE, Int.reduceLT, Int.reduceEq, Int.reduceNe, Int.reduceAdd, Int.reduceSub, Int.reduceNeg, Nat.reduceLT, Nat.reduceLeDiff, Nat.reduceBEq, undef, (stA), Nat.reduceMul]; try simp (disch := omega) only [(vmp)])
    refine xWait.go (hof _) ?_
    (simp only [t1, (vmA), Nat.reduceEqDiff, reduceIte, Nat.reduceAdd, Int.reduceToNat, Int.reduceLE, Int.reduceLT, Int.reduceEq, Int.reduceNe, Int.reduceAdd, Int.reduceSub, Int.reduceNeg, Nat.reduceLT, Nat.reduceLeDiff, Nat.reduceBEq, undef, (stA), Nat.reduceMul]; try simp (disch := omega) only [(vmp)])
    exact ⟨_, .refl _, by simp only [AV.low, AV.low.lows, tysV_low, Bool.and_self], rfl⟩
  have heq : putT s (.mk d n us) = .mk d n (putTs s us) := by
    unfold putT
    rcases hEE with ⟨d2, n2, us2, hlk, n1, _⟩ | ⟨hlk, _⟩
    · rw [if_neg (fun h => n1 h.1)]
    · rw [if_neg (fun h => by rw [hlk] at h; cases h.2)]
  rw [heq]
  rcases hEE with ⟨d2, n2, us2, hlk, n1, hEE⟩ | ⟨hlk, hEE⟩
  rotate_left
  simp only [hlk] at hof
  (simp only [tyV, tysV_len, (vmA), Nat.reduceEqDiff, reduceIte, Nat.reduceAdd, Int.reduceToNat, Int.reduceLE, Int.reduceLT, Int.reduceEq, Int.reduceNe, Int.reduceAdd, Int.reduceSub, Int.reduceNeg, Nat.reduceLT, Nat.reduceLeDiff, Nat.reduceBEq, undef, (stA), Nat.reduceMul]; try simp (disch := omega) only [(vmp)])
  refine xWait.go (hof _) ?_
  (simp only [tysV_len, (vmA), Nat.reduceEqDiff, reduceIte, Nat.reduceAdd, Int.reduceToNat, Int.reduceLE, Int.reduceLT, Int.reduceEq, Int.reduceNe, Int.reduceAdd, Int.reduceSub, Int.reduceNeg, Nat.reduceLT, Nat.reduceLeDiff, Nat.reduceBEq, undef, (stA), Nat.reduceMul]; try simp (disch := omega) only [(vmp)])
  rotate_left
  have n1 : ¬ d = [118, 97, 114] := n1
  simp only [hlk, tyV] at hof
  (simp only [tyV, tysV_len, (vmA), Nat.reduceEqDiff, reduceIte, Nat.reduceAdd, Int.reduceToNat, Int.reduceLE, Int.reduceLT, Int.reduceEq, Int.reduceNe, Int.reduceAdd, Int.reduceSub, Int.reduceNeg, Nat.reduceLT, Nat.reduceLeDiff, Nat.reduceBEq, undef, (stA), Nat.reduceMul]; try simp (disch := omega) only [(vmp)])
  refine xWait.go (hof _) ?_
  (simp only [n1, tysV_len, (vmA), Nat.reduceEqDiff, reduceIte, Nat.reduceAdd, Int.reduceToNat, Int.reduceLE, Int.reduceLT, Int.reduceEq, Int.reduceNe, Int.reduceAdd, Int.reduceSub, Int.reduceNeg, Nat.reduceLT, Nat.reduceLeDiff, Nat.reduceBEq, undef, (stA), Nat.reduceMul]; try simp (disch := omega) only [(vmp)])
  all_goals
    refine xloop (α := Nat × List Ent × Nat) T0 (fun x => [(0, .sl (clsV s)), (4, .ref (σ.length + 1) 0 0), (7, .ref (σ.length + 3) 0 0), (30, .sl (tysV us)), (31, i64 us.length), (32, i64 x.1)]) (fun _ => σ)
      (fun x => .arr 24 [.str d, .str n, .sl (tysV us)] 0 0 :: .arr 24 [.str [], .str [], .v (.slice none 0 0)] 0 0 :: EE :: .arr 24 [.str d, .str n, rowT (σ.length + (x.2.2 + 4)) (putTs s (us.take x.1))] 0 0 :: x.2.1)
      (fun x => x.1 ≤ us.length ∧ (putTs s (us.take x.1) ≠ [] → x.2.1[x.2.2]? = some (.arr 24 ((putTs s (us.take x.1)).flatMap tyCells) ((putTs s (us.take x.1)).length - 1) 0))) (fun x => us.length - x.1) (by kernel_rfl)
      ⟨(0, [], 0), ⟨by simp, by simp [putTs]⟩, by (simp only [(vmA), Nat.reduceEqDiff, reduceIte, Nat.reduceAdd, Int.reduceToNat, Int.reduceLE, Int.reduceLT, Int.reduceEq, Int.reduceNe, Int.reduceAdd, Int.reduceSub, Int.reduceNeg, Nat.reduceLT, Nat.reduceLeDiff, Nat.reduceBEq, undef, (stA), Nat.reduceMul, Int.natCast_zero]; try simp (disch := omega) only [(vmp)]), rfl, by subst hEE; simp only [List.take_zero, putTs, rowT]⟩ ?_
    rintro ⟨i, junk, rid⟩ ⟨hi, hrow⟩
    simp only at hi hrow
    have hal : (putTs s (us.take i)).length = i := by rw [putTs_map]; simp; omega
    by_cases h : (i : Int) < us.length
    · have hi' : i < us.length := by omega
      have hu : us[i]? = some us[i] := List.getElem?_eq_getElem hi'
      obtain ⟨s1, s2⟩ := take_split us i _ hu
      have hmem : us[i] ∈ us := List.getElem_mem hi'
      generalize us[i] = u at *
      have hg := tysV_get hu
      have hc := fun σ' => ih u hmem s σ' hs (hdn u hmem)
      have hnext : putTs s (us.take (i + 1)) = putTs s (us.take i) ++ [putT s u] := by rw [s1, putTs_map, putTs_map]; simp
      rcases hr : putT s u with ⟨a3, b3, us3⟩
      rw [hr] at hnext
      simp only [hr] at hc
      cases u with
      | mk d4 n4 us4 =>
      simp only [tyV] at hg hc
      (simp only [h, hg, tysV_len, (vmA), Nat.reduceEqDiff, reduceIte, Nat.reduceAdd, Int.reduceToNat, Int.reduceLE, Int.reduceLT, Int.reduceEq, Int.reduceNe, Int.reduceAdd, Int.reduceSub, Int.reduceNeg, Nat.reduceLT, Nat.reduceLeDiff, Nat.reduceBEq, undef, (stA), Nat.reduceMul]; try simp (disch := omega) only [(vmp)])
      refine ydraw T0 [6, 8] (by kernel_rfl) (by kernel_rfl) (by kernel_rfl) (by kernel_rfl) ?_
      (simp only [(vmA), Nat.reduceEqDiff, reduceIte, Nat.reduceAdd, Int.reduceToNat, Int.reduceLE, Int.reduceLT, Int.reduceEq, Int.reduceNe, Int.reduceAdd, Int.reduceSub, Int.reduceNeg, Nat.reduceLT, Nat.reduceLeDiff, Nat.reduceBEq, undef, (stA), Nat.reduceMul]; try simp (disch := omega) only [(vmp)])
      refine yNext.go (by rfl) _ rfl (hc _) ?_
      generalize hacc : putTs s (us.take i) = acc at *
      rcases acc with _ | ⟨b0, r0⟩
      · (simp only [rowT, (vmA), Nat.reduceEqDiff, reduceIte, Nat.reduceAdd, Int.reduceToNat, Int.reduceLE, Int.reduceLT, Int.reduceEq, Int.reduceNe, Int.reduceAdd, Int.reduceSub, Int.reduceNeg, Nat.reduceLT, Nat.reduceLeDiff, Nat.reduceBEq, undef, (stA), Nat.reduceMul]; try simp (disch := omega) only [(vmp)])
        refine ⟨by unfold maxRoom; omega, (i + 1, junk ++ [.arr 24 [.str d4, .str n4, .sl (tysV us4)] 0 0, .arr 24 [.str a3, .str b3, .sl (tysV us3)] 0 0], junk.length + 1), ⟨by simp only; omega, fun _ => ?_⟩, by simp only; omega, rfl, ?_⟩
        · simp only [hnext]; simp [tyCells]
        · simp only [hnext, List.nil_append, rowT, List.length_nil, List.append_assoc, List.cons_append, Nat.add_assoc]
          try rfl
      · have h5 : ∀ e, (junk ++ [e])[rid]? = some (.arr 24 ((b0 :: r0).flatMap tyCells) ((b0 :: r0).length - 1) 0) := fun e => get_old (hrow (by simp))
        have e0 : (tyCells b0).length = 3 := by cases b0; rfl
        have hf0 : (List.flatMap tyCells r0).length = r0.length * 3 := tyCells_len r0
        simp only [List.length_cons] at hal
        (simp only [rowT, h5, (vmA), Nat.reduceEqDiff, reduceIte, Nat.reduceAdd, Int.reduceToNat, Int.reduceLE, Int.reduceLT, Int.reduceEq, Int.reduceNe, Int.reduceAdd, Int.reduceSub, Int.reduceNeg, Nat.reduceLT, Nat.reduceLeDiff, Nat.reduceBEq, undef, (stA), Nat.reduceMul]; try simp (disch := omega) only [(vmp)])
        refine ⟨⟨by omega, by omega, by omega, by unfold maxRoom; omega, by unfold maxRoom; omega⟩, ?_⟩
        refine ⟨(i + 1, (junk ++ [Ent.arr 24 [AV.str d4, AV.str n4, AV.sl (tysV us4)] 0 0]).set rid (Ent.arr 24 (tyCells b0 ++ (List.flatMap tyCells r0 ++ [AV.str a3, AV.str b3, AV.sl (tysV us3)])) (r0.length + 1 - 1 + 1) 0), rid), ⟨by simp only; omega, fun _ => ?_⟩, by simp only; omega, rfl, ?_⟩
        · simp only [hnext]
          rw [get_set_self (h5 _)]
          simp [tyCells]
        · simp only [hnext, rowT, List.cons_append, List.length_append, List.length_cons, List.length_nil]
          try rfl
    · have hie : i = us.length := by omega
      subst hie
      rw [List.take_of_length_le (Nat.le_refl _)] at hrow
      have hpl : (putTs s us).length = us.length := by rw [putTs_map, List.length_map]
      (simp only [h, List.take_of_length_le (Nat.le_refl _), (vmA), Nat.reduceEqDiff, reduceIte, Nat.reduceAdd, Int.reduceToNat, Int.reduceLE, Int.reduceLT, Int.reduceEq, Int.reduceNe, Int.reduceAdd, Int.reduceSub, Int.reduceNeg, Nat.reduceLT, Nat.reduceLeDiff, Nat.reduceBEq, undef, (stA), Nat.reduceMul]; try simp (disch := omega) only [(vmp)])
      generalize putTs s us = ps at *
      rcases ps with _ | ⟨u0, ur⟩
      · (simp only [rowT, (vmA), Nat.reduceEqDiff, reduceIte, Nat.reduceAdd, Int.reduceToNat, Int.reduceLE, Int.reduceLT, Int.reduceEq, Int.reduceNe, Int.reduceAdd, Int.reduceSub, Int.reduceNeg, Nat.reduceLT, Nat.reduceLeDiff, Nat.reduceBEq, undef, (stA), Nat.reduceMul]; try simp (disch := omega) only [(vmp)])
        exact ⟨_, .agg (.cons (.refl _) (.cons (.refl _) (.cons .none .nil))), by simp only [AV.low, AV.low.lows, Bool.and_self], by simp only [tysV]⟩
      · have hr := hrow (by simp)
        simp only [List.length_cons] at hr
        (simp only [rowT, (vmA), Nat.reduceEqDiff, reduceIte, Nat.reduceAdd, Int.reduceToNat, Int.reduceLE, Int.reduceLT, Int.reduceEq, Int.reduceNe, Int.reduceAdd, Int.reduceSub, Int.reduceNeg, Nat.reduceLT, Nat.reduceLeDiff, Nat.reduceBEq, undef, (stA), Nat.reduceMul]; try simp (disch := omega) only [(vmp)])
        have hf0 := tyCells_len (u0 :: ur)
        refine ⟨_, .agg (.cons (.refl _) (.cons (.refl _) (.cons (.rsl (ty := 24) (ver := ur.length) (imm := 0) (ag := true) (cells := (u0 :: ur).flatMap tyCells) (es := tysV (u0 :: ur)) (es' := tysV (u0 :: ur)) (by omega) ?_ (by rw [List.drop_zero, tysV_cells]) (by omega) (by rw [tysV_len]; rfl) (by omega) (fun e he => by rw [tysV_map] at he; obtain ⟨x, _, rfl⟩ := List.mem_map.1 he; exact tyV_el x) FrzL.refl) .nil))), by simp only [AV.low, AV.low.lows, tysV_low, Bool.and_self], rfl⟩
        rw [Nat.add_sub_cancel_left]
        simpa using hr
theorem Put_ok : ∀ (m : Nat) (t : Tr), SizeOf.sizeOf t ≤ m → PR t
  | 0, .mk d n us, h => by simp at h
  | m + 1, .mk d n us, h => Put_step d n us fun u hu => Put_ok m u (by
      have := List.sizeOf_lt_of_mem hu
      simp at h; omega)
end Go.D
