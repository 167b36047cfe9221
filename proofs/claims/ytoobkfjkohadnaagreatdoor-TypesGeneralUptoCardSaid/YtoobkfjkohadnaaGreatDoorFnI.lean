/- The document's signs, numbers. -/
import Derived.Test.YtoobkfjkohadnaaGreatDoorFnH
import Derived.Test.YtoobkfjkohadnaaGreatDoorFnE
import Derived.Test.YtoobkfjkohadnaaGreatDoorFnD
set_option linter.unusedVariables false
set_option linter.unusedSimpArgs false
set_option maxRecDepth 100000
namespace Go.D
open Go Go.Vm Go.Proofs Go.RowKit
def oneSigns : List UInt8 := [40, 41, 91, 93, 44, 59, 58, 61, 124, 95, 43, 45, 42, 47, 37, 60, 94]
theorem signsR_ok (l : List UInt8) (i : Nat) (hl : l.length ≤ 1099511627776) (hi : i < l.length) (σ : List Ent) :
  ACalls E 167 [.str l, i64 i] σ fun r τ => r = i64 (signsN (l.drop i)) ∧ τ = σ := by
 refine xacalls T0 .drop [] Tryz.func167 rfl (by kernel_rfl) (by kernel_rfl) (by simp [Tryz.ntmps167]) ?_
 have hg : (l.drop i).getD 0 0 = l.getD i 0 := by simp [List.getD]
 have two : ∀ a b : UInt8, (l.drop i).take 2 = [a, b] → i + 2 ≤ l.length := fun a b h => by
  have := congrArg List.length h
  simp only [List.length_take, List.length_drop, List.length_cons, List.length_nil] at this
  omega
 (simp only [(vmA), Nat.reduceEqDiff, reduceIte, Nat.reduceAdd, Int.reduceToNat, Int.reduceLE, Int.reduceLT, Int.reduceEq, Int.reduceNe, Int.reduceAdd, Int.reduceSub, Int.reduceNeg, Nat.reduceLT, Nat.reduceLeDiff, Nat.reduceBEq, undef, (stA), Nat.reduceMul]; try simp (disch := omega) only [(vmp)])
 refine xCond.cut (.cut (fun ts g l' => Sub ts [(0, .str l), (1, i64 i)] ∧ ¬ ((l.drop i).take 2 = [58, 58] ∨ (l.drop i).take 2 = [61, 62] ∨ (l.drop i).take 2 = [45, 62] ∨ (l.drop i).take 2 = [58, 62]) ∧ g = σ ∧ l' = []) ?_) ?_
 ·rintro ts g l' ⟨hsub, hno, rfl, rfl⟩
  simp only [sub_cons, sub_nil, and_true] at hsub
  obtain ⟨h0, h1⟩ := hsub
  unfold signsN
  rw [if_neg hno, hg]
  have hlt : (i : Int) < l.length := by omega
  (simp only [h0, h1, hlt, (vmA), Nat.reduceEqDiff, reduceIte, Nat.reduceAdd, Int.reduceToNat, Int.reduceLE, Int.reduceLT, Int.reduceEq, Int.reduceNe, Int.reduceAdd, Int.reduceSub, Int.reduceNeg, Nat.reduceLT, Nat.reduceLeDiff, Nat.reduceBEq, undef, (stA), Nat.reduceMul]; try simp (disch := omega) only [(vmp)])
  refine xWait.go (IndexByte_ok _ _ _) ?_
  rw [toU8]
  have hm := indexByte_mem oneSigns (l.getD i 0)
  unfold oneSigns at hm
  by_cases h2 : (0 : Int) ≤ Lib.indexByte [40, 41, 91, 93, 44, 59, 58, 61, 124, 95, 43, 45, 42, 47, 37, 60, 94] (l.getD i 0)
  ·rw [if_pos (hm.1 h2)]
   (simp only [h0, h1, h2, (vmA), Nat.reduceEqDiff, reduceIte, Nat.reduceAdd, Int.reduceToNat, Int.reduceLE, Int.reduceLT, Int.reduceEq, Int.reduceNe, Int.reduceAdd, Int.reduceSub, Int.reduceNeg, Nat.reduceLT, Nat.reduceLeDiff, Nat.reduceBEq, undef, (stA), Nat.reduceMul, Int.natCast_one]; try simp (disch := omega) only [(vmp)])
  ·rw [if_neg (fun e => h2 (hm.2 e))]
   (simp only [h0, h1, h2, (vmA), Nat.reduceEqDiff, reduceIte, Nat.reduceAdd, Int.reduceToNat, Int.reduceLE, Int.reduceLT, Int.reduceEq, Int.reduceNe, Int.reduceAdd, Int.reduceSub, Int.reduceNeg, Nat.reduceLT, Nat.reduceLeDiff, Nat.reduceBEq, undef, (stA), Nat.reduceMul, Int.natCast_zero]; try simp (disch := omega) only [(vmp)])
 ·by_cases q : ((i + 2 : Nat) : Int) ≤ l.length
  ·(simp only [q, (vmA), Nat.reduceEqDiff, reduceIte, Nat.reduceAdd, Int.reduceToNat, Int.reduceLE, Int.reduceLT, Int.reduceEq, Int.reduceNe, Int.reduceAdd, Int.reduceSub, Int.reduceNeg, Nat.reduceLT, Nat.reduceLeDiff, Nat.reduceBEq, undef, (stA), Nat.reduceMul]; try simp (disch := omega) only [(vmp)])
   refine ⟨by omega, ?_⟩
   unfold signsN
   by_cases h1 : (l.drop i).take 2 = [58, 58]
   ·(simp only [h1, (vmA), Nat.reduceEqDiff, reduceIte, Nat.reduceAdd, Int.reduceToNat, Int.reduceLE, Int.reduceLT, Int.reduceEq, Int.reduceNe, Int.reduceAdd, Int.reduceSub, Int.reduceNeg, Nat.reduceLT, Nat.reduceLeDiff, Nat.reduceBEq, undef, (stA), Nat.reduceMul, true_or]; try simp (disch := omega) only [(vmp)])
   ·(simp only [h1, (vmA), Nat.reduceEqDiff, reduceIte, Nat.reduceAdd, Int.reduceToNat, Int.reduceLE, Int.reduceLT, Int.reduceEq, Int.reduceNe, Int.reduceAdd, Int.reduceSub, Int.reduceNeg, Nat.reduceLT, Nat.reduceLeDiff, Nat.reduceBEq, undef, (stA), Nat.reduceMul, false_or]; try simp (disch := omega) only [(vmp)])
    by_cases h2 : (l.drop i).take 2 = [61, 62]
    ·(simp only [h2, (vmA), Nat.reduceEqDiff, reduceIte, Nat.reduceAdd, Int.reduceToNat, Int.reduceLE, Int.reduceLT, Int.reduceEq, Int.reduceNe, Int.reduceAdd, Int.reduceSub, Int.reduceNeg, Nat.reduceLT, Nat.reduceLeDiff, Nat.reduceBEq, undef, (stA), Nat.reduceMul, true_or]; try simp (disch := omega) only [(vmp)])
    ·(simp only [h2, (vmA), Nat.reduceEqDiff, reduceIte, Nat.reduceAdd, Int.reduceToNat, Int.reduceLE, Int.reduceLT, Int.reduceEq, Int.reduceNe, Int.reduceAdd, Int.reduceSub, Int.reduceNeg, Nat.reduceLT, Nat.reduceLeDiff, Nat.reduceBEq, undef, (stA), Nat.reduceMul, false_or]; try simp (disch := omega) only [(vmp)])
     by_cases h3 : (l.drop i).take 2 = [45, 62]
     ·(simp only [h3, (vmA), Nat.reduceEqDiff, reduceIte, Nat.reduceAdd, Int.reduceToNat, Int.reduceLE, Int.reduceLT, Int.reduceEq, Int.reduceNe, Int.reduceAdd, Int.reduceSub, Int.reduceNeg, Nat.reduceLT, Nat.reduceLeDiff, Nat.reduceBEq, undef, (stA), Nat.reduceMul, true_or]; try simp (disch := omega) only [(vmp)])
     ·(simp only [h3, (vmA), Nat.reduceEqDiff, reduceIte, Nat.reduceAdd, Int.reduceToNat, Int.reduceLE, Int.reduceLT, Int.reduceEq, Int.reduceNe, Int.reduceAdd, Int.reduceSub, Int.reduceNeg, Nat.reduceLT, Nat.reduceLeDiff, Nat.reduceBEq, undef, (stA), Nat.reduceMul, false_or]; try simp (disch := omega) only [(vmp)])
      by_cases h4 : (l.drop i).take 2 = [58, 62]
      ·(simp only [h4, (vmA), Nat.reduceEqDiff, reduceIte, Nat.reduceAdd, Int.reduceToNat, Int.reduceLE, Int.reduceLT, Int.reduceEq, Int.reduceNe, Int.reduceAdd, Int.reduceSub, Int.reduceNeg, Nat.reduceLT, Nat.reduceLeDiff, Nat.reduceBEq, undef, (stA), Nat.reduceMul]; try simp (disch := omega) only [(vmp)])
      ·(simp only [h4, (vmA), Nat.reduceEqDiff, reduceIte, Nat.reduceAdd, Int.reduceToNat, Int.reduceLE, Int.reduceLT, Int.reduceEq, Int.reduceNe, Int.reduceAdd, Int.reduceSub, Int.reduceNeg, Nat.reduceLT, Nat.reduceLeDiff, Nat.reduceBEq, undef, (stA), Nat.reduceMul, not_false_eq_true]; try simp (disch := omega) only [(vmp)])
  ·(simp only [q, (vmA), Nat.reduceEqDiff, reduceIte, Nat.reduceAdd, Int.reduceToNat, Int.reduceLE, Int.reduceLT, Int.reduceEq, Int.reduceNe, Int.reduceAdd, Int.reduceSub, Int.reduceNeg, Nat.reduceLT, Nat.reduceLeDiff, Nat.reduceBEq, undef, (stA), Nat.reduceMul]; try simp (disch := omega) only [(vmp)])
   rintro (h | h | h | h)
   all_goals exact q (by have := two _ _ h; omega)
theorem numberR_ok (l : List UInt8) (i : Nat) (hl : l.length ≤ 1099511627776) (hi : i < l.length) (σ : List Ent) :
  ACalls E 165 [.str l, i64 i] σ fun r τ => r = i64 (digits (l.drop i)) ∧ τ = σ := by
 refine xacalls T0 .drop [] Tryz.func165 rfl (by kernel_rfl) (by kernel_rfl) (by simp [Tryz.ntmps165]) ?_
 have hg : ∀ j, (l.drop i).getD j 0 = l.getD (i + j) 0 := fun j => by simp [List.getD]
 have hdl : (l.drop i).length = l.length - i := List.length_drop
 have hn := negN_le (l.drop i)
 have hdig := digits.eq_def (l.drop i)
 rw [hg, hdl] at hdig
 (simp only [(vmA), Nat.reduceEqDiff, reduceIte, Nat.reduceAdd, Int.reduceToNat, Int.reduceLE, Int.reduceLT, Int.reduceEq, Int.reduceNe, Int.reduceAdd, Int.reduceSub, Int.reduceNeg, Nat.reduceLT, Nat.reduceLeDiff, Nat.reduceBEq, undef, (stA), Nat.reduceMul]; try simp (disch := omega) only [(vmp)])
 refine xGuard.cut (.seq (.cut (fun ts g l' => Sub ts [(0, .str l), (1, i64 i), (5, i64 (negN (l.drop i)))] ∧ g = σ ∧ l' = []) ?_)) ?_
 ·generalize negN (l.drop i) = n at *
  rintro ts g l' ⟨hsub, rfl, rfl⟩
  simp only [sub_cons, sub_nil, and_true] at hsub
  obtain ⟨h0, h1, h5⟩ := hsub
  (simp only [h0, h1, h5, (vmA), Nat.reduceEqDiff, reduceIte, Nat.reduceAdd, Int.reduceToNat, Int.reduceLE, Int.reduceLT, Int.reduceEq, Int.reduceNe, Int.reduceAdd, Int.reduceSub, Int.reduceNeg, Nat.reduceLT, Nat.reduceLeDiff, Nat.reduceBEq, undef, (stA), Nat.reduceMul]; try simp (disch := omega) only [(vmp)])
  by_cases q : (l.length : Int) ≤ ((i + n : Nat) : Int)
  ·(simp only [h0, h1, h5, q, (vmA), Nat.reduceEqDiff, reduceIte, Nat.reduceAdd, Int.reduceToNat, Int.reduceLE, Int.reduceLT, Int.reduceEq, Int.reduceNe, Int.reduceAdd, Int.reduceSub, Int.reduceNeg, Nat.reduceLT, Nat.reduceLeDiff, Nat.reduceBEq, undef, (stA), Nat.reduceMul]; try simp (disch := omega) only [(vmp)])
   rw [hdig, if_pos (by omega)]; rfl
  ·rw [if_neg (by omega)] at hdig
   (simp only [h0, h1, h5, q, (vmA), Nat.reduceEqDiff, reduceIte, Nat.reduceAdd, Int.reduceToNat, Int.reduceLE, Int.reduceLT, Int.reduceEq, Int.reduceNe, Int.reduceAdd, Int.reduceSub, Int.reduceNeg, Nat.reduceLT, Nat.reduceLeDiff, Nat.reduceBEq, undef, (stA), Nat.reduceMul]; try simp (disch := omega) only [(vmp)])
   refine ⟨by omega, ?_⟩
   refine xWait.go (digit_ok _ _) ?_
   cases h6 : btw 48 (l.getD (i + n) 0).toNat 57
   ·rw [if_neg (by unfold isDig; rw [h6]; simp)] at hdig
    (simp only [h0, h1, h5, (vmA), Nat.reduceEqDiff, reduceIte, Nat.reduceAdd, Int.reduceToNat, Int.reduceLE, Int.reduceLT, Int.reduceEq, Int.reduceNe, Int.reduceAdd, Int.reduceSub, Int.reduceNeg, Nat.reduceLT, Nat.reduceLeDiff, Nat.reduceBEq, undef, (stA), Nat.reduceMul]; try simp (disch := omega) only [(vmp)])
    rw [hdig]; rfl
   ·rw [if_pos (by unfold isDig; rw [h6])] at hdig
    (simp only [h0, h1, h5, (vmA), Nat.reduceEqDiff, reduceIte, Nat.reduceAdd, Int.reduceToNat, Int.reduceLE, Int.reduceLT, Int.reduceEq, Int.reduceNe, Int.reduceAdd, Int.reduceSub, Int.reduceNeg, Nat.reduceLT, Nat.reduceLeDiff, Nat.reduceBEq, undef, (stA), Nat.reduceMul]; try simp (disch := omega) only [(vmp)])
    refine ⟨by omega, ?_⟩
    by_cases h7 : ((l.getD (i + n) 0).toNat : Int) = 48
    ·rw [if_pos h7] at hdig
     (simp only [h0, h1, h5, h7, (vmA), Nat.reduceEqDiff, reduceIte, Nat.reduceAdd, Int.reduceToNat, Int.reduceLE, Int.reduceLT, Int.reduceEq, Int.reduceNe, Int.reduceAdd, Int.reduceSub, Int.reduceNeg, Nat.reduceLT, Nat.reduceLeDiff, Nat.reduceBEq, undef, (stA), Nat.reduceMul]; try simp (disch := omega) only [(vmp)])
     rw [hdig]
    ·rw [if_neg h7, List.drop_drop] at hdig
     (simp only [h0, h1, h5, h7, (vmA), Nat.reduceEqDiff, reduceIte, Nat.reduceAdd, Int.reduceToNat, Int.reduceLE, Int.reduceLT, Int.reduceEq, Int.reduceNe, Int.reduceAdd, Int.reduceSub, Int.reduceNeg, Nat.reduceLT, Nat.reduceLeDiff, Nat.reduceBEq, undef, (stA), Nat.reduceMul]; try simp (disch := omega) only [(vmp)])
     have hg2 : ∀ j, (l.drop (i + n)).getD j 0 = l.getD (i + n + j) 0 := fun j => by simp [List.getD]
     have hdl2 : (l.drop (i + n)).length = l.length - (i + n) := List.length_drop
     refine xloop (α := Nat) T0 (fun j => [(0, .str l), (1, i64 i), (5, i64 (n + j : Nat))]) (fun _ => g) (fun _ => []) (fun j => j ≤ (l.drop (i + n)).length ∧ ∀ x ∈ (l.drop (i + n)).take j, pB isDig x = true) (fun j => l.length - j) (by kernel_rfl)
      ⟨0, by simp, by (simp only [h0, h1, h5, (vmA), Nat.reduceEqDiff, reduceIte, Nat.reduceAdd, Int.reduceToNat, Int.reduceLE, Int.reduceLT, Int.reduceEq, Int.reduceNe, Int.reduceAdd, Int.reduceSub, Int.reduceNeg, Nat.reduceLT, Nat.reduceLeDiff, Nat.reduceBEq, undef, (stA), Nat.reduceMul]; try simp (disch := omega) only [(vmp)]), rfl, rfl⟩ ?_
     rintro j ⟨hj, hall⟩
     (simp only [(vmA), Nat.reduceEqDiff, reduceIte, Nat.reduceAdd, Int.reduceToNat, Int.reduceLE, Int.reduceLT, Int.reduceEq, Int.reduceNe, Int.reduceAdd, Int.reduceSub, Int.reduceNeg, Nat.reduceLT, Nat.reduceLeDiff, Nat.reduceBEq, undef, (stA), Nat.reduceMul]; try simp (disch := omega) only [(vmp)])
     by_cases h8 : ((i + (n + j) : Nat) : Int) < l.length
     ·(simp only [h8, (vmA), Nat.reduceEqDiff, reduceIte, Nat.reduceAdd, Int.reduceToNat, Int.reduceLE, Int.reduceLT, Int.reduceEq, Int.reduceNe, Int.reduceAdd, Int.reduceSub, Int.reduceNeg, Nat.reduceLT, Nat.reduceLeDiff, Nat.reduceBEq, undef, (stA), Nat.reduceMul]; try simp (disch := omega) only [(vmp)])
      refine ⟨by omega, ?_⟩
      refine xWait.go (digit_ok _ _) ?_
      rw [← Nat.add_assoc]
      cases hp : btw 48 (l.getD (i + n + j) 0).toNat 57
      ·(simp only [(vmA), Nat.reduceEqDiff, reduceIte, Nat.reduceAdd, Int.reduceToNat, Int.reduceLE, Int.reduceLT, Int.reduceEq, Int.reduceNe, Int.reduceAdd, Int.reduceSub, Int.reduceNeg, Nat.reduceLT, Nat.reduceLeDiff, Nat.reduceBEq, undef, (stA), Nat.reduceMul]; try simp (disch := omega) only [(vmp)])
       rw [hdig, takeWhile_len hj hall fun _ => by rw [hg2]; exact hp]
      ·(simp only [(vmA), Nat.reduceEqDiff, reduceIte, Nat.reduceAdd, Int.reduceToNat, Int.reduceLE, Int.reduceLT, Int.reduceEq, Int.reduceNe, Int.reduceAdd, Int.reduceSub, Int.reduceNeg, Nat.reduceLT, Nat.reduceLeDiff, Nat.reduceBEq, undef, (stA), Nat.reduceMul]; try simp (disch := omega) only [(vmp)])
       exact ⟨j + 1, ⟨by omega, take_succ_all (by omega) hall (by rw [hg2]; exact hp)⟩, by omega, rfl⟩
     ·(simp only [h8, (vmA), Nat.reduceEqDiff, reduceIte, Nat.reduceAdd, Int.reduceToNat, Int.reduceLE, Int.reduceLT, Int.reduceEq, Int.reduceNe, Int.reduceAdd, Int.reduceSub, Int.reduceNeg, Nat.reduceLT, Nat.reduceLeDiff, Nat.reduceBEq, undef, (stA), Nat.reduceMul]; try simp (disch := omega) only [(vmp)])
      rw [hdig, takeWhile_len hj hall fun hh => absurd (by omega) h8]
 ·have hneg := negB.eq_def (l.drop i)
  rw [hg, hg, hdl, Nat.add_zero] at hneg
  have f0 : negB (l.drop i) = false → negN (l.drop i) = 0 := fun e => by simp [negN, e]
  have f1 : negB (l.drop i) = true → negN (l.drop i) = 1 := fun e => by simp [negN, e]
  by_cases h1 : ((i + 1 : Nat) : Int) < l.length
  ·have h1' : (1 : Int) < ((l.length - i : Nat) : Int) := by omega
   simp only [h1', decide_true, Bool.true_and] at hneg
   (simp only [h1, (vmA), Nat.reduceEqDiff, reduceIte, Nat.reduceAdd, Int.reduceToNat, Int.reduceLE, Int.reduceLT, Int.reduceEq, Int.reduceNe, Int.reduceAdd, Int.reduceSub, Int.reduceNeg, Nat.reduceLT, Nat.reduceLeDiff, Nat.reduceBEq, undef, (stA), Nat.reduceMul]; try simp (disch := omega) only [(vmp)])
   refine ⟨by omega, ?_⟩
   by_cases h2 : ((l.getD i 0).toNat : Int) = 45
   ·simp only [h2, decide_true, Bool.true_and] at hneg
    (simp only [h1, h2, (vmA), Nat.reduceEqDiff, reduceIte, Nat.reduceAdd, Int.reduceToNat, Int.reduceLE, Int.reduceLT, Int.reduceEq, Int.reduceNe, Int.reduceAdd, Int.reduceSub, Int.reduceNeg, Nat.reduceLT, Nat.reduceLeDiff, Nat.reduceBEq, undef, (stA), Nat.reduceMul]; try simp (disch := omega) only [(vmp)])
    refine ⟨by omega, ?_⟩
    refine xWait.go (digit_ok _ _) ?_
    by_cases h3 : btw 48 (l.getD (i + 1) 0).toNat 57 = true
    ·(simp only [h3, (vmA), Nat.reduceEqDiff, reduceIte, Nat.reduceAdd, Int.reduceToNat, Int.reduceLE, Int.reduceLT, Int.reduceEq, Int.reduceNe, Int.reduceAdd, Int.reduceSub, Int.reduceNeg, Nat.reduceLT, Nat.reduceLeDiff, Nat.reduceBEq, undef, (stA), Nat.reduceMul]; try simp (disch := omega) only [(vmp)])
     refine ⟨by omega, ?_⟩
     by_cases h4 : ((l.getD (i + 1) 0).toNat : Int) = 48
     ·rw [h4] at hneg
      (simp only [h4, (vmA), Nat.reduceEqDiff, reduceIte, Nat.reduceAdd, Int.reduceToNat, Int.reduceLE, Int.reduceLT, Int.reduceEq, Int.reduceNe, Int.reduceAdd, Int.reduceSub, Int.reduceNeg, Nat.reduceLT, Nat.reduceLeDiff, Nat.reduceBEq, undef, (stA), Nat.reduceMul]; try simp (disch := omega) only [(vmp)])
      rw [f0 (by rw [hneg]; rfl)]; rfl
     ·have h5 : btw 49 (l.getD (i + 1) 0).toNat 57 = true := by rw [btw_iff] at h3 ⊢; omega
      (simp only [h4, (vmA), Nat.reduceEqDiff, reduceIte, Nat.reduceAdd, Int.reduceToNat, Int.reduceLE, Int.reduceLT, Int.reduceEq, Int.reduceNe, Int.reduceAdd, Int.reduceSub, Int.reduceNeg, Nat.reduceLT, Nat.reduceLeDiff, Nat.reduceBEq, undef, (stA), Nat.reduceMul]; try simp (disch := omega) only [(vmp)])
      rw [f1 (by rw [hneg]; exact h5)]; rfl
    ·have h5 : btw 49 (l.getD (i + 1) 0).toNat 57 = false := by
      rw [← Bool.not_eq_true, btw_iff]; rw [btw_iff] at h3; omega
     rw [Bool.not_eq_true] at h3
     (simp only [h3, (vmA), Nat.reduceEqDiff, reduceIte, Nat.reduceAdd, Int.reduceToNat, Int.reduceLE, Int.reduceLT, Int.reduceEq, Int.reduceNe, Int.reduceAdd, Int.reduceSub, Int.reduceNeg, Nat.reduceLT, Nat.reduceLeDiff, Nat.reduceBEq, undef, (stA), Nat.reduceMul]; try simp (disch := omega) only [(vmp)])
     rw [f0 (by rw [hneg]; exact h5)]; rfl
   ·simp only [h2, decide_false, Bool.false_and] at hneg
    (simp only [h2, (vmA), Nat.reduceEqDiff, reduceIte, Nat.reduceAdd, Int.reduceToNat, Int.reduceLE, Int.reduceLT, Int.reduceEq, Int.reduceNe, Int.reduceAdd, Int.reduceSub, Int.reduceNeg, Nat.reduceLT, Nat.reduceLeDiff, Nat.reduceBEq, undef, (stA), Nat.reduceMul]; try simp (disch := omega) only [(vmp)])
    rw [f0 hneg]; rfl
  ·have h1' : ¬ (1 : Int) < ((l.length - i : Nat) : Int) := by omega
   simp only [h1', decide_false, Bool.false_and] at hneg
   (simp only [h1, (vmA), Nat.reduceEqDiff, reduceIte, Nat.reduceAdd, Int.reduceToNat, Int.reduceLE, Int.reduceLT, Int.reduceEq, Int.reduceNe, Int.reduceAdd, Int.reduceSub, Int.reduceNeg, Nat.reduceLT, Nat.reduceLeDiff, Nat.reduceBEq, undef, (stA), Nat.reduceMul]; try simp (disch := omega) only [(vmp)])
   rw [f0 hneg]; rfl
end Go.D
namespace Go.D
open Go Go.Vm Go.Proofs Go.RowKit
theorem fitsR_ok (l : List UInt8) (hl : l.length ≤ 1099511627776) (hpos : 0 < l.length) (σ : List Ent) :
  ACalls E 166 [.str l] σ fun r τ => r = boolV (fits l) ∧ τ = σ := by
 refine xacalls T0 .drop [] Tryz.func166 rfl (by kernel_rfl) (by kernel_rfl) (by simp [Tryz.ntmps166]) ?_
 have fin : ∀ (neg : Bool) (d : List UInt8), fitsD neg d = (decide ((d.length : Int) < 19) || (decide ((d.length : Int) = 19) && !Op.bytesLess (most neg) d)) := fun neg d => by
  unfold fitsD
  have e1 : (((d.length : Int) < 19)) = (d.length < 19) := propext ⟨fun h => by omega, fun h => by omega⟩
  have e2 : (((d.length : Int) = 19)) = (d.length = 19) := propext ⟨fun h => by omega, fun h => by omega⟩
  simp only [e1, e2]
 have m0 : most false = [57, 50, 50, 51, 51, 55, 50, 48, 51, 54, 56, 53, 52, 55, 55, 53, 56, 48, 55] := rfl
 have m1 : most true = [57, 50, 50, 51, 51, 55, 50, 48, 51, 54, 56, 53, 52, 55, 55, 53, 56, 48, 56] := rfl
 (simp only [(vmA), Nat.reduceEqDiff, reduceIte, Nat.reduceAdd, Int.reduceToNat, Int.reduceLE, Int.reduceLT, Int.reduceEq, Int.reduceNe, Int.reduceAdd, Int.reduceSub, Int.reduceNeg, Nat.reduceLT, Nat.reduceLeDiff, Nat.reduceBEq, undef, (stA), Nat.reduceMul]; try simp (disch := omega) only [(vmp)])
 refine ⟨by omega, ?_⟩
 by_cases h : ((l.getD 0 0).toNat : Int) = 45
 ·have h' : l.getD 0 0 = 45 := (u8_eq _ 45 (by omega)).1 h
  have hf : fits l = fitsD true (l.drop 1) := by unfold fits body; simp only [h', decide_true, if_true]
  rw [hf, fin, m1]
  (simp only [h, (vmA), Nat.reduceEqDiff, reduceIte, Nat.reduceAdd, Int.reduceToNat, Int.reduceLE, Int.reduceLT, Int.reduceEq, Int.reduceNe, Int.reduceAdd, Int.reduceSub, Int.reduceNeg, Nat.reduceLT, Nat.reduceLeDiff, Nat.reduceBEq, undef, (stA), Nat.reduceMul]; try simp (disch := omega) only [(vmp)])
  refine ⟨by omega, ?_⟩
  by_cases q : (((l.drop 1).length : Nat) : Int) < 19
  ·(simp only [q, (vmA), Nat.reduceEqDiff, reduceIte, Nat.reduceAdd, Int.reduceToNat, Int.reduceLE, Int.reduceLT, Int.reduceEq, Int.reduceNe, Int.reduceAdd, Int.reduceSub, Int.reduceNeg, Nat.reduceLT, Nat.reduceLeDiff, Nat.reduceBEq, undef, (stA), Nat.reduceMul]; try simp (disch := omega) only [(vmp)])
  ·by_cases q2 : (((l.drop 1).length : Nat) : Int) = 19
   ·(simp only [q, q2, (vmA), Nat.reduceEqDiff, reduceIte, Nat.reduceAdd, Int.reduceToNat, Int.reduceLE, Int.reduceLT, Int.reduceEq, Int.reduceNe, Int.reduceAdd, Int.reduceSub, Int.reduceNeg, Nat.reduceLT, Nat.reduceLeDiff, Nat.reduceBEq, undef, (stA), Nat.reduceMul]; try simp (disch := omega) only [(vmp)])
   ·(simp only [q, q2, (vmA), Nat.reduceEqDiff, reduceIte, Nat.reduceAdd, Int.reduceToNat, Int.reduceLE, Int.reduceLT, Int.reduceEq, Int.reduceNe, Int.reduceAdd, Int.reduceSub, Int.reduceNeg, Nat.reduceLT, Nat.reduceLeDiff, Nat.reduceBEq, undef, (stA), Nat.reduceMul]; try simp (disch := omega) only [(vmp)])
 ·have h' : ¬ l.getD 0 0 = 45 := fun e => h ((u8_eq _ 45 (by omega)).2 e)
  have hf : fits l = fitsD false l := by unfold fits body; simp only [h', decide_false, if_false]
  rw [hf, fin, m0]
  (simp only [h, (vmA), Nat.reduceEqDiff, reduceIte, Nat.reduceAdd, Int.reduceToNat, Int.reduceLE, Int.reduceLT, Int.reduceEq, Int.reduceNe, Int.reduceAdd, Int.reduceSub, Int.reduceNeg, Nat.reduceLT, Nat.reduceLeDiff, Nat.reduceBEq, undef, (stA), Nat.reduceMul]; try simp (disch := omega) only [(vmp)])
  by_cases q : (l.length : Int) < 19
  ·(simp only [q, (vmA), Nat.reduceEqDiff, reduceIte, Nat.reduceAdd, Int.reduceToNat, Int.reduceLE, Int.reduceLT, Int.reduceEq, Int.reduceNe, Int.reduceAdd, Int.reduceSub, Int.reduceNeg, Nat.reduceLT, Nat.reduceLeDiff, Nat.reduceBEq, undef, (stA), Nat.reduceMul]; try simp (disch := omega) only [(vmp)])
  ·by_cases q2 : (l.length : Int) = 19
   ·(simp only [q, q2, (vmA), Nat.reduceEqDiff, reduceIte, Nat.reduceAdd, Int.reduceToNat, Int.reduceLE, Int.reduceLT, Int.reduceEq, Int.reduceNe, Int.reduceAdd, Int.reduceSub, Int.reduceNeg, Nat.reduceLT, Nat.reduceLeDiff, Nat.reduceBEq, undef, (stA), Nat.reduceMul]; try simp (disch := omega) only [(vmp)])
   ·(simp only [q, q2, (vmA), Nat.reduceEqDiff, reduceIte, Nat.reduceAdd, Int.reduceToNat, Int.reduceLE, Int.reduceLT, Int.reduceEq, Int.reduceNe, Int.reduceAdd, Int.reduceSub, Int.reduceNeg, Nat.reduceLT, Nat.reduceLeDiff, Nat.reduceBEq, undef, (stA), Nat.reduceMul]; try simp (disch := omega) only [(vmp)])
end Go.D
namespace Go.D
open Go Go.Vm Go.Proofs Go.RowKit
def rA (m : Nat) : List UInt8 → AV
 | [] => .v (.slice none 0 0)
 | _ :: r => .rsl m r.length 0 (r.length + 1) 1
def rE : List UInt8 → List Ent
 | [] => []
 | b :: r => [.arr 5 ((b :: r).map byteAV) r.length 0]
set_option maxHeartbeats 4000000 in
theorem quotedR_ok (l : List UInt8) (i : Nat) (hl : l.length ≤ 1099511627776) (hi : i < l.length) (hq : l.getD i 0 = 34) (σ : List Ent) :
  ACalls E 164 [.str l, i64 i] σ fun r τ => r = (match qS (l.drop (i + 1)) with | some x => AV.tup [i64 (x.1 + 1 : Nat), .str x.2] | none => .tup [i64 0, .str []]) ∧ τ = σ := by
 refine xacalls T0 .drop [] Tryz.func164 rfl (by kernel_rfl) (by kernel_rfl) (by simp [Tryz.ntmps164]) ?_
 (simp only [(vmA), Nat.reduceEqDiff, reduceIte, Nat.reduceAdd, Int.reduceToNat, Int.reduceLE, Int.reduceLT, Int.reduceEq, Int.reduceNe, Int.reduceAdd, Int.reduceSub, Int.reduceNeg, Nat.reduceLT, Nat.reduceLeDiff, Nat.reduceBEq, undef, (stA), Nat.reduceMul]; try simp (disch := omega) only [(vmp)])
 have h1 : ¬ (l.length : Int) ≤ i := by omega
 have hq' : ((l.getD i 0).toNat : Int) = 34 := by rw [hq]; rfl
 (simp only [h1, hq', (vmA), Nat.reduceEqDiff, reduceIte, Nat.reduceAdd, Int.reduceToNat, Int.reduceLE, Int.reduceLT, Int.reduceEq, Int.reduceNe, Int.reduceAdd, Int.reduceSub, Int.reduceNeg, Nat.reduceLT, Nat.reduceLeDiff, Nat.reduceBEq, undef, (stA), Nat.reduceMul]; try simp (disch := omega) only [(vmp)])
 refine ⟨by omega, ?_⟩
 refine xloop (α := Nat × List UInt8) T0 (fun x => [(0, .str l), (1, i64 i), (6, rA σ.length x.2), (7, i64 x.1)]) (fun _ => σ) (fun x => rE x.2)
  (fun x => i + 1 ≤ x.1 ∧ x.1 ≤ l.length ∧ x.2.length ≤ x.1 ∧ qS (l.drop (i + 1)) = (qS (l.drop x.1)).map fun y => (y.1 + (x.1 - (i + 1)), x.2 ++ y.2)) (fun x => l.length - x.1) (by kernel_rfl)
  ⟨(i + 1, []), ⟨by simp only; omega, by simp only; omega, by simp, by simp⟩, by (simp only [rA, (vmA), Nat.reduceEqDiff, reduceIte, Nat.reduceAdd, Int.reduceToNat, Int.reduceLE, Int.reduceLT, Int.reduceEq, Int.reduceNe, Int.reduceAdd, Int.reduceSub, Int.reduceNeg, Nat.reduceLT, Nat.reduceLeDiff, Nat.reduceBEq, undef, (stA), Nat.reduceMul]; try simp (disch := omega) only [(vmp)]), rfl, rfl⟩ ?_
 generalize hR : qS (l.drop (i + 1)) = R
 rintro ⟨j, acc⟩ ⟨h2, h3, ha, hc⟩
 simp only at h2 h3 ha hc
 (simp only [(vmA), Nat.reduceEqDiff, reduceIte, Nat.reduceAdd, Int.reduceToNat, Int.reduceLE, Int.reduceLT, Int.reduceEq, Int.reduceNe, Int.reduceAdd, Int.reduceSub, Int.reduceNeg, Nat.reduceLT, Nat.reduceLeDiff, Nat.reduceBEq, undef, (stA), Nat.reduceMul]; try simp (disch := omega) only [(vmp)])
 by_cases h : (j : Int) < l.length
 ·obtain ⟨e1, e2⟩ := one_at (l := l) (i := j) (by omega)
  rw [e1] at hc
  (simp only [h, (vmA), Nat.reduceEqDiff, reduceIte, Nat.reduceAdd, Int.reduceToNat, Int.reduceLE, Int.reduceLT, Int.reduceEq, Int.reduceNe, Int.reduceAdd, Int.reduceSub, Int.reduceNeg, Nat.reduceLT, Nat.reduceLeDiff, Nat.reduceBEq, undef, (stA), Nat.reduceMul]; try simp (disch := omega) only [(vmp)])
  generalize hcc : l.getD j 0 = c at *
  by_cases q1 : (c.toNat : Int) = 34
  ·have : c = 34 := (u8_eq c 34 (by omega)).1 q1
   subst this
   rw [qS_q] at hc
   (simp only [q1, (vmA), Nat.reduceEqDiff, reduceIte, Nat.reduceAdd, Int.reduceToNat, Int.reduceLE, Int.reduceLT, Int.reduceEq, Int.reduceNe, Int.reduceAdd, Int.reduceSub, Int.reduceNeg, Nat.reduceLT, Nat.reduceLeDiff, Nat.reduceBEq, undef, (stA), Nat.reduceMul]; try simp (disch := omega) only [(vmp)])
   rcases acc with _ | ⟨a, r⟩
   ·(simp only [rA, rE, (vmA), Nat.reduceEqDiff, reduceIte, Nat.reduceAdd, Int.reduceToNat, Int.reduceLE, Int.reduceLT, Int.reduceEq, Int.reduceNe, Int.reduceAdd, Int.reduceSub, Int.reduceNeg, Nat.reduceLT, Nat.reduceLeDiff, Nat.reduceBEq, undef, (stA), Nat.reduceMul]; try simp (disch := omega) only [(vmp)])
    refine ydraw T0 [] (by kernel_rfl) (by kernel_rfl) (by kernel_rfl) (by kernel_rfl) ?_
    (simp only [(vmA), Nat.reduceEqDiff, reduceIte, Nat.reduceAdd, Int.reduceToNat, Int.reduceLE, Int.reduceLT, Int.reduceEq, Int.reduceNe, Int.reduceAdd, Int.reduceSub, Int.reduceNeg, Nat.reduceLT, Nat.reduceLeDiff, Nat.reduceBEq, undef, (stA), Nat.reduceMul]; try simp (disch := omega) only [(vmp)])
    rw [hc]
    have e5 : ((j + 1 : Nat) : Int) - i = ((j + 1 - i : Nat) : Int) := by omega
    simp only [Option.map_some, List.append_nil, e5]
    rw [show 1 + (j - (i + 1)) + 1 = j + 1 - i by omega]
   ·(simp only [rA, rE, (vmA), Nat.reduceEqDiff, reduceIte, Nat.reduceAdd, Int.reduceToNat, Int.reduceLE, Int.reduceLT, Int.reduceEq, Int.reduceNe, Int.reduceAdd, Int.reduceSub, Int.reduceNeg, Nat.reduceLT, Nat.reduceLeDiff, Nat.reduceBEq, undef, (stA), Nat.reduceMul]; try simp (disch := omega) only [(vmp)])
    refine ydraw T0 [] (by kernel_rfl) (by kernel_rfl) (by kernel_rfl) (by kernel_rfl) ?_
    (simp only [av_all, av_all2, (vmA), Nat.reduceEqDiff, reduceIte, Nat.reduceAdd, Int.reduceToNat, Int.reduceLE, Int.reduceLT, Int.reduceEq, Int.reduceNe, Int.reduceAdd, Int.reduceSub, Int.reduceNeg, Nat.reduceLT, Nat.reduceLeDiff, Nat.reduceBEq, undef, (stA), Nat.reduceMul]; try simp (disch := omega) only [(vmp)])
    refine ⟨by omega, ?_⟩
    rw [hc]
    have e5 : ((j + 1 : Nat) : Int) - i = ((j + 1 - i : Nat) : Int) := by omega
    simp only [Option.map_some, List.append_nil, e5]
    rw [show 1 + (j - (i + 1)) + 1 = j + 1 - i by omega]
  ·have n1 : c ≠ 34 := fun e => q1 ((u8_eq c 34 (by omega)).2 e)
   (simp only [q1, (vmA), Nat.reduceEqDiff, reduceIte, Nat.reduceAdd, Int.reduceToNat, Int.reduceLE, Int.reduceLT, Int.reduceEq, Int.reduceNe, Int.reduceAdd, Int.reduceSub, Int.reduceNeg, Nat.reduceLT, Nat.reduceLeDiff, Nat.reduceBEq, undef, (stA), Nat.reduceMul]; try simp (disch := omega) only [(vmp)])
   by_cases q3 : (c.toNat : Int) = 92
   ·have : c = 92 := (u8_eq c 92 (by omega)).1 q3
    subst this
    (simp only [q3, (vmA), Nat.reduceEqDiff, reduceIte, Nat.reduceAdd, Int.reduceToNat, Int.reduceLE, Int.reduceLT, Int.reduceEq, Int.reduceNe, Int.reduceAdd, Int.reduceSub, Int.reduceNeg, Nat.reduceLT, Nat.reduceLeDiff, Nat.reduceBEq, undef, (stA), Nat.reduceMul]; try simp (disch := omega) only [(vmp)])
    by_cases q4 : ((j + 1 : Nat) : Int) < l.length
    ·obtain ⟨e3, e4⟩ := one_at (l := l) (i := j + 1) (by omega)
     rw [e3, qS_esc] at hc
     (simp only [q4, (vmA), Nat.reduceEqDiff, reduceIte, Nat.reduceAdd, Int.reduceToNat, Int.reduceLE, Int.reduceLT, Int.reduceEq, Int.reduceNe, Int.reduceAdd, Int.reduceSub, Int.reduceNeg, Nat.reduceLT, Nat.reduceLeDiff, Nat.reduceBEq, undef, (stA), Nat.reduceMul]; try simp (disch := omega) only [(vmp)])
     refine ⟨by omega, ?_⟩
     generalize hdd : l.getD (j + 1) 0 = d at *
     have fin : ∀ (b : UInt8), R = ((qS (l.drop (j + 2))).map fun y => (y.1 + 2, b :: y.2)).map (fun y => (y.1 + (j - (i + 1)), acc ++ y.2)) →
       R = (qS (l.drop (j + 2))).map fun y => (y.1 + (j + 2 - (i + 1)), (acc ++ [b]) ++ y.2) := fun b hh => by
      rw [hh]; cases qS (l.drop (j + 2)) <;> simp
      omega
     by_cases p1 : d = 110
     ·subst p1
      have e110 : (((110 : UInt8).toNat : Nat) : Int) = 110 := rfl
      rw [if_pos rfl] at hc
      (simp only [e110, (vmA), Nat.reduceEqDiff, reduceIte, Nat.reduceAdd, Int.reduceToNat, Int.reduceLE, Int.reduceLT, Int.reduceEq, Int.reduceNe, Int.reduceAdd, Int.reduceSub, Int.reduceNeg, Nat.reduceLT, Nat.reduceLeDiff, Nat.reduceBEq, undef, (stA), Nat.reduceMul]; try simp (disch := omega) only [(vmp)])
      rcases acc with _ | ⟨a, r⟩
      ·(simp only [rA, rE, (vmA), Nat.reduceEqDiff, reduceIte, Nat.reduceAdd, Int.reduceToNat, Int.reduceLE, Int.reduceLT, Int.reduceEq, Int.reduceNe, Int.reduceAdd, Int.reduceSub, Int.reduceNeg, Nat.reduceLT, Nat.reduceLeDiff, Nat.reduceBEq, undef, (stA), Nat.reduceMul]; try simp (disch := omega) only [(vmp)])
       refine ⟨by unfold maxRoom; omega, (j + 2, [10]), ⟨by simp only; omega, by simp only; omega, by simp only [List.length_cons, List.length_nil]; omega, ?_⟩, by simp only; omega, by (simp [rA]; try omega), by simp [rE, byteAV, intV]⟩
       exact fin 10 hc
      ·(simp only [rA, rE, (vmA), Nat.reduceEqDiff, reduceIte, Nat.reduceAdd, Int.reduceToNat, Int.reduceLE, Int.reduceLT, Int.reduceEq, Int.reduceNe, Int.reduceAdd, Int.reduceSub, Int.reduceNeg, Nat.reduceLT, Nat.reduceLeDiff, Nat.reduceBEq, undef, (stA), Nat.reduceMul]; try simp (disch := omega) only [(vmp)])
       simp only [List.length_cons] at ha
       refine ⟨by unfold maxRoom; omega, (j + 2, (a :: r) ++ [10]), ⟨by simp only; omega, by simp only; omega, by simp only [List.length_cons, List.length_append, List.length_nil]; omega, ?_⟩, by simp only; omega, by (simp [rA]; try omega), by simp [rE, byteAV, intV]⟩
       exact fin 10 hc
     ·rw [if_neg p1] at hc
      have n5 : ¬ (d.toNat : Int) = 110 := fun e => p1 ((u8_eq d 110 (by omega)).1 e)
      (simp only [n5, (vmA), Nat.reduceEqDiff, reduceIte, Nat.reduceAdd, Int.reduceToNat, Int.reduceLE, Int.reduceLT, Int.reduceEq, Int.reduceNe, Int.reduceAdd, Int.reduceSub, Int.reduceNeg, Nat.reduceLT, Nat.reduceLeDiff, Nat.reduceBEq, undef, (stA), Nat.reduceMul]; try simp (disch := omega) only [(vmp)])
      (simp only [q4, (vmA), Nat.reduceEqDiff, reduceIte, Nat.reduceAdd, Int.reduceToNat, Int.reduceLE, Int.reduceLT, Int.reduceEq, Int.reduceNe, Int.reduceAdd, Int.reduceSub, Int.reduceNeg, Nat.reduceLT, Nat.reduceLeDiff, Nat.reduceBEq, undef, (stA), Nat.reduceMul]; try simp (disch := omega) only [(vmp)])
      refine ⟨by omega, ?_⟩
      simp only [hdd]
      by_cases p2 : (d.toNat : Int) = 34
      ·have p2' : d = 34 := (u8_eq d 34 (by omega)).1 p2
       rw [if_pos (.inl p2')] at hc
       (simp only [p2, (vmA), Nat.reduceEqDiff, reduceIte, Nat.reduceAdd, Int.reduceToNat, Int.reduceLE, Int.reduceLT, Int.reduceEq, Int.reduceNe, Int.reduceAdd, Int.reduceSub, Int.reduceNeg, Nat.reduceLT, Nat.reduceLeDiff, Nat.reduceBEq, undef, (stA), Nat.reduceMul]; try simp (disch := omega) only [(vmp)])
       refine ⟨by omega, ?_⟩
       simp only [hdd]
       rcases acc with _ | ⟨a, r⟩
       ·(simp only [rA, rE, (vmA), Nat.reduceEqDiff, reduceIte, Nat.reduceAdd, Int.reduceToNat, Int.reduceLE, Int.reduceLT, Int.reduceEq, Int.reduceNe, Int.reduceAdd, Int.reduceSub, Int.reduceNeg, Nat.reduceLT, Nat.reduceLeDiff, Nat.reduceBEq, undef, (stA), Nat.reduceMul]; try simp (disch := omega) only [(vmp)])
        refine ⟨by unfold maxRoom; omega, (j + 2, [d]), ⟨by simp only; omega, by simp only; omega, by simp only [List.length_cons, List.length_nil]; omega, ?_⟩, by simp only; omega, by (simp [rA]; try omega), by simp [rE, byteAV, intV]⟩
        exact fin d hc
       ·(simp only [rA, rE, (vmA), Nat.reduceEqDiff, reduceIte, Nat.reduceAdd, Int.reduceToNat, Int.reduceLE, Int.reduceLT, Int.reduceEq, Int.reduceNe, Int.reduceAdd, Int.reduceSub, Int.reduceNeg, Nat.reduceLT, Nat.reduceLeDiff, Nat.reduceBEq, undef, (stA), Nat.reduceMul]; try simp (disch := omega) only [(vmp)])
        simp only [List.length_cons] at ha
        refine ⟨by unfold maxRoom; omega, (j + 2, (a :: r) ++ [d]), ⟨by simp only; omega, by simp only; omega, by simp only [List.length_cons, List.length_append, List.length_nil]; omega, ?_⟩, by simp only; omega, by (simp [rA]; try omega), by simp [rE, byteAV, intV]⟩
        exact fin d hc
      ·have p2' : d ≠ 34 := fun e => p2 ((u8_eq d 34 (by omega)).2 e)
       (simp only [p2, (vmA), Nat.reduceEqDiff, reduceIte, Nat.reduceAdd, Int.reduceToNat, Int.reduceLE, Int.reduceLT, Int.reduceEq, Int.reduceNe, Int.reduceAdd, Int.reduceSub, Int.reduceNeg, Nat.reduceLT, Nat.reduceLeDiff, Nat.reduceBEq, undef, (stA), Nat.reduceMul]; try simp (disch := omega) only [(vmp)])
       refine ⟨by omega, ?_⟩
       simp only [hdd]
       by_cases p3 : (d.toNat : Int) = 92
       ·have p3' : d = 92 := (u8_eq d 92 (by omega)).1 p3
        rw [if_pos (.inr p3')] at hc
        (simp only [p3, (vmA), Nat.reduceEqDiff, reduceIte, Nat.reduceAdd, Int.reduceToNat, Int.reduceLE, Int.reduceLT, Int.reduceEq, Int.reduceNe, Int.reduceAdd, Int.reduceSub, Int.reduceNeg, Nat.reduceLT, Nat.reduceLeDiff, Nat.reduceBEq, undef, (stA), Nat.reduceMul]; try simp (disch := omega) only [(vmp)])
        refine ⟨by omega, ?_⟩
        simp only [hdd]
        rcases acc with _ | ⟨a, r⟩
        ·(simp only [rA, rE, (vmA), Nat.reduceEqDiff, reduceIte, Nat.reduceAdd, Int.reduceToNat, Int.reduceLE, Int.reduceLT, Int.reduceEq, Int.reduceNe, Int.reduceAdd, Int.reduceSub, Int.reduceNeg, Nat.reduceLT, Nat.reduceLeDiff, Nat.reduceBEq, undef, (stA), Nat.reduceMul]; try simp (disch := omega) only [(vmp)])
         refine ⟨by unfold maxRoom; omega, (j + 2, [d]), ⟨by simp only; omega, by simp only; omega, by simp only [List.length_cons, List.length_nil]; omega, ?_⟩, by simp only; omega, by (simp [rA]; try omega), by simp [rE, byteAV, intV]⟩
         exact fin d hc
        ·(simp only [rA, rE, (vmA), Nat.reduceEqDiff, reduceIte, Nat.reduceAdd, Int.reduceToNat, Int.reduceLE, Int.reduceLT, Int.reduceEq, Int.reduceNe, Int.reduceAdd, Int.reduceSub, Int.reduceNeg, Nat.reduceLT, Nat.reduceLeDiff, Nat.reduceBEq, undef, (stA), Nat.reduceMul]; try simp (disch := omega) only [(vmp)])
         simp only [List.length_cons] at ha
         refine ⟨by unfold maxRoom; omega, (j + 2, (a :: r) ++ [d]), ⟨by simp only; omega, by simp only; omega, by simp only [List.length_cons, List.length_append, List.length_nil]; omega, ?_⟩, by simp only; omega, by (simp [rA]; try omega), by simp [rE, byteAV, intV]⟩
         exact fin d hc
       ·have p3' : d ≠ 92 := fun e => p3 ((u8_eq d 92 (by omega)).2 e)
        rw [if_neg (by simp [p2', p3'])] at hc
        (simp only [p3, (vmA), Nat.reduceEqDiff, reduceIte, Nat.reduceAdd, Int.reduceToNat, Int.reduceLE, Int.reduceLT, Int.reduceEq, Int.reduceNe, Int.reduceAdd, Int.reduceSub, Int.reduceNeg, Nat.reduceLT, Nat.reduceLeDiff, Nat.reduceBEq, undef, (stA), Nat.reduceMul]; try simp (disch := omega) only [(vmp)])
        rw [hc]; rfl
    ·(simp only [q4, (vmA), Nat.reduceEqDiff, reduceIte, Nat.reduceAdd, Int.reduceToNat, Int.reduceLE, Int.reduceLT, Int.reduceEq, Int.reduceNe, Int.reduceAdd, Int.reduceSub, Int.reduceNeg, Nat.reduceLT, Nat.reduceLeDiff, Nat.reduceBEq, undef, (stA), Nat.reduceMul]; try simp (disch := omega) only [(vmp)])
     (simp only [q4, (vmA), Nat.reduceEqDiff, reduceIte, Nat.reduceAdd, Int.reduceToNat, Int.reduceLE, Int.reduceLT, Int.reduceEq, Int.reduceNe, Int.reduceAdd, Int.reduceSub, Int.reduceNeg, Nat.reduceLT, Nat.reduceLeDiff, Nat.reduceBEq, undef, (stA), Nat.reduceMul]; try simp (disch := omega) only [(vmp)])
     rw [List.drop_of_length_le (by omega), qS_end] at hc
     rw [hc]; rfl
   ·have n3 : c ≠ 92 := fun e => q3 ((u8_eq c 92 (by omega)).2 e)
    (simp only [q3, (vmA), Nat.reduceEqDiff, reduceIte, Nat.reduceAdd, Int.reduceToNat, Int.reduceLE, Int.reduceLT, Int.reduceEq, Int.reduceNe, Int.reduceAdd, Int.reduceSub, Int.reduceNeg, Nat.reduceLT, Nat.reduceLeDiff, Nat.reduceBEq, undef, (stA), Nat.reduceMul]; try simp (disch := omega) only [(vmp)])
    by_cases q5 : (c.toNat : Int) < 32
    ·(simp only [q5, (vmA), Nat.reduceEqDiff, reduceIte, Nat.reduceAdd, Int.reduceToNat, Int.reduceLE, Int.reduceLT, Int.reduceEq, Int.reduceNe, Int.reduceAdd, Int.reduceSub, Int.reduceNeg, Nat.reduceLT, Nat.reduceLeDiff, Nat.reduceBEq, undef, (stA), Nat.reduceMul]; try simp (disch := omega) only [(vmp)])
     rw [qS_bad c _ n1 (by rw [← Bool.not_eq_true, btw_iff]; omega)] at hc
     rw [hc]; rfl
    ·(simp only [q5, (vmA), Nat.reduceEqDiff, reduceIte, Nat.reduceAdd, Int.reduceToNat, Int.reduceLE, Int.reduceLT, Int.reduceEq, Int.reduceNe, Int.reduceAdd, Int.reduceSub, Int.reduceNeg, Nat.reduceLT, Nat.reduceLeDiff, Nat.reduceBEq, undef, (stA), Nat.reduceMul]; try simp (disch := omega) only [(vmp)])
     by_cases q6 : (126 : Int) < c.toNat
     ·(simp only [q6, (vmA), Nat.reduceEqDiff, reduceIte, Nat.reduceAdd, Int.reduceToNat, Int.reduceLE, Int.reduceLT, Int.reduceEq, Int.reduceNe, Int.reduceAdd, Int.reduceSub, Int.reduceNeg, Nat.reduceLT, Nat.reduceLeDiff, Nat.reduceBEq, undef, (stA), Nat.reduceMul]; try simp (disch := omega) only [(vmp)])
      rw [qS_bad c _ n1 (by rw [← Bool.not_eq_true, btw_iff]; omega)] at hc
      rw [hc]; rfl
     ·rw [qS_plain c _ n1 n3 (by rw [btw_iff]; omega)] at hc
      have fin : R = (qS (l.drop (j + 1))).map fun y => (y.1 + (j + 1 - (i + 1)), (acc ++ [c]) ++ y.2) := by
       rw [hc]; cases qS (l.drop (j + 1)) <;> simp
       omega
      (simp only [q6, (vmA), Nat.reduceEqDiff, reduceIte, Nat.reduceAdd, Int.reduceToNat, Int.reduceLE, Int.reduceLT, Int.reduceEq, Int.reduceNe, Int.reduceAdd, Int.reduceSub, Int.reduceNeg, Nat.reduceLT, Nat.reduceLeDiff, Nat.reduceBEq, undef, (stA), Nat.reduceMul]; try simp (disch := omega) only [(vmp)])
      rcases acc with _ | ⟨a, r⟩
      ·(simp only [rA, rE, (vmA), Nat.reduceEqDiff, reduceIte, Nat.reduceAdd, Int.reduceToNat, Int.reduceLE, Int.reduceLT, Int.reduceEq, Int.reduceNe, Int.reduceAdd, Int.reduceSub, Int.reduceNeg, Nat.reduceLT, Nat.reduceLeDiff, Nat.reduceBEq, undef, (stA), Nat.reduceMul]; try simp (disch := omega) only [(vmp)])
       refine ⟨by unfold maxRoom; omega, (j + 1, [c]), ⟨by simp only; omega, by simp only; omega, by simp only [List.length_cons, List.length_nil]; omega, ?_⟩, by simp only; omega, by (simp [rA]; try omega), by simp [rE, byteAV, intV]⟩
       exact fin
      ·(simp only [rA, rE, (vmA), Nat.reduceEqDiff, reduceIte, Nat.reduceAdd, Int.reduceToNat, Int.reduceLE, Int.reduceLT, Int.reduceEq, Int.reduceNe, Int.reduceAdd, Int.reduceSub, Int.reduceNeg, Nat.reduceLT, Nat.reduceLeDiff, Nat.reduceBEq, undef, (stA), Nat.reduceMul]; try simp (disch := omega) only [(vmp)])
       simp only [List.length_cons] at ha
       refine ⟨by unfold maxRoom; omega, (j + 1, (a :: r) ++ [c]), ⟨by simp only; omega, by simp only; omega, by simp only [List.length_cons, List.length_append, List.length_nil]; omega, ?_⟩, by simp only; omega, by (simp [rA]; try omega), by simp [rE, byteAV, intV]⟩
       exact fin
 ·(simp only [h, (vmA), Nat.reduceEqDiff, reduceIte, Nat.reduceAdd, Int.reduceToNat, Int.reduceLE, Int.reduceLT, Int.reduceEq, Int.reduceNe, Int.reduceAdd, Int.reduceSub, Int.reduceNeg, Nat.reduceLT, Nat.reduceLeDiff, Nat.reduceBEq, undef, (stA), Nat.reduceMul]; try simp (disch := omega) only [(vmp)])
  rw [List.drop_of_length_le (by omega), qS] at hc
  rw [hc]; rfl
end Go.D
namespace Go.D
open Go Go.Vm Go.Proofs Go.RowKit
set_option maxHeartbeats 4000000 in
theorem oneR_ok (l : List UInt8) (i : Nat) (hl : l.length ≤ 1099511627776) (hi : i < l.length) (σ : List Ent) : ACalls E 154 [.str l, i64 i] σ fun r τ =>
  (∃ (k t : List UInt8) (n p : Nat), r = .tup [tokA k t p, i64 n] ∧ (0 < n → p = i ∧ one (l.drop i) = some (k, t, n)) ∧ (n = 0 → one (l.drop i) = none)) ∧ τ = σ := by
 refine xacalls T0 .drop [] Tryz.func154 rfl (by kernel_rfl) (by kernel_rfl) (by simp [Tryz.ntmps154]) ?_
 have hg : ∀ j, (l.drop i).getD j 0 = l.getD (i + j) 0 := fun j => by simp [List.getD]
 have hdl : (l.drop i).length = l.length - i := List.length_drop
 have h10 : one (l.drop i) = oneR (l.drop i) := one_eq _
 have hlong := long_le _ true (l.drop i) (Nat.le_refl _)
 unfold oneR at h10
 rw [hg, hg, Nat.add_zero, hdl] at h10
 have hi' : (i : Int) < l.length := by omega
 (simp only [hi', (vmA), Nat.reduceEqDiff, reduceIte, Nat.reduceAdd, Int.reduceToNat, Int.reduceLE, Int.reduceLT, Int.reduceEq, Int.reduceNe, Int.reduceAdd, Int.reduceSub, Int.reduceNeg, Nat.reduceLT, Nat.reduceLeDiff, Nat.reduceBEq, undef, (stA), Nat.reduceMul]; try simp (disch := omega) only [(vmp)])
 refine xWait.go (small_ok _ _) ?_
 refine xOps.cut (.cut (fun ts g l' => Sub ts [(0, .str l), (1, i64 i), (4, .ref σ.length 0 0), (6, u8 (l.getD i 0).toNat), (20, boolV (letter (l.getD i 0)))] ∧ g = σ ∧ l' = [.arr 140 [.str [], .str [], i64 0] 0 0]) ?_) ?_
 ·rintro ts g l' ⟨hsub, rfl, rfl⟩
  simp only [sub_cons, sub_nil, and_true] at hsub
  obtain ⟨h0, h1, h4, h6, h20⟩ := hsub
  cases hlet : letter (l.getD i 0)
  ·rw [hlet] at h10 h20
   simp only [Bool.false_eq_true, if_false] at h10
   (simp only [h0, h1, h4, h6, h20, (vmA), Nat.reduceEqDiff, reduceIte, Nat.reduceAdd, Int.reduceToNat, Int.reduceLE, Int.reduceLT, Int.reduceEq, Int.reduceNe, Int.reduceAdd, Int.reduceSub, Int.reduceNeg, Nat.reduceLT, Nat.reduceLeDiff, Nat.reduceBEq, undef, (stA), Nat.reduceMul]; try simp (disch := omega) only [(vmp)])
   by_cases q1 : ((l.getD i 0).toNat : Int) = 34
   ·have q1' : l.getD i 0 = 34 := (u8_eq _ 34 (by omega)).1 q1
    rw [if_pos q1', List.drop_drop] at h10
    (simp only [h0, h1, h4, h6, q1, (vmA), Nat.reduceEqDiff, reduceIte, Nat.reduceAdd, Int.reduceToNat, Int.reduceLE, Int.reduceLT, Int.reduceEq, Int.reduceNe, Int.reduceAdd, Int.reduceSub, Int.reduceNeg, Nat.reduceLT, Nat.reduceLeDiff, Nat.reduceBEq, undef, (stA), Nat.reduceMul]; try simp (disch := omega) only [(vmp)])
    refine xWait.go (quotedR_ok l i hl hi q1' _) ?_
    cases hq : qS (l.drop (i + 1)) with
    | none =>
     rw [hq] at h10
     (simp only [h0, h1, h4, h6, (vmA), Nat.reduceEqDiff, reduceIte, Nat.reduceAdd, Int.reduceToNat, Int.reduceLE, Int.reduceLT, Int.reduceEq, Int.reduceNe, Int.reduceAdd, Int.reduceSub, Int.reduceNeg, Nat.reduceLT, Nat.reduceLeDiff, Nat.reduceBEq, undef, (stA), Nat.reduceMul]; try simp (disch := omega) only [(vmp)])
     trace_state
     exact ⟨_, _, 0, i, rfl, fun e => absurd e (by omega), fun _ => h10⟩
    | some x =>
     obtain ⟨n, t⟩ := x
     rw [hq] at h10
     simp only at h10
     (simp only [h0, h1, h4, h6, (vmA), Nat.reduceEqDiff, reduceIte, Nat.reduceAdd, Int.reduceToNat, Int.reduceLE, Int.reduceLT, Int.reduceEq, Int.reduceNe, Int.reduceAdd, Int.reduceSub, Int.reduceNeg, Nat.reduceLT, Nat.reduceLeDiff, Nat.reduceBEq, undef, (stA), Nat.reduceMul]; try simp (disch := omega) only [(vmp)])
     by_cases q2 : (200 : Int) < t.length
     ·rw [if_neg (by omega)] at h10
      (simp only [h0, h1, h4, h6, q2, (vmA), Nat.reduceEqDiff, reduceIte, Nat.reduceAdd, Int.reduceToNat, Int.reduceLE, Int.reduceLT, Int.reduceEq, Int.reduceNe, Int.reduceAdd, Int.reduceSub, Int.reduceNeg, Nat.reduceLT, Nat.reduceLeDiff, Nat.reduceBEq, undef, (stA), Nat.reduceMul]; try simp (disch := omega) only [(vmp)])
      exact ⟨_, _, 0, i, rfl, fun e => absurd e (by omega), fun _ => h10⟩
     ·rw [if_pos (by omega)] at h10
      (simp only [h0, h1, h4, h6, q2, (vmA), Nat.reduceEqDiff, reduceIte, Nat.reduceAdd, Int.reduceToNat, Int.reduceLE, Int.reduceLT, Int.reduceEq, Int.reduceNe, Int.reduceAdd, Int.reduceSub, Int.reduceNeg, Nat.reduceLT, Nat.reduceLeDiff, Nat.reduceBEq, undef, (stA), Nat.reduceMul]; try simp (disch := omega) only [(vmp)])
      exact ⟨_, _, n + 1, i, rfl, fun _ => ⟨rfl, h10⟩, fun e => absurd e (by omega)⟩
   ·have q1' : ¬ l.getD i 0 = 34 := fun e => q1 ((u8_eq _ 34 (by omega)).2 e)
    rw [if_neg q1'] at h10
    (simp only [h0, h1, h4, h6, q1, (vmA), Nat.reduceEqDiff, reduceIte, Nat.reduceAdd, Int.reduceToNat, Int.reduceLE, Int.reduceLT, Int.reduceEq, Int.reduceNe, Int.reduceAdd, Int.reduceSub, Int.reduceNeg, Nat.reduceLT, Nat.reduceLeDiff, Nat.reduceBEq, undef, (stA), Nat.reduceMul]; try simp (disch := omega) only [(vmp)])
    by_cases q2 : ((l.getD i 0).toNat : Int) = 39
    ·have q2' : l.getD i 0 = 39 := (u8_eq _ 39 (by omega)).1 q2
     rw [if_pos q2'] at h10
     (simp only [h0, h1, h4, h6, q2, (vmA), Nat.reduceEqDiff, reduceIte, Nat.reduceAdd, Int.reduceToNat, Int.reduceLE, Int.reduceLT, Int.reduceEq, Int.reduceNe, Int.reduceAdd, Int.reduceSub, Int.reduceNeg, Nat.reduceLT, Nat.reduceLeDiff, Nat.reduceBEq, undef, (stA), Nat.reduceMul]; try simp (disch := omega) only [(vmp)])
     by_cases q3 : ((i + 1 : Nat) : Int) < l.length
     ·(simp only [h0, h1, h4, h6, q3, (vmA), Nat.reduceEqDiff, reduceIte, Nat.reduceAdd, Int.reduceToNat, Int.reduceLE, Int.reduceLT, Int.reduceEq, Int.reduceNe, Int.reduceAdd, Int.reduceSub, Int.reduceNeg, Nat.reduceLT, Nat.reduceLeDiff, Nat.reduceBEq, undef, (stA), Nat.reduceMul]; try simp (disch := omega) only [(vmp)])
      refine ⟨by omega, ?_⟩
      refine xWait.go (small_ok _ _) ?_
      cases q4 : btw 97 (l.getD (i + 1) 0).toNat 122
      ·rw [if_neg (by rw [q4]; simp)] at h10
       (simp only [h0, h1, h4, h6, (vmA), Nat.reduceEqDiff, reduceIte, Nat.reduceAdd, Int.reduceToNat, Int.reduceLE, Int.reduceLT, Int.reduceEq, Int.reduceNe, Int.reduceAdd, Int.reduceSub, Int.reduceNeg, Nat.reduceLT, Nat.reduceLeDiff, Nat.reduceBEq, undef, (stA), Nat.reduceMul]; try simp (disch := omega) only [(vmp)])
       exact ⟨_, _, 0, 0, rfl, fun e => absurd e (by omega), fun _ => h10⟩
      ·rw [if_pos ⟨by omega, q4⟩] at h10
       (simp only [h0, h1, h4, h6, (vmA), Nat.reduceEqDiff, reduceIte, Nat.reduceAdd, Int.reduceToNat, Int.reduceLE, Int.reduceLT, Int.reduceEq, Int.reduceNe, Int.reduceAdd, Int.reduceSub, Int.reduceNeg, Nat.reduceLT, Nat.reduceLeDiff, Nat.reduceBEq, undef, (stA), Nat.reduceMul]; try simp (disch := omega) only [(vmp)])
       refine ⟨by omega, ?_⟩
       exact ⟨_, _, 2, i, rfl, fun _ => ⟨rfl, h10⟩, fun e => absurd e (by omega)⟩
     ·rw [if_neg (by omega)] at h10
      (simp only [h0, h1, h4, h6, q3, (vmA), Nat.reduceEqDiff, reduceIte, Nat.reduceAdd, Int.reduceToNat, Int.reduceLE, Int.reduceLT, Int.reduceEq, Int.reduceNe, Int.reduceAdd, Int.reduceSub, Int.reduceNeg, Nat.reduceLT, Nat.reduceLeDiff, Nat.reduceBEq, undef, (stA), Nat.reduceMul]; try simp (disch := omega) only [(vmp)])
      exact ⟨_, _, 0, 0, rfl, fun e => absurd e (by omega), fun _ => h10⟩
    ·have q2' : ¬ l.getD i 0 = 39 := fun e => q2 ((u8_eq _ 39 (by omega)).2 e)
     rw [if_neg q2'] at h10
     (simp only [h0, h1, h4, h6, q2, (vmA), Nat.reduceEqDiff, reduceIte, Nat.reduceAdd, Int.reduceToNat, Int.reduceLE, Int.reduceLT, Int.reduceEq, Int.reduceNe, Int.reduceAdd, Int.reduceSub, Int.reduceNeg, Nat.reduceLT, Nat.reduceLeDiff, Nat.reduceBEq, undef, (stA), Nat.reduceMul]; try simp (disch := omega) only [(vmp)])
     refine xWait.go (numberR_ok l i hl hi _) ?_
     have hdle := (digits_take (l.drop i)).2
     (simp only [h0, h1, h4, h6, (vmA), Nat.reduceEqDiff, reduceIte, Nat.reduceAdd, Int.reduceToNat, Int.reduceLE, Int.reduceLT, Int.reduceEq, Int.reduceNe, Int.reduceAdd, Int.reduceSub, Int.reduceNeg, Nat.reduceLT, Nat.reduceLeDiff, Nat.reduceBEq, undef, (stA), Nat.reduceMul]; try simp (disch := omega) only [(vmp)])
     by_cases q3 : (0 : Int) < digits (l.drop i)
     ·rw [if_pos (by omega)] at h10
      (simp only [h0, h1, h4, h6, q3, (vmA), Nat.reduceEqDiff, reduceIte, Nat.reduceAdd, Int.reduceToNat, Int.reduceLE, Int.reduceLT, Int.reduceEq, Int.reduceNe, Int.reduceAdd, Int.reduceSub, Int.reduceNeg, Nat.reduceLT, Nat.reduceLeDiff, Nat.reduceBEq, undef, (stA), Nat.reduceMul]; try simp (disch := omega) only [(vmp)])
      refine ⟨by omega, ?_⟩
      refine xWait.go (fitsR_ok _ (by simp; omega) (by simp; omega) _) ?_
      cases q4 : fits ((l.drop i).take (digits (l.drop i)))
      ·rw [q4] at h10
       (simp only [h0, h1, h4, h6, (vmA), Nat.reduceEqDiff, reduceIte, Nat.reduceAdd, Int.reduceToNat, Int.reduceLE, Int.reduceLT, Int.reduceEq, Int.reduceNe, Int.reduceAdd, Int.reduceSub, Int.reduceNeg, Nat.reduceLT, Nat.reduceLeDiff, Nat.reduceBEq, undef, (stA), Nat.reduceMul]; try simp (disch := omega) only [(vmp)])
       exact ⟨_, _, 0, 0, rfl, fun e => absurd e (by omega), fun _ => h10⟩
      ·rw [q4] at h10
       (simp only [h0, h1, h4, h6, (vmA), Nat.reduceEqDiff, reduceIte, Nat.reduceAdd, Int.reduceToNat, Int.reduceLE, Int.reduceLT, Int.reduceEq, Int.reduceNe, Int.reduceAdd, Int.reduceSub, Int.reduceNeg, Nat.reduceLT, Nat.reduceLeDiff, Nat.reduceBEq, undef, (stA), Nat.reduceMul]; try simp (disch := omega) only [(vmp)])
       refine ⟨by omega, ?_⟩
       exact ⟨_, _, digits (l.drop i), i, rfl, fun _ => ⟨rfl, h10⟩, fun e => absurd e (by omega)⟩
     ·rw [if_neg (by omega)] at h10
      (simp only [h0, h1, h4, h6, q3, (vmA), Nat.reduceEqDiff, reduceIte, Nat.reduceAdd, Int.reduceToNat, Int.reduceLE, Int.reduceLT, Int.reduceEq, Int.reduceNe, Int.reduceAdd, Int.reduceSub, Int.reduceNeg, Nat.reduceLT, Nat.reduceLeDiff, Nat.reduceBEq, undef, (stA), Nat.reduceMul]; try simp (disch := omega) only [(vmp)])
      refine xWait.go (signsR_ok l i hl hi _) ?_
      have hs := (sign_len (l.drop i)).2
      rw [hs.1, List.length_take] at hs
      (simp only [h0, h1, h4, h6, (vmA), Nat.reduceEqDiff, reduceIte, Nat.reduceAdd, Int.reduceToNat, Int.reduceLE, Int.reduceLT, Int.reduceEq, Int.reduceNe, Int.reduceAdd, Int.reduceSub, Int.reduceNeg, Nat.reduceLT, Nat.reduceLeDiff, Nat.reduceBEq, undef, (stA), Nat.reduceMul]; try simp (disch := omega) only [(vmp)])
      refine ⟨by omega, ?_⟩
      refine ⟨_, _, signsN (l.drop i), i, rfl, fun e => ⟨rfl, ?_⟩, fun e => ?_⟩
      ·rw [h10, if_neg (by omega)]; rfl
      ·rw [h10, if_pos e]
  ·rw [hlet] at h10 h20
   simp only [if_true] at h10
   (simp only [h0, h1, h4, h6, h20, (vmA), Nat.reduceEqDiff, reduceIte, Nat.reduceAdd, Int.reduceToNat, Int.reduceLE, Int.reduceLT, Int.reduceEq, Int.reduceNe, Int.reduceAdd, Int.reduceSub, Int.reduceNeg, Nat.reduceLT, Nat.reduceLeDiff, Nat.reduceBEq, undef, (stA), Nat.reduceMul]; try simp (disch := omega) only [(vmp)])
   refine xWait.go (named_ok l i hl hi hlet _) ?_
   (simp only [h0, h1, h4, h6, (vmA), Nat.reduceEqDiff, reduceIte, Nat.reduceAdd, Int.reduceToNat, Int.reduceLE, Int.reduceLT, Int.reduceEq, Int.reduceNe, Int.reduceAdd, Int.reduceSub, Int.reduceNeg, Nat.reduceLT, Nat.reduceLeDiff, Nat.reduceBEq, undef, (stA), Nat.reduceMul]; try simp (disch := omega) only [(vmp)])
   refine ⟨by omega, ?_⟩
   refine ⟨_, _, (long true (l.drop i)).1, i, rfl, fun e => ⟨rfl, ?_⟩, fun e => ?_⟩
   ·rw [h10, if_neg]
    intro hk
    have := long_none true _ hk
    rw [this] at e; simp at e
   ·rw [h10, if_pos]
    by_cases hk : (long true (l.drop i)).2 = []
    ·exact hk
    ·have := hlong.2 hk; omega
 ·unfold letter
  cases h1 : btw 97 (l.getD i 0).toNat 122
  ·(simp only [(vmA), Nat.reduceEqDiff, reduceIte, Nat.reduceAdd, Int.reduceToNat, Int.reduceLE, Int.reduceLT, Int.reduceEq, Int.reduceNe, Int.reduceAdd, Int.reduceSub, Int.reduceNeg, Nat.reduceLT, Nat.reduceLeDiff, Nat.reduceBEq, undef, (stA), Nat.reduceMul]; try simp (disch := omega) only [(vmp)])
   refine xWait.go (great_ok _ _) ?_
   (simp only [(vmA), Nat.reduceEqDiff, reduceIte, Nat.reduceAdd, Int.reduceToNat, Int.reduceLE, Int.reduceLT, Int.reduceEq, Int.reduceNe, Int.reduceAdd, Int.reduceSub, Int.reduceNeg, Nat.reduceLT, Nat.reduceLeDiff, Nat.reduceBEq, undef, (stA), Nat.reduceMul]; try simp (disch := omega) only [(vmp)])
  ·(simp only [(vmA), Nat.reduceEqDiff, reduceIte, Nat.reduceAdd, Int.reduceToNat, Int.reduceLE, Int.reduceLT, Int.reduceEq, Int.reduceNe, Int.reduceAdd, Int.reduceSub, Int.reduceNeg, Nat.reduceLT, Nat.reduceLeDiff, Nat.reduceBEq, undef, (stA), Nat.reduceMul]; try simp (disch := omega) only [(vmp)])
end Go.D
namespace Go.D
open Go Go.Vm Go.Proofs Go.RowKit
def nameB (k t : List UInt8) : Bool := decide ((long true t).1 = t.length) && decide ((long true t).2 = k)
theorem one_name (k t : List UInt8) (hk : k = kName ∨ k = kCon) : nameB k t = match one t with
  | some x => decide (x.2.2 = t.length) && decide (x.1 = k)
  | none => false := by
 have hne : ¬ (k = kInt ∨ k = kText ∨ k = kVar ∨ k = kSign ∨ k = []) := by rcases hk with rfl | rfl <;> decide
 unfold nameB one
 by_cases h : (long true t).2 = []
 ·rw [if_neg (by simp [h])]
  have h1 : ¬ (long true t).2 = k := fun e => hne (by rw [← e, h]; simp)
  simp only [h1, decide_false, Bool.and_false]
  have key : ∀ o : Option (List UInt8 × List UInt8 × Nat), (∀ x, o = some x → x.1 ≠ k) → false = match o with
    | some x => decide (x.2.2 = t.length) && decide (x.1 = k)
    | none => false := by
   intro o ho
   cases o with
   | none => rfl
   | some x => have := ho x rfl; simp [this]
  apply key
  intro x hx
  by_cases a1 : 0 < digits t
  ·rw [if_pos a1] at hx
   cases a2 : fits (t.take (digits t))
   ·rw [a2] at hx; exact absurd hx (by simp)
   ·rw [a2, if_pos rfl] at hx; rw [← Option.some.inj hx]; exact fun e => hne (.inl e.symm)
  rw [if_neg a1] at hx
  by_cases a2 : t.getD 0 0 = 34
  ·rw [if_pos a2] at hx
   cases a3 : qS (t.drop 1) with
   | none => rw [a3] at hx; exact absurd hx (by simp)
   | some y =>
    rw [a3] at hx
    simp only at hx
    by_cases a4 : y.2.length ≤ 200
    ·rw [if_pos a4] at hx; rw [← Option.some.inj hx]; exact fun e => hne (.inr (.inl e.symm))
    ·rw [if_neg a4] at hx; exact absurd hx (by simp)
  rw [if_neg a2] at hx
  by_cases a3 : 1 < t.length ∧ t.getD 0 0 = 39 ∧ btw 97 (t.getD 1 0).toNat 122 = true
  ·rw [if_pos a3] at hx; rw [← Option.some.inj hx]; exact fun e => hne (.inr (.inr (.inl e.symm)))
  rw [if_neg a3] at hx
  by_cases a4 : sign t = []
  ·rw [if_pos a4] at hx; exact absurd hx (by simp)
  ·rw [if_neg a4] at hx; rw [← Option.some.inj hx]; exact fun e => hne (.inr (.inr (.inr (.inl e.symm))))
 ·rw [if_pos (by simp [h])]
set_option maxHeartbeats 4000000 in
theorem ValidR_name (k t : List UInt8) (hk : k = kName ∨ k = kCon) (hl : t.length ≤ 1099511627776) (σ : List Ent) : ACalls E 144 [tokA k t 0] σ fun r τ => r = boolV (nameB k t) ∧ τ = σ := by
 refine xacalls T0 .drop [] Tryz.func144 rfl (by kernel_rfl) (by kernel_rfl) (by simp [Tryz.ntmps144]) ?_
 have hne : ¬ k = [116, 101, 120, 116] := by rcases hk with rfl | rfl <;> decide
 have hk0 : ¬ k = [] := by rcases hk with rfl | rfl <;> decide
 have hon := one_name k t hk
 have hpre : Lib.hasPrefix t [40, 42] = true → nameB k t = false := fun h => by
  have h1 : letter (t.getD 0 0) = false := by
   have h2 := (prefix_take t).1 h
   rcases t with _ | ⟨a, r⟩
   ·simp at h2
   ·have : a = 40 := by rcases r with _ | ⟨b, r⟩ <;> simp at h2; exact h2.1
    rw [this, List.getD_cons_zero]; decide
  unfold nameB
  rw [long_letter true t h1]
  simp [Ne.symm hk0]
 have hnil : t = [] → nameB k t = false := fun h => by
  rw [h]; unfold nameB; rw [long_letter true [] (by decide)]
  simp [Ne.symm hk0]
 generalize nameB k t = B at *
 (simp only [tokA, (vmA), Nat.reduceEqDiff, reduceIte, Nat.reduceAdd, Int.reduceToNat, Int.reduceLE, Int.reduceLT, Int.reduceEq, Int.reduceNe, Int.reduceAdd, Int.reduceSub, Int.reduceNeg, Nat.reduceLT, Nat.reduceLeDiff, Nat.reduceBEq, undef, (stA), Nat.reduceMul]; try simp (disch := omega) only [(vmp)])
 (simp only [hne, (vmA), Nat.reduceEqDiff, reduceIte, Nat.reduceAdd, Int.reduceToNat, Int.reduceLE, Int.reduceLT, Int.reduceEq, Int.reduceNe, Int.reduceAdd, Int.reduceSub, Int.reduceNeg, Nat.reduceLT, Nat.reduceLeDiff, Nat.reduceBEq, undef, (stA), Nat.reduceMul]; try simp (disch := omega) only [(vmp)])
 by_cases h0 : t = []
 ·rw [hnil h0]
  (simp only [h0, (vmA), Nat.reduceEqDiff, reduceIte, Nat.reduceAdd, Int.reduceToNat, Int.reduceLE, Int.reduceLT, Int.reduceEq, Int.reduceNe, Int.reduceAdd, Int.reduceSub, Int.reduceNeg, Nat.reduceLT, Nat.reduceLeDiff, Nat.reduceBEq, undef, (stA), Nat.reduceMul]; try simp (disch := omega) only [(vmp)])
 ·have hpos : 0 < t.length := List.length_pos_iff.2 h0
  (simp only [h0, (vmA), Nat.reduceEqDiff, reduceIte, Nat.reduceAdd, Int.reduceToNat, Int.reduceLE, Int.reduceLT, Int.reduceEq, Int.reduceNe, Int.reduceAdd, Int.reduceSub, Int.reduceNeg, Nat.reduceLT, Nat.reduceLeDiff, Nat.reduceBEq, undef, (stA), Nat.reduceMul]; try simp (disch := omega) only [(vmp)])
  refine xWait.go (HasPrefix_ok _ _ _) ?_
  cases hp : Lib.hasPrefix t [40, 42]
  ·(simp only [(vmA), Nat.reduceEqDiff, reduceIte, Nat.reduceAdd, Int.reduceToNat, Int.reduceLE, Int.reduceLT, Int.reduceEq, Int.reduceNe, Int.reduceAdd, Int.reduceSub, Int.reduceNeg, Nat.reduceLT, Nat.reduceLeDiff, Nat.reduceBEq, undef, (stA), Nat.reduceMul]; try simp (disch := omega) only [(vmp)])
   refine xWait.of (oneR_ok t 0 hl hpos _) ?_
   rintro _ _ ⟨⟨k', t', n, p', rfl, h1, h2⟩, rfl⟩
   rw [List.drop_zero] at h1 h2
   (simp only [tokA, (vmA), Nat.reduceEqDiff, reduceIte, Nat.reduceAdd, Int.reduceToNat, Int.reduceLE, Int.reduceLT, Int.reduceEq, Int.reduceNe, Int.reduceAdd, Int.reduceSub, Int.reduceNeg, Nat.reduceLT, Nat.reduceLeDiff, Nat.reduceBEq, undef, (stA), Nat.reduceMul]; try simp (disch := omega) only [(vmp)])
   by_cases hn : n = 0
   ·have hq : ¬ (n : Int) = t.length := by omega
    rw [hon, h2 hn]
    (simp only [hq, (vmA), Nat.reduceEqDiff, reduceIte, Nat.reduceAdd, Int.reduceToNat, Int.reduceLE, Int.reduceLT, Int.reduceEq, Int.reduceNe, Int.reduceAdd, Int.reduceSub, Int.reduceNeg, Nat.reduceLT, Nat.reduceLeDiff, Nat.reduceBEq, undef, (stA), Nat.reduceMul]; try simp (disch := omega) only [(vmp)])
   ·rw [hon, (h1 (by omega)).2]
    by_cases hq : (n : Int) = t.length
    ·have hq' : n = t.length := by omega
     (simp only [hq, hq', (vmA), Nat.reduceEqDiff, reduceIte, Nat.reduceAdd, Int.reduceToNat, Int.reduceLE, Int.reduceLT, Int.reduceEq, Int.reduceNe, Int.reduceAdd, Int.reduceSub, Int.reduceNeg, Nat.reduceLT, Nat.reduceLeDiff, Nat.reduceBEq, undef, (stA), Nat.reduceMul]; try simp (disch := omega) only [(vmp)])
    ·have hq' : ¬ n = t.length := by omega
     (simp only [hq, hq', (vmA), Nat.reduceEqDiff, reduceIte, Nat.reduceAdd, Int.reduceToNat, Int.reduceLE, Int.reduceLT, Int.reduceEq, Int.reduceNe, Int.reduceAdd, Int.reduceSub, Int.reduceNeg, Nat.reduceLT, Nat.reduceLeDiff, Nat.reduceBEq, undef, (stA), Nat.reduceMul]; try simp (disch := omega) only [(vmp)])
  ·rw [hpre hp]
   (simp only [(vmA), Nat.reduceEqDiff, reduceIte, Nat.reduceAdd, Int.reduceToNat, Int.reduceLE, Int.reduceLT, Int.reduceEq, Int.reduceNe, Int.reduceAdd, Int.reduceSub, Int.reduceNeg, Nat.reduceLT, Nat.reduceLeDiff, Nat.reduceBEq, undef, (stA), Nat.reduceMul]; try simp (disch := omega) only [(vmp)])
theorem is_ok (k t : List UInt8) (hk : k = kName ∨ k = kCon) (hl : t.length ≤ 1099511627776) (σ : List Ent) : ACalls E 130 [.str t, .str k] σ fun r τ => r = boolV (nameB k t) ∧ τ = σ := by
 refine xacalls T0 .drop [] Tryz.func130 rfl (by kernel_rfl) (by kernel_rfl) (by simp [Tryz.ntmps130]) ?_
 (simp only [(vmA), Nat.reduceEqDiff, reduceIte, Nat.reduceAdd, Int.reduceToNat, Int.reduceLE, Int.reduceLT, Int.reduceEq, Int.reduceNe, Int.reduceAdd, Int.reduceSub, Int.reduceNeg, Nat.reduceLT, Nat.reduceLeDiff, Nat.reduceBEq, undef, (stA), Nat.reduceMul]; try simp (disch := omega) only [(vmp)])
 refine xWait.go (ValidR_name k t hk hl _) ?_
 (simp only [(vmA), Nat.reduceEqDiff, reduceIte, Nat.reduceAdd, Int.reduceToNat, Int.reduceLE, Int.reduceLT, Int.reduceEq, Int.reduceNe, Int.reduceAdd, Int.reduceSub, Int.reduceNeg, Nat.reduceLT, Nat.reduceLeDiff, Nat.reduceBEq, undef, (stA), Nat.reduceMul]; try simp (disch := omega) only [(vmp)])
theorem IsConR_ok (t : List UInt8) (hl : t.length ≤ 1099511627776) (σ : List Ent) : ACalls E 106 [.str t] σ fun r τ => r = boolV (nameB kCon t) ∧ τ = σ := by
 refine xacalls T0 .drop [] Tryz.func106 rfl (by kernel_rfl) (by kernel_rfl) (by simp [Tryz.ntmps106]) ?_
 (simp only [(vmA), Nat.reduceEqDiff, reduceIte, Nat.reduceAdd, Int.reduceToNat, Int.reduceLE, Int.reduceLT, Int.reduceEq, Int.reduceNe, Int.reduceAdd, Int.reduceSub, Int.reduceNeg, Nat.reduceLT, Nat.reduceLeDiff, Nat.reduceBEq, undef, (stA), Nat.reduceMul]; try simp (disch := omega) only [(vmp)])
 refine xWait.go (is_ok kCon t (.inr rfl) hl _) ?_
 (simp only [(vmA), Nat.reduceEqDiff, reduceIte, Nat.reduceAdd, Int.reduceToNat, Int.reduceLE, Int.reduceLT, Int.reduceEq, Int.reduceNe, Int.reduceAdd, Int.reduceSub, Int.reduceNeg, Nat.reduceLT, Nat.reduceLeDiff, Nat.reduceBEq, undef, (stA), Nat.reduceMul]; try simp (disch := omega) only [(vmp)])
end Go.D
set_option linter.unnecessarySimpa false
namespace Go.D
open Go Go.Vm Go.Proofs Go.RowKit
theorem IsVarR_ok (n : List UInt8) (σ : List Ent) : ACalls E 98 [.str n] σ fun r τ => r = boolV (varB n) ∧ τ = σ := by
 refine xacalls T0 .drop [] Tryz.func98 rfl (by kernel_rfl) (by kernel_rfl) (by simp [Tryz.ntmps98]) ?_
 unfold varB btw
 by_cases h : (n.length : Int) = 2
 rotate_left
 ·(simp only [h, (vmA), Nat.reduceEqDiff, reduceIte, Nat.reduceAdd, Int.reduceToNat, Int.reduceLE, Int.reduceLT, Int.reduceEq, Int.reduceNe, Int.reduceAdd, Int.reduceSub, Int.reduceNeg, Nat.reduceLT, Nat.reduceLeDiff, Nat.reduceBEq, undef, (stA), Nat.reduceMul]; try simp (disch := omega) only [(vmp)])
 have h0 : (0 : Int) < n.length := by omega
 have h1 : (1 : Int) < n.length := by omega
 by_cases ha : ((n.getD 0 0).toNat : Int) = 39
 rotate_left
 ·(simp only [h, ha, (vmA), Nat.reduceEqDiff, reduceIte, Nat.reduceAdd, Int.reduceToNat, Int.reduceLE, Int.reduceLT, Int.reduceEq, Int.reduceNe, Int.reduceAdd, Int.reduceSub, Int.reduceNeg, Nat.reduceLT, Nat.reduceLeDiff, Nat.reduceBEq, undef, (stA), Nat.reduceMul]; try simp (disch := omega) only [(vmp)])
 by_cases hb : (97 : Int) ≤ ((n.getD 1 0).toNat : Int)
 rotate_left
 ·(simp only [h, ha, hb, (vmA), Nat.reduceEqDiff, reduceIte, Nat.reduceAdd, Int.reduceToNat, Int.reduceLE, Int.reduceLT, Int.reduceEq, Int.reduceNe, Int.reduceAdd, Int.reduceSub, Int.reduceNeg, Nat.reduceLT, Nat.reduceLeDiff, Nat.reduceBEq, undef, (stA), Nat.reduceMul]; try simp (disch := omega) only [(vmp)])
 ·(simp only [h, ha, hb, (vmA), Nat.reduceEqDiff, reduceIte, Nat.reduceAdd, Int.reduceToNat, Int.reduceLE, Int.reduceLT, Int.reduceEq, Int.reduceNe, Int.reduceAdd, Int.reduceSub, Int.reduceNeg, Nat.reduceLT, Nat.reduceLeDiff, Nat.reduceBEq, undef, (stA), Nat.reduceMul]; try simp (disch := omega) only [(vmp)])
theorem IsConT_ok (t : List UInt8) (hl : t.length ≤ 1099511627776) (σ : List Ent) : ACalls E 106 [.str t] σ fun r τ => r = boolV (conB t) ∧ τ = σ := IsConR_ok t hl σ
theorem smallT_ok (a b : Int) (σ : List Ent) : ACalls E 78 [i64 a, i64 b] σ fun r τ => r = boolV (fitsB (a, b)) ∧ τ = σ := by
 refine xacalls T0 .drop [] Tryz.func78 rfl (by kernel_rfl) (by kernel_rfl) (by simp [Tryz.ntmps78]) ?_
 unfold fitsB
 by_cases h : a ≤ 2000
 ·(simp only [h, (vmA), Nat.reduceEqDiff, reduceIte, Nat.reduceAdd, Int.reduceToNat, Int.reduceLE, Int.reduceLT, Int.reduceEq, Int.reduceNe, Int.reduceAdd, Int.reduceSub, Int.reduceNeg, Nat.reduceLT, Nat.reduceLeDiff, Nat.reduceBEq, undef, (stA), Nat.reduceMul]; try simp (disch := omega) only [(vmp)])
 ·(simp only [h, (vmA), Nat.reduceEqDiff, reduceIte, Nat.reduceAdd, Int.reduceToNat, Int.reduceLE, Int.reduceLT, Int.reduceEq, Int.reduceNe, Int.reduceAdd, Int.reduceSub, Int.reduceNeg, Nat.reduceLT, Nat.reduceLeDiff, Nat.reduceBEq, undef, (stA), Nat.reduceMul]; try simp (disch := omega) only [(vmp)])
theorem grown_ok (a b c d : Int) (σ : List Ent) : ACalls E 107 [i64 a, i64 b, i64 c, i64 d] σ fun r τ => r = .tup [i64 (wr (a + c)), i64 (max b (wr (d + 1)))] ∧ τ = σ := by
 refine xacalls T0 .drop [] Tryz.func107 rfl (by kernel_rfl) (by kernel_rfl) (by simp [Tryz.ntmps107]) ?_
 (simp only [wr, (vmA), Nat.reduceEqDiff, reduceIte, Nat.reduceAdd, Int.reduceToNat, Int.reduceLE, Int.reduceLT, Int.reduceEq, Int.reduceNe, Int.reduceAdd, Int.reduceSub, Int.reduceNeg, Nat.reduceLT, Nat.reduceLeDiff, Nat.reduceBEq, undef, (stA), Nat.reduceMul]; try simp (disch := omega) only [(vmp)])
def ZR (t : Tr) : Prop := ∀ σ : List Ent, lenT t → ACalls E 79 [tyV t] σ fun r τ => r = .tup [i64 (ofT t).1, i64 (ofT t).2] ∧ τ = σ
set_option maxHeartbeats 4000000 in
theorem sizeType_step (d n : List UInt8) (us : List Tr) (ih : ∀ u ∈ us, ZR u) : ZR (.mk d n us) := by
 intro σ hl
 simp only [lenT] at hl
 refine xacalls T0 .drop [] Tryz.func79 rfl (by kernel_rfl) (by kernel_rfl) (by simp [Tryz.ntmps79]) ?_
 (simp only [tyV, tysV_len, (vmA), Nat.reduceEqDiff, reduceIte, Nat.reduceAdd, Int.reduceToNat, Int.reduceLE, Int.reduceLT, Int.reduceEq, Int.reduceNe, Int.reduceAdd, Int.reduceSub, Int.reduceNeg, Nat.reduceLT, Nat.reduceLeDiff, Nat.reduceBEq, undef, (stA), Nat.reduceMul]; try simp (disch := omega) only [(vmp)])
 refine xloop (α := Nat × List Ent) T0 (fun x => [(2, i64 (aboveS (1, 1) (ofTs (us.take x.1))).1), (3, i64 (aboveS (1, 1) (ofTs (us.take x.1))).2), (9, .sl (tysV us)), (10, i64 us.length), (11, i64 x.1)]) (fun _ => σ)
  (fun x => .arr 24 [.str d, .str n, .sl (tysV us)] 0 0 :: x.2) (fun x => x.1 ≤ us.length) (fun x => us.length - x.1) (by kernel_rfl)
  ⟨(0, []), by simp, by (simp only [List.take_zero, ofTs, aboveS, (vmA), Nat.reduceEqDiff, reduceIte, Nat.reduceAdd, Int.reduceToNat, Int.reduceLE, Int.reduceLT, Int.reduceEq, Int.reduceNe, Int.reduceAdd, Int.reduceSub, Int.reduceNeg, Nat.reduceLT, Nat.reduceLeDiff, Nat.reduceBEq, undef, (stA), Nat.reduceMul, Int.natCast_zero]; try simp (disch := omega) only [(vmp)]), rfl, rfl⟩ ?_
 rintro ⟨i, junk⟩ hi
 simp only at hi
 by_cases h : (i : Int) < us.length
 ·have hi' : i < us.length := by omega
  have hu : us[i]? = some us[i] := List.getElem?_eq_getElem hi'
  have hmem : us[i] ∈ us := List.getElem_mem hi'
  obtain ⟨s1, s2⟩ := take_split us i _ hu
  generalize us[i] = u at *
  have hg := tysV_get hu
  have hc := fun σ' => ih u hmem σ' (lenTs_mem hl.2.2 hmem)
  have hnext : aboveS (1, 1) (ofTs (us.take (i + 1))) = (wr ((aboveS (1, 1) (ofTs (us.take i))).1 + (ofT u).1), max (aboveS (1, 1) (ofTs (us.take i))).2 (wr ((ofT u).2 + 1))) := by
   rw [s1, ofTs_map, ofTs_map, List.map_append]; exact aboveS_app _ _ _
  rcases hr : ofT u with ⟨a, b⟩
  rw [hr] at hnext
  simp only [hr] at hc
  have hgr := fun σ' => grown_ok (aboveS (1, 1) (ofTs (us.take i))).1 (aboveS (1, 1) (ofTs (us.take i))).2 a b σ'
  generalize aboveS (1, 1) (ofTs (us.take i)) = A at *
  cases u with
  | mk d2 n2 us2 =>
  simp only [tyV] at hg hc
  (simp only [h, hg, tysV_len, (vmA), Nat.reduceEqDiff, reduceIte, Nat.reduceAdd, Int.reduceToNat, Int.reduceLE, Int.reduceLT, Int.reduceEq, Int.reduceNe, Int.reduceAdd, Int.reduceSub, Int.reduceNeg, Nat.reduceLT, Nat.reduceLeDiff, Nat.reduceBEq, undef, (stA), Nat.reduceMul]; try simp (disch := omega) only [(vmp)])
  refine xWait.go (hc _) ?_
  (simp only [(vmA), Nat.reduceEqDiff, reduceIte, Nat.reduceAdd, Int.reduceToNat, Int.reduceLE, Int.reduceLT, Int.reduceEq, Int.reduceNe, Int.reduceAdd, Int.reduceSub, Int.reduceNeg, Nat.reduceLT, Nat.reduceLeDiff, Nat.reduceBEq, undef, (stA), Nat.reduceMul]; try simp (disch := omega) only [(vmp)])
  refine xWait.go (hgr _) ?_
  (simp only [(vmA), Nat.reduceEqDiff, reduceIte, Nat.reduceAdd, Int.reduceToNat, Int.reduceLE, Int.reduceLT, Int.reduceEq, Int.reduceNe, Int.reduceAdd, Int.reduceSub, Int.reduceNeg, Nat.reduceLT, Nat.reduceLeDiff, Nat.reduceBEq, undef, (stA), Nat.reduceMul]; try simp (disch := omega) only [(vmp)])
  refine ⟨(i + 1, junk ++ [.arr 24 [.str d2, .str n2, .sl (tysV us2)] 0 0]), by simp only; omega, by simp only; omega, ?_⟩
  simp only [hnext]
  first | trivial | exact ⟨rfl, rfl⟩
 ·have hie : i = us.length := by omega
  subst hie
  (simp only [h, List.take_of_length_le (Nat.le_refl _), (vmA), Nat.reduceEqDiff, reduceIte, Nat.reduceAdd, Int.reduceToNat, Int.reduceLE, Int.reduceLT, Int.reduceEq, Int.reduceNe, Int.reduceAdd, Int.reduceSub, Int.reduceNeg, Nat.reduceLT, Nat.reduceLeDiff, Nat.reduceBEq, undef, (stA), Nat.reduceMul]; try simp (disch := omega) only [(vmp)])
  simp only [ofT]
theorem sizeType_ok : ∀ (m : Nat) (t : Tr), SizeOf.sizeOf t ≤ m → ZR t
 | 0, .mk d n us, h => by simp at h
 | m + 1, .mk d n us, h => sizeType_step d n us fun u hu => sizeType_ok m u (by
   have := List.sizeOf_lt_of_mem hu
   simp at h; omega)
mutual
def lenN : Tr → Prop
 | .mk d n us => n.length ≤ 1099511627776 ∧ us.length ≤ 9223372036854775807 ∧ lenNs us
def lenNs : List Tr → Prop
 | [] => True
 | t :: ts => lenN t ∧ lenNs ts
end
theorem lenNs_mem : ∀ {l : List Tr}, lenNs l → ∀ {u : Tr}, u ∈ l → lenN u
 | t :: ts, h, u, hu => by
  simp only [lenNs] at h
  rcases List.mem_cons.1 hu with rfl | hu
  ·exact h.1
  ·exact lenNs_mem h.2 hu
mutual
theorem lenN_len : ∀ t, lenN t → lenT t
 | .mk d n us, h => by
  simp only [lenN] at h
  simp only [lenT]
  exact ⟨by omega, h.2.1, lenNs_len us h.2.2⟩
theorem lenNs_len : ∀ l, lenNs l → lenTs l
 | [], _ => trivial
 | t :: ts, h => by
  simp only [lenNs] at h
  exact ⟨lenN_len t h.1, lenNs_len ts h.2⟩
end
mutual
theorem bulk_lenN : ∀ t, bulkT t ≤ 1048576 → lenN t
 | .mk d n us, h => by
  have h1 := bulk_len _ h
  simp only [lenT] at h1
  simp only [bulkT] at h
  simp only [lenN]
  exact ⟨by omega, h1.2.1, bulk_lenNs us (by omega)⟩
theorem bulk_lenNs : ∀ l, bulkTs l ≤ 1048576 → lenNs l
 | [], _ => trivial
 | t :: ts, h => by
  simp only [bulkTs] at h
  exact ⟨bulk_lenN t (by omega), bulk_lenNs ts (by omega)⟩
end
def WT (t : Tr) : Prop := ∀ σ : List Ent, lenN t → ACalls E 77 [tyV t] σ fun r τ => r = boolV (typeB conB t) ∧ τ = σ
set_option maxHeartbeats 4000000 in
theorem wellType_step (d n : List UInt8) (us : List Tr) (ih : ∀ u ∈ us, WT u) : WT (.mk d n us) := by
 intro σ hb
 have hl := lenN_len _ hb
 simp only [lenN] at hb
 have hcn := fun σ' => IsConT_ok n (by omega) σ'
 have hva := fun σ' => IsVarR_ok n σ'
 simp only [lenT] at hl
 refine xacalls T0 .drop [] Tryz.func77 rfl (by kernel_rfl) (by kernel_rfl) (by simp [Tryz.ntmps77]) ?_
 (simp only [tyV, tysV_len, (vmA), Nat.reduceEqDiff, reduceIte, Nat.reduceAdd, Int.reduceToNat, Int.reduceLE, Int.reduceLT, Int.reduceEq, Int.reduceNe, Int.reduceAdd, Int.reduceSub, Int.reduceNeg, Nat.reduceLT, Nat.reduceLeDiff, Nat.reduceBEq, undef, (stA), Nat.reduceMul]; try simp (disch := omega) only [(vmp)])
 refine xCond.cut (.seq (.block (.cut (fun ts g l => tget ts 1 = .ref σ.length 0 0 ∧ tget ts 3 = i64 (partsI d) ∧ g = σ ∧ l = [.arr 24 [.str d, .str n, .sl (tysV us)] 0 0] ∧ ¬ d = kiData ∧ ¬ d = kiVar) ?_))) ?_
 ·rintro ts g l ⟨h1, h3, rfl, rfl, m4, m5⟩
  have hty : typeB conB (.mk d n us) = (decide (n = []) && (decide (partsI d = us.length) && typeBs conB us)) := by
   simp only [typeB, m4, m5, decide_false, Bool.not_false, Bool.true_or, Bool.true_and, Bool.false_or]
  rw [hty]
  (simp only [h1, h3, tysV_len, (vmA), Nat.reduceEqDiff, reduceIte, Nat.reduceAdd, Int.reduceToNat, Int.reduceLE, Int.reduceLT, Int.reduceEq, Int.reduceNe, Int.reduceAdd, Int.reduceSub, Int.reduceNeg, Nat.reduceLT, Nat.reduceLeDiff, Nat.reduceBEq, undef, (stA), Nat.reduceMul]; try simp (disch := omega) only [(vmp)])
  refine xloop (α := Nat × List Ent) T0 (fun x => [(1, .ref g.length 0 0), (3, i64 (partsI d)), (42, .sl (tysV us)), (43, i64 us.length), (44, i64 x.1)]) (fun _ => g)
   (fun x => .arr 24 [.str d, .str n, .sl (tysV us)] 0 0 :: x.2) (fun x => x.1 ≤ us.length ∧ typeBs conB (us.take x.1) = true) (fun x => us.length - x.1) (by kernel_rfl)
   ⟨(0, []), ⟨by simp, rfl⟩, by (simp only [h1, h3, (vmA), Nat.reduceEqDiff, reduceIte, Nat.reduceAdd, Int.reduceToNat, Int.reduceLE, Int.reduceLT, Int.reduceEq, Int.reduceNe, Int.reduceAdd, Int.reduceSub, Int.reduceNeg, Nat.reduceLT, Nat.reduceLeDiff, Nat.reduceBEq, undef, (stA), Nat.reduceMul, Int.natCast_zero]; try simp (disch := omega) only [(vmp)]), rfl, rfl⟩ ?_
  rintro ⟨i, junk⟩ ⟨hi, hall⟩
  simp only at hi hall
  by_cases h : (i : Int) < us.length
  ·have hi' : i < us.length := by omega
   have hu : us[i]? = some us[i] := List.getElem?_eq_getElem hi'
   have hmem : us[i] ∈ us := List.getElem_mem hi'
   obtain ⟨s1, s2⟩ := take_split us i _ hu
   have hbm := lenNs_mem hb.2.2 hmem
   generalize us[i] = u at *
   have hg := tysV_get hu
   have hc := fun σ' => ih u hmem σ' hbm
   have hnext : typeBs conB (us.take (i + 1)) = typeB conB u := by
    rw [s1, typeBs_app, hall]; simp [typeBs]
   have hbad : typeB conB u = false → typeBs conB us = false := fun e => by
    rw [s2, typeBs_app]; simp only [typeBs, e, Bool.false_and, Bool.and_false]
   cases hq : typeB conB u
   ·rw [hbad hq]
    simp only [hq] at hc
    cases u with
    | mk d2 n2 us2 =>
    simp only [tyV] at hg hc
    (simp only [h, hg, tysV_len, (vmA), Nat.reduceEqDiff, reduceIte, Nat.reduceAdd, Int.reduceToNat, Int.reduceLE, Int.reduceLT, Int.reduceEq, Int.reduceNe, Int.reduceAdd, Int.reduceSub, Int.reduceNeg, Nat.reduceLT, Nat.reduceLeDiff, Nat.reduceBEq, undef, (stA), Nat.reduceMul]; try simp (disch := omega) only [(vmp)])
    refine xWait.go (hc _) ?_
    (simp only [(vmA), Nat.reduceEqDiff, reduceIte, Nat.reduceAdd, Int.reduceToNat, Int.reduceLE, Int.reduceLT, Int.reduceEq, Int.reduceNe, Int.reduceAdd, Int.reduceSub, Int.reduceNeg, Nat.reduceLT, Nat.reduceLeDiff, Nat.reduceBEq, undef, (stA), Nat.reduceMul]; try simp (disch := omega) only [(vmp)])
   ·rw [hq] at hnext
    simp only [hq] at hc
    cases u with
    | mk d2 n2 us2 =>
    simp only [tyV] at hg hc
    (simp only [h, hg, tysV_len, (vmA), Nat.reduceEqDiff, reduceIte, Nat.reduceAdd, Int.reduceToNat, Int.reduceLE, Int.reduceLT, Int.reduceEq, Int.reduceNe, Int.reduceAdd, Int.reduceSub, Int.reduceNeg, Nat.reduceLT, Nat.reduceLeDiff, Nat.reduceBEq, undef, (stA), Nat.reduceMul]; try simp (disch := omega) only [(vmp)])
    refine xWait.go (hc _) ?_
    (simp only [(vmA), Nat.reduceEqDiff, reduceIte, Nat.reduceAdd, Int.reduceToNat, Int.reduceLE, Int.reduceLT, Int.reduceEq, Int.reduceNe, Int.reduceAdd, Int.reduceSub, Int.reduceNeg, Nat.reduceLT, Nat.reduceLeDiff, Nat.reduceBEq, undef, (stA), Nat.reduceMul]; try simp (disch := omega) only [(vmp)])
    exact ⟨(i + 1, junk ++ [.arr 24 [.str d2, .str n2, .sl (tysV us2)] 0 0]), ⟨by simp only; omega, hnext⟩, by simp only; omega, rfl, rfl⟩
  ·have hie : i = us.length := by omega
   subst hie
   rw [List.take_of_length_le (Nat.le_refl _)] at hall
   rw [hall]
   have hsym : ((us.length : Int) = partsI d) = (partsI d = us.length) := propext eq_comm
   by_cases hn : n = []
   ·(simp only [h, hn, hsym, tysV_len, (vmA), Nat.reduceEqDiff, reduceIte, Nat.reduceAdd, Int.reduceToNat, Int.reduceLE, Int.reduceLT, Int.reduceEq, Int.reduceNe, Int.reduceAdd, Int.reduceSub, Int.reduceNeg, Nat.reduceLT, Nat.reduceLeDiff, Nat.reduceBEq, undef, (stA), Nat.reduceMul]; try simp (disch := omega) only [(vmp)])
    try simp only [Bool.and_true]
   ·(simp only [h, hn, (vmA), Nat.reduceEqDiff, reduceIte, Nat.reduceAdd, Int.reduceToNat, Int.reduceLE, Int.reduceLT, Int.reduceEq, Int.reduceNe, Int.reduceAdd, Int.reduceSub, Int.reduceNeg, Nat.reduceLT, Nat.reduceLeDiff, Nat.reduceBEq, undef, (stA), Nat.reduceMul]; try simp (disch := omega) only [(vmp)])
 ·have fin : ∀ k : List UInt8, d = k → ¬ k = kiData → ¬ k = kiVar → ¬ d = [100, 97, 116, 97] ∧ ¬ d = [118, 97, 114] := fun k e h1 h2 => ⟨e ▸ h1, e ▸ h2⟩
  by_cases h0 : d = kiInt
  ·have t0 : (d = [105, 110, 116]) = True := eq_true h0
   have hp : partsI d = 0 := by rw [h0]; decide
   obtain ⟨m4, m5⟩ := fin _ h0 (by decide) (by decide)
   (simp only [t0, hp, m4, m5, (vmA), Nat.reduceEqDiff, reduceIte, Nat.reduceAdd, Int.reduceToNat, Int.reduceLE, Int.reduceLT, Int.reduceEq, Int.reduceNe, Int.reduceAdd, Int.reduceSub, Int.reduceNeg, Nat.reduceLT, Nat.reduceLeDiff, Nat.reduceBEq, undef, (stA), Nat.reduceMul]; try simp (disch := omega) only [(vmp)])
   try exact not_false
  have n0 : ¬ d = [105, 110, 116] := h0
  by_cases h1 : d = kiBool
  ·have t1 : (d = [98, 111, 111, 108]) = True := eq_true h1
   have hp : partsI d = 0 := by rw [h1]; decide
   obtain ⟨m4, m5⟩ := fin _ h1 (by decide) (by decide)
   (simp only [n0, t1, hp, m4, m5, (vmA), Nat.reduceEqDiff, reduceIte, Nat.reduceAdd, Int.reduceToNat, Int.reduceLE, Int.reduceLT, Int.reduceEq, Int.reduceNe, Int.reduceAdd, Int.reduceSub, Int.reduceNeg, Nat.reduceLT, Nat.reduceLeDiff, Nat.reduceBEq, undef, (stA), Nat.reduceMul]; try simp (disch := omega) only [(vmp)])
   try exact not_false
  have n1 : ¬ d = [98, 111, 111, 108] := h1
  by_cases h2 : d = kiUnit
  ·have t2 : (d = [117, 110, 105, 116]) = True := eq_true h2
   have hp : partsI d = 0 := by rw [h2]; decide
   obtain ⟨m4, m5⟩ := fin _ h2 (by decide) (by decide)
   (simp only [n0, n1, t2, hp, m4, m5, (vmA), Nat.reduceEqDiff, reduceIte, Nat.reduceAdd, Int.reduceToNat, Int.reduceLE, Int.reduceLT, Int.reduceEq, Int.reduceNe, Int.reduceAdd, Int.reduceSub, Int.reduceNeg, Nat.reduceLT, Nat.reduceLeDiff, Nat.reduceBEq, undef, (stA), Nat.reduceMul]; try simp (disch := omega) only [(vmp)])
   try exact not_false
  have n2 : ¬ d = [117, 110, 105, 116] := h2
  by_cases h3 : d = kiText
  ·have t3 : (d = [116, 101, 120, 116]) = True := eq_true h3
   have hp : partsI d = 0 := by rw [h3]; decide
   obtain ⟨m4, m5⟩ := fin _ h3 (by decide) (by decide)
   (simp only [n0, n1, n2, t3, hp, m4, m5, (vmA), Nat.reduceEqDiff, reduceIte, Nat.reduceAdd, Int.reduceToNat, Int.reduceLE, Int.reduceLT, Int.reduceEq, Int.reduceNe, Int.reduceAdd, Int.reduceSub, Int.reduceNeg, Nat.reduceLT, Nat.reduceLeDiff, Nat.reduceBEq, undef, (stA), Nat.reduceMul]; try simp (disch := omega) only [(vmp)])
   try exact not_false
  have n3 : ¬ d = [116, 101, 120, 116] := h3
  by_cases h4 : d = kiPair
  ·have t4 : (d = [112, 97, 105, 114]) = True := eq_true h4
   have hp : partsI d = 2 := by rw [h4]; decide
   obtain ⟨m4, m5⟩ := fin _ h4 (by decide) (by decide)
   (simp only [n0, n1, n2, n3, t4, hp, m4, m5, (vmA), Nat.reduceEqDiff, reduceIte, Nat.reduceAdd, Int.reduceToNat, Int.reduceLE, Int.reduceLT, Int.reduceEq, Int.reduceNe, Int.reduceAdd, Int.reduceSub, Int.reduceNeg, Nat.reduceLT, Nat.reduceLeDiff, Nat.reduceBEq, undef, (stA), Nat.reduceMul]; try simp (disch := omega) only [(vmp)])
   try exact not_false
  have n4 : ¬ d = [112, 97, 105, 114] := h4
  by_cases h5 : d = kiFn
  ·have t5 : (d = [102, 110]) = True := eq_true h5
   have hp : partsI d = 2 := by rw [h5]; decide
   obtain ⟨m4, m5⟩ := fin _ h5 (by decide) (by decide)
   (simp only [n0, n1, n2, n3, n4, t5, hp, m4, m5, (vmA), Nat.reduceEqDiff, reduceIte, Nat.reduceAdd, Int.reduceToNat, Int.reduceLE, Int.reduceLT, Int.reduceEq, Int.reduceNe, Int.reduceAdd, Int.reduceSub, Int.reduceNeg, Nat.reduceLT, Nat.reduceLeDiff, Nat.reduceBEq, undef, (stA), Nat.reduceMul]; try simp (disch := omega) only [(vmp)])
   try exact not_false
  have n5 : ¬ d = [102, 110] := h5
  by_cases h6 : d = kiList
  ·have t6 : (d = [108, 105, 115, 116]) = True := eq_true h6
   have hp : partsI d = 1 := by rw [h6]; decide
   obtain ⟨m4, m5⟩ := fin _ h6 (by decide) (by decide)
   (simp only [n0, n1, n2, n3, n4, n5, t6, hp, m4, m5, (vmA), Nat.reduceEqDiff, reduceIte, Nat.reduceAdd, Int.reduceToNat, Int.reduceLE, Int.reduceLT, Int.reduceEq, Int.reduceNe, Int.reduceAdd, Int.reduceSub, Int.reduceNeg, Nat.reduceLT, Nat.reduceLeDiff, Nat.reduceBEq, undef, (stA), Nat.reduceMul]; try simp (disch := omega) only [(vmp)])
   try exact not_false
  have n6 : ¬ d = [108, 105, 115, 116] := h6
  by_cases h7 : d = kiArray
  ·have t7 : (d = [97, 114, 114, 97, 121]) = True := eq_true h7
   have hp : partsI d = 1 := by rw [h7]; decide
   obtain ⟨m4, m5⟩ := fin _ h7 (by decide) (by decide)
   (simp only [n0, n1, n2, n3, n4, n5, n6, t7, hp, m4, m5, (vmA), Nat.reduceEqDiff, reduceIte, Nat.reduceAdd, Int.reduceToNat, Int.reduceLE, Int.reduceLT, Int.reduceEq, Int.reduceNe, Int.reduceAdd, Int.reduceSub, Int.reduceNeg, Nat.reduceLT, Nat.reduceLeDiff, Nat.reduceBEq, undef, (stA), Nat.reduceMul]; try simp (disch := omega) only [(vmp)])
   try exact not_false
  have n7 : ¬ d = [97, 114, 114, 97, 121] := h7
  by_cases h8 : d = kiData
  ·have t8 : (d = [100, 97, 116, 97]) = True := eq_true h8
   have hty : typeB conB (.mk d n us) = (conB n && decide (us.length = 0)) := by
    have m5 : ¬ d = kiVar := by rw [h8]; decide
    have hp : partsI kiData = 0 := by decide
    simp only [typeB, h8, m5, hp, decide_true, decide_false, Bool.not_true, Bool.not_false, Bool.false_or, Bool.true_or, Bool.true_and]
    cases us with
    | nil => simp [typeBs]
    | cons a r =>
     have e : ¬ (0 : Int) = ((a :: r).length : Int) := by simp only [List.length_cons]; omega
     simp only [e, decide_false, Bool.false_and]
     simp
   rw [hty]
   (simp only [n0, n1, n2, n3, n4, n5, n6, n7, t8, (vmA), Nat.reduceEqDiff, reduceIte, Nat.reduceAdd, Int.reduceToNat, Int.reduceLE, Int.reduceLT, Int.reduceEq, Int.reduceNe, Int.reduceAdd, Int.reduceSub, Int.reduceNeg, Nat.reduceLT, Nat.reduceLeDiff, Nat.reduceBEq, undef, (stA), Nat.reduceMul]; try simp (disch := omega) only [(vmp)])
   refine xWait.go (hcn _) ?_
   cases hcv : conB n
   ·(simp only [(vmA), Nat.reduceEqDiff, reduceIte, Nat.reduceAdd, Int.reduceToNat, Int.reduceLE, Int.reduceLT, Int.reduceEq, Int.reduceNe, Int.reduceAdd, Int.reduceSub, Int.reduceNeg, Nat.reduceLT, Nat.reduceLeDiff, Nat.reduceBEq, undef, (stA), Nat.reduceMul]; try simp (disch := omega) only [(vmp)])
   ·(simp only [tysV_len, (vmA), Nat.reduceEqDiff, reduceIte, Nat.reduceAdd, Int.reduceToNat, Int.reduceLE, Int.reduceLT, Int.reduceEq, Int.reduceNe, Int.reduceAdd, Int.reduceSub, Int.reduceNeg, Nat.reduceLT, Nat.reduceLeDiff, Nat.reduceBEq, undef, (stA), Nat.reduceMul]; try simp (disch := omega) only [(vmp)])
    have : ((us.length : Int) = 0) = (us.length = 0) := propext (by omega)
    simp only [this, Bool.true_and]
  have n8 : ¬ d = [100, 97, 116, 97] := h8
  by_cases h9 : d = kiVar
  ·have t9 : (d = [118, 97, 114]) = True := eq_true h9
   have hty : typeB conB (.mk d n us) = (varB n && decide (us.length = 0)) := by
    have m4 : ¬ d = kiData := by rw [h9]; decide
    have hp : partsI kiVar = 0 := by decide
    simp only [typeB, h9, m4, hp, decide_true, decide_false, Bool.not_true, Bool.not_false, Bool.false_or, Bool.true_or, Bool.or_true, Bool.true_and]
    cases us with
    | nil => simp [typeBs]
    | cons a r =>
     have e : ¬ (0 : Int) = ((a :: r).length : Int) := by simp only [List.length_cons]; omega
     simp only [e, decide_false, Bool.false_and]
     simp
   rw [hty]
   (simp only [n0, n1, n2, n3, n4, n5, n6, n7, n8, t9, (vmA), Nat.reduceEqDiff, reduceIte, Nat.reduceAdd, Int.reduceToNat, Int.reduceLE, Int.reduceLT, Int.reduceEq, Int.reduceNe, Int.reduceAdd, Int.reduceSub, Int.reduceNeg, Nat.reduceLT, Nat.reduceLeDiff, Nat.reduceBEq, undef, (stA), Nat.reduceMul]; try simp (disch := omega) only [(vmp)])
   refine xWait.go (hva _) ?_
   cases hcv : varB n
   ·(simp only [(vmA), Nat.reduceEqDiff, reduceIte, Nat.reduceAdd, Int.reduceToNat, Int.reduceLE, Int.reduceLT, Int.reduceEq, Int.reduceNe, Int.reduceAdd, Int.reduceSub, Int.reduceNeg, Nat.reduceLT, Nat.reduceLeDiff, Nat.reduceBEq, undef, (stA), Nat.reduceMul]; try simp (disch := omega) only [(vmp)])
   ·(simp only [tysV_len, (vmA), Nat.reduceEqDiff, reduceIte, Nat.reduceAdd, Int.reduceToNat, Int.reduceLE, Int.reduceLT, Int.reduceEq, Int.reduceNe, Int.reduceAdd, Int.reduceSub, Int.reduceNeg, Nat.reduceLT, Nat.reduceLeDiff, Nat.reduceBEq, undef, (stA), Nat.reduceMul]; try simp (disch := omega) only [(vmp)])
    have : ((us.length : Int) = 0) = (us.length = 0) := propext (by omega)
    simp only [this, Bool.true_and]
  have n9 : ¬ d = [118, 97, 114] := h9
  have hty : typeB conB (.mk d n us) = false := by
   have hp : partsI d = -1 := by unfold partsI; simp only [h0, h1, h2, h3, h4, h5, h6, h7, h8, h9, or_self, if_false]
   have : ¬ (-1 : Int) = us.length := by omega
   simp only [typeB, hp, this, decide_false, Bool.false_and, Bool.and_false]
  rw [hty]
  (simp only [n0, n1, n2, n3, n4, n5, n6, n7, n8, n9, (vmA), Nat.reduceEqDiff, reduceIte, Nat.reduceAdd, Int.reduceToNat, Int.reduceLE, Int.reduceLT, Int.reduceEq, Int.reduceNe, Int.reduceAdd, Int.reduceSub, Int.reduceNeg, Nat.reduceLT, Nat.reduceLeDiff, Nat.reduceBEq, undef, (stA), Nat.reduceMul]; try simp (disch := omega) only [(vmp)])
theorem wellType_ok : ∀ (m : Nat) (t : Tr), SizeOf.sizeOf t ≤ m → WT t
 | 0, .mk d n us, h => by simp at h
 | m + 1, .mk d n us, h => wellType_step d n us fun u hu => wellType_ok m u (by
   have := List.sizeOf_lt_of_mem hu
   simp at h; omega)
theorem ValidTypeN_ok (t : Tr) (hb : lenN t) (σ : List Ent) : ACalls E 42 [tyV t] σ fun r τ => r = boolV (validT conB t) ∧ τ = σ := by
 have h1 := fun σ' => wellType_ok _ t (Nat.le_refl _) σ' hb
 have h2 := fun σ' => sizeType_ok _ t (Nat.le_refl _) σ' (lenN_len t hb)
 have h3 := fun σ' => smallT_ok (ofT t).1 (ofT t).2 σ'
 refine xacalls T0 .drop [] Tryz.func42 rfl (by kernel_rfl) (by kernel_rfl) (by simp [Tryz.ntmps42]) ?_
 unfold validT
 generalize ofT t = sz at *
 generalize typeB conB t = tb at *
 rcases sz with ⟨x, y⟩
 cases t with
 | mk d n us =>
 simp only [tyV] at h1 h2
 simp only at h3
 (simp only [tyV, (vmA), Nat.reduceEqDiff, reduceIte, Nat.reduceAdd, Int.reduceToNat, Int.reduceLE, Int.reduceLT, Int.reduceEq, Int.reduceNe, Int.reduceAdd, Int.reduceSub, Int.reduceNeg, Nat.reduceLT, Nat.reduceLeDiff, Nat.reduceBEq, undef, (stA), Nat.reduceMul]; try simp (disch := omega) only [(vmp)])
 refine xWait.go (h1 _) ?_
 cases tb
 ·(simp only [(vmA), Nat.reduceEqDiff, reduceIte, Nat.reduceAdd, Int.reduceToNat, Int.reduceLE, Int.reduceLT, Int.reduceEq, Int.reduceNe, Int.reduceAdd, Int.reduceSub, Int.reduceNeg, Nat.reduceLT, Nat.reduceLeDiff, Nat.reduceBEq, undef, (stA), Nat.reduceMul]; try simp (disch := omega) only [(vmp)])
  try rfl
 ·(simp only [(vmA), Nat.reduceEqDiff, reduceIte, Nat.reduceAdd, Int.reduceToNat, Int.reduceLE, Int.reduceLT, Int.reduceEq, Int.reduceNe, Int.reduceAdd, Int.reduceSub, Int.reduceNeg, Nat.reduceLT, Nat.reduceLeDiff, Nat.reduceBEq, undef, (stA), Nat.reduceMul]; try simp (disch := omega) only [(vmp)])
  refine xWait.go (h2 _) ?_
  (simp only [(vmA), Nat.reduceEqDiff, reduceIte, Nat.reduceAdd, Int.reduceToNat, Int.reduceLE, Int.reduceLT, Int.reduceEq, Int.reduceNe, Int.reduceAdd, Int.reduceSub, Int.reduceNeg, Nat.reduceLT, Nat.reduceLeDiff, Nat.reduceBEq, undef, (stA), Nat.reduceMul]; try simp (disch := omega) only [(vmp)])
  refine xWait.go (h3 _) ?_
  (simp only [Bool.true_and, (vmA), Nat.reduceEqDiff, reduceIte, Nat.reduceAdd, Int.reduceToNat, Int.reduceLE, Int.reduceLT, Int.reduceEq, Int.reduceNe, Int.reduceAdd, Int.reduceSub, Int.reduceNeg, Nat.reduceLT, Nat.reduceLeDiff, Nat.reduceBEq, undef, (stA), Nat.reduceMul]; try simp (disch := omega) only [(vmp)])
  try rfl
end Go.D
namespace Go.D
open Go Go.Vm Go.Proofs Go.RowKit
end Go.D
