/- The document's token that stands at a place. -/
import Derived.Test.YtoobkfjkohadnaaGreatDoorFnD
import Derived.Test.YtoobkfjkohadnaaGreatDoorFnC
import Derived.Test.YtoobkfjkohadnaaGreatDoorFnB
set_option linter.unusedVariables false
set_option linter.unusedSimpArgs false
set_option maxRecDepth 100000
namespace Go.D
open Go Go.Vm Go.Proofs Go.RowKit

set_option maxHeartbeats 4000000 in
theorem oneR_ok (l : List UInt8) (i : Nat) (hl : l.length ≤ 1099511627776) (hi : i < l.length) (σ : List Ent) : ACalls E 154 [.str l, i64 i] σ fun r τ =>
    (∃ (k t : List UInt8) (n p : Nat), r = .tup [tokA k t p, i64 n] ∧ (0 < n → p = i ∧ one (l.drop i) = some (k, t, n)) ∧ (n = 0 → one (l.drop i) = none)) ∧ τ = σ := by
  refine xacalls T0 .drop [] Tryz.func154 rfl (by kernel_rfl) (by kernel_rfl) (by simp [Tryz.ntmps154]) ?_
  have hg : ∀ j, (l.drop i).getD j 0 = l.getD (i + j) 0 := fun j => by simp [List.getD]
  have hdl : (l.drop i).length = l.length - i := List.length_drop
  have h10 : one (l.drop i) = oneR (l.drop i) := one_eq _
  have hlong := long_le _ true (l.drop i) (Nat.le_refl _)
  unfold oneR at h10
  rw [hg, hg, Nat.add_zero, hdl] at h10
  have hi' : (i : Int) < l.length := by omega
  (simp only [hi', (vmA), Nat.reduceEqDiff, reduceIte, Nat.reduceAdd, Int.reduceToNat, Int.reduceLE, Int.reduceLT, Int.reduceEq, Int.reduceNe, Int.reduceAdd, Int.reduceSub, Int.reduceNeg, Nat.reduceLT, Nat.reduceLeDiff, Nat.reduceBEq, undef, (stA), Nat.reduceMul]; try simp (disch := omega) only [(vmp)])
  refine xWait.go (small_ok _ _) ?_
  refine xOps.cut (.cut (fun ts g l' => Sub ts [(0, .str l), (1, i64 i), (4, .ref σ.length 0 0), (6, u8 (l.getD i 0).toNat), (20, boolV (letter (l.getD i 0)))] ∧ g = σ ∧ l' = [.arr 140 [.str [], .str [], i64 0] 0 0]) ?_) ?_
  · rintro ts g l' ⟨hsub, rfl, rfl⟩
    simp only [sub_cons, sub_nil, and_true] at hsub
    obtain ⟨h0, h1, h4, h6, h20⟩ := hsub
    cases hlet : letter (l.getD i 0)
    · rw [hlet] at h10 h20
      simp only [Bool.false_eq_true, if_false] at h10
      (simp only [h0, h1, h4, h6, h20, (vmA), Nat.reduceEqDiff, reduceIte, Nat.reduceAdd, Int.reduceToNat, Int.reduceLE, Int.reduceLT, Int.reduceEq, Int.reduceNe, Int.reduceAdd, Int.reduceSub, Int.reduceNeg, Nat.reduceLT, Nat.reduceLeDiff, Nat.reduceBEq, undef, (stA), Nat.reduceMul]; try simp (disch := omega) only [(vmp)])
      by_cases q1 : ((l.getD i 0).toNat : Int) = 34
      · have q1' : l.getD i 0 = 34 := (u8_eq _ 34 (by omega)).1 q1
        rw [if_pos q1', List.drop_drop] at h10
        (simp only [h0, h1, h4, h6, q1, (vmA), Nat.reduceEqDiff, reduceIte, Nat.reduceAdd, Int.reduceToNat, Int.reduceLE, Int.reduceLT, Int.reduceEq, Int.reduceNe, Int.reduceAdd, Int.reduceSub, Int.reduceNeg, Nat.reduceLT, Nat.reduceLeDiff, Nat.reduceBEq, undef, (stA), Nat.reduceMul]; try simp (disch := omega) only [(vmp)])
        refine xWait.go (quotedR_ok l i hl hi q1' _) ?_
        cases hq : qS (l.drop (i + 1)) with
        | none =>
          rw [hq] at h10
          (simp only [h0, h1, h4, h6, (vmA), Nat.reduceEqDiff, reduceIte, Nat.reduceAdd, Int.reduceToNat, Int.reduceLE, Int.reduceLT, Int.reduceEq, Int.reduceNe, Int.reduceAdd, Int.reduceSub, Int.reduceNeg, Nat.reduceLT, Nat.reduceLeDiff, Nat.reduceBEq, undef, (stA), Nat.reduceMul]; try simp (disch := omega) only [(vmp)])
          trace_state
          exact ⟨_, _, 0, i, rfl, fun e => absurd e (by omega), fun _ => h10⟩
        | some x =>
          obtain ⟨n, t⟩ := x
          rw [hq] at h10
          simp only at h10
          (simp only [h0, h1, h4, h6, (vmA), Nat.reduceEqDiff, reduceIte, Nat.reduceAdd, Int.reduceToNat, Int.reduceLE, Int.reduceLT, Int.reduceEq, Int.reduceNe, Int.reduceAdd, Int.reduceSub, Int.reduceNeg, Nat.reduceLT, Nat.reduceLeDiff, Nat.reduceBEq, undef, (stA), Nat.reduceMul]; try simp (disch := omega) only [(vmp)])
          by_cases q2 : (200 : Int) < t.length
          · rw [if_neg (by omega)] at h10
            (simp only [h0, h1, h4, h6, q2, (vmA), Nat.reduceEqDiff, reduceIte, Nat.reduceAdd, Int.reduceToNat, Int.reduceLE, Int.reduceLT, Int.reduceEq, Int.reduceNe, Int.reduceAdd, Int.reduceSub, Int.reduceNeg, Nat.reduceLT, Nat.reduceLeDiff, Nat.reduceBEq, undef, (stA), Nat.reduceMul]; try simp (disch := omega) only [(vmp)])
            exact ⟨_, _, 0, i, rfl, fun e => absurd e (by omega), fun _ => h10⟩
          · rw [if_pos (by omega)] at h10
            (simp only [h0, h1, h4, h6, q2, (vmA), Nat.reduceEqDiff, reduceIte, Nat.reduceAdd, Int.reduceToNat, Int.reduceLE, Int.reduceLT, Int.reduceEq, Int.reduceNe, Int.reduceAdd, Int.reduceSub, Int.reduceNeg, Nat.reduceLT, Nat.reduceLeDiff, Nat.reduceBEq, undef, (stA), Nat.reduceMul]; try simp (disch := omega) only [(vmp)])
            exact ⟨_, _, n + 1, i, rfl, fun _ => ⟨rfl, h10⟩, fun e => absurd e (by omega)⟩
      · have q1' : ¬ l.getD i 0 = 34 := fun e => q1 ((u8_eq _ 34 (by omega)).2 e)
        rw [if_neg q1'] at h10
        (simp only [h0, h1, h4, h6, q1, (vmA), Nat.reduceEqDiff, reduceIte, Nat.reduceAdd, Int.reduceToNat, Int.reduceLE, Int.reduceLT, Int.reduceEq, Int.reduceNe, Int.reduceAdd, Int.reduceSub, Int.reduceNeg, Nat.reduceLT, Nat.reduceLeDiff, Nat.reduceBEq, undef, (stA), Nat.reduceMul]; try simp (disch := omega) only [(vmp)])
        by_cases q2 : ((l.getD i 0).toNat : Int) = 39
        · have q2' : l.getD i 0 = 39 := (u8_eq _ 39 (by omega)).1 q2
          rw [if_pos q2'] at h10
          (simp only [h0, h1, h4, h6, q2, (vmA), Nat.reduceEqDiff, reduceIte, Nat.reduceAdd, Int.reduceToNat, Int.reduceLE, Int.reduceLT, Int.reduceEq, Int.reduceNe, Int.reduceAdd, Int.reduceSub, Int.reduceNeg, Nat.reduceLT, Nat.reduceLeDiff, Nat.reduceBEq, undef, (stA), Nat.reduceMul]; try simp (disch := omega) only [(vmp)])
          by_cases q3 : ((i + 1 : Nat) : Int) < l.length
          · (simp only [h0, h1, h4, h6, q3, (vmA), Nat.reduceEqDiff, reduceIte, Nat.reduceAdd, Int.reduceToNat, Int.reduceLE, Int.reduceLT, Int.reduceEq, Int.reduceNe, Int.reduceAdd, Int.reduceSub, Int.reduceNeg, Nat.reduceLT, Nat.reduceLeDiff, Nat.reduceBEq, undef, (stA), Nat.reduceMul]; try simp (disch := omega) only [(vmp)])
            refine ⟨by omega, ?_⟩
            refine xWait.go (small_ok _ _) ?_
            cases q4 : btw 97 (l.getD (i + 1) 0).toNat 122
            · rw [if_neg (by rw [q4]; simp)] at h10
              (simp only [h0, h1, h4, h6, (vmA), Nat.reduceEqDiff, reduceIte, Nat.reduceAdd, Int.reduceToNat, Int.reduceLE, Int.reduceLT, Int.reduceEq, Int.reduceNe, Int.reduceAdd, Int.reduceSub, Int.reduceNeg, Nat.reduceLT, Nat.reduceLeDiff, Nat.reduceBEq, undef, (stA), Nat.reduceMul]; try simp (disch := omega) only [(vmp)])
              exact ⟨_, _, 0, 0, rfl, fun e => absurd e (by omega), fun _ => h10⟩
            · rw [if_pos ⟨by omega, q4⟩] at h10
              (simp only [h0, h1, h4, h6, (vmA), Nat.reduceEqDiff, reduceIte, Nat.reduceAdd, Int.reduceToNat, Int.reduceLE, Int.reduceLT, Int.reduceEq, Int.reduceNe, Int.reduceAdd, Int.reduceSub, Int.reduceNeg, Nat.reduceLT, Nat.reduceLeDiff, Nat.reduceBEq, undef, (stA), Nat.reduceMul]; try simp (disch := omega) only [(vmp)])
              refine ⟨by omega, ?_⟩
              exact ⟨_, _, 2, i, rfl, fun _ => ⟨rfl, h10⟩, fun e => absurd e (by omega)⟩
          · rw [if_neg (by omega)] at h10
            (simp only [h0, h1, h4, h6, q3, (vmA), Nat.reduceEqDiff, reduceIte, Nat.reduceAdd, Int.reduceToNat, Int.reduceLE, Int.reduceLT, Int.reduceEq, Int.reduceNe, Int.reduceAdd, Int.reduceSub, Int.reduceNeg, Nat.reduceLT, Nat.reduceLeDiff, Nat.reduceBEq, undef, (stA), Nat.reduceMul]; try simp (disch := omega) only [(vmp)])
            exact ⟨_, _, 0, 0, rfl, fun e => absurd e (by omega), fun _ => h10⟩
        · have q2' : ¬ l.getD i 0 = 39 := fun e => q2 ((u8_eq _ 39 (by omega)).2 e)
          rw [if_neg q2'] at h10
          (simp only [h0, h1, h4, h6, q2, (vmA), Nat.reduceEqDiff, reduceIte, Nat.reduceAdd, Int.reduceToNat, Int.reduceLE, Int.reduceLT, Int.reduceEq, Int.reduceNe, Int.reduceAdd, Int.reduceSub, Int.reduceNeg, Nat.reduceLT, Nat.reduceLeDiff, Nat.reduceBEq, undef, (stA), Nat.reduceMul]; try simp (disch := omega) only [(vmp)])
          refine xWait.go (numberR_ok l i hl hi _) ?_
          have hdle := (digits_take (l.drop i)).2
          (simp only [h0, h1, h4, h6, (vmA), Nat.reduceEqDiff, reduceIte, Nat.reduceAdd, Int.reduceToNat, Int.reduceLE, Int.reduceLT, Int.reduceEq, Int.reduceNe, Int.reduceAdd, Int.reduceSub, Int.reduceNeg, Nat.reduceLT, Nat.reduceLeDiff, Nat.reduceBEq, undef, (stA), Nat.reduceMul]; try simp (disch := omega) only [(vmp)])
          by_cases q3 : (0 : Int) < digits (l.drop i)
          · rw [if_pos (by omega)] at h10
            (simp only [h0, h1, h4, h6, q3, (vmA), Nat.reduceEqDiff, reduceIte, Nat.reduceAdd, Int.reduceToNat, Int.reduceLE, Int.reduceLT, Int.reduceEq, Int.reduceNe, Int.reduceAdd, Int.reduceSub, Int.reduceNeg, Nat.reduceLT, Nat.reduceLeDiff, Nat.reduceBEq, undef, (stA), Nat.reduceMul]; try simp (disch := omega) only [(vmp)])
            refine ⟨by omega, ?_⟩
            refine xWait.go (fitsR_ok _ (by simp; omega) (by simp; omega) _) ?_
            cases q4 : fits ((l.drop i).take (digits (l.drop i)))
            · rw [q4] at h10
              (simp only [h0, h1, h4, h6, (vmA), Nat.reduceEqDiff, reduceIte, Nat.reduceAdd, Int.reduceToNat, Int.reduceLE, Int.reduceLT, Int.reduceEq, Int.reduceNe, Int.reduceAdd, Int.reduceSub, Int.reduceNeg, Nat.reduceLT, Nat.reduceLeDiff, Nat.reduceBEq, undef, (stA), Nat.reduceMul]; try simp (disch := omega) only [(vmp)])
              exact ⟨_, _, 0, 0, rfl, fun e => absurd e (by omega), fun _ => h10⟩
            · rw [q4] at h10
              (simp only [h0, h1, h4, h6, (vmA), Nat.reduceEqDiff, reduceIte, Nat.reduceAdd, Int.reduceToNat, Int.reduceLE, Int.reduceLT, Int.reduceEq, Int.reduceNe, Int.reduceAdd, Int.reduceSub, Int.reduceNeg, Nat.reduceLT, Nat.reduceLeDiff, Nat.reduceBEq, undef, (stA), Nat.reduceMul]; try simp (disch := omega) only [(vmp)])
              refine ⟨by omega, ?_⟩
              exact ⟨_, _, digits (l.drop i), i, rfl, fun _ => ⟨rfl, h10⟩, fun e => absurd e (by omega)⟩
          · rw [if_neg (by omega)] at h10
            (simp only [h0, h1, h4, h6, q3, (vmA), Nat.reduceEqDiff, reduceIte, Nat.reduceAdd, Int.reduceToNat, Int.reduceLE, Int.reduceLT, Int.reduceEq, Int.reduceNe, Int.reduceAdd, Int.reduceSub, Int.reduceNeg, Nat.reduceLT, Nat.reduceLeDiff, Nat.reduceBEq, undef, (stA), Nat.reduceMul]; try simp (disch := omega) only [(vmp)])
            refine xWait.go (signsR_ok l i hl hi _) ?_
            have hs := (sign_len (l.drop i)).2
            rw [hs.1, List.length_take] at hs
            (simp only [h0, h1, h4, h6, (vmA), Nat.reduceEqDiff, reduceIte, Nat.reduceAdd, Int.reduceToNat, Int.reduceLE, Int.reduceLT, Int.reduceEq, Int.reduceNe, Int.reduceAdd, Int.reduceSub, Int.reduceNeg, Nat.reduceLT, Nat.reduceLeDiff, Nat.reduceBEq, undef, (stA), Nat.reduceMul]; try simp (disch := omega) only [(vmp)])
            refine ⟨by omega, ?_⟩
            refine ⟨_, _, signsN (l.drop i), i, rfl, fun e => ⟨rfl, ?_⟩, fun e => ?_⟩
            · rw [h10, if_neg (by omega)]; rfl
            · rw [h10, if_pos e]
    · rw [hlet] at h10 h20
      simp only [if_true] at h10
      (simp only [h0, h1, h4, h6, h20, (vmA), Nat.reduceEqDiff, reduceIte, Nat.reduceAdd, Int.reduceToNat, Int.reduceLE, Int.reduceLT, Int.reduceEq, Int.reduceNe, Int.reduceAdd, Int.reduceSub, Int.reduceNeg, Nat.reduceLT, Nat.reduceLeDiff, Nat.reduceBEq, undef, (stA), Nat.reduceMul]; try simp (disch := omega) only [(vmp)])
      refine xWait.go (named_ok l i hl hi hlet _) ?_
      (simp only [h0, h1, h4, h6, (vmA), Nat.reduceEqDiff, reduceIte, Nat.reduceAdd, Int.reduceToNat, Int.reduceLE, Int.reduceLT, Int.reduceEq, Int.reduceNe, Int.reduceAdd, Int.reduceSub, Int.reduceNeg, Nat.reduceLT, Nat.reduceLeDiff, Nat.reduceBEq, undef, (stA), Nat.reduceMul]; try simp (disch := omega) only [(vmp)])
      refine ⟨by omega, ?_⟩
      refine ⟨_, _, (long true (l.drop i)).1, i, rfl, fun e => ⟨rfl, ?_⟩, fun e => ?_⟩
      · rw [h10, if_neg]
        intro hk
        have := long_none true _ hk
        rw [this] at e; simp at e
      · rw [h10, if_pos]
        by_cases hk : (long true (l.drop i)).2 = []
        · exact hk
        · have := hlong.2 hk; omega
  · unfold letter
    cases h1 : btw 97 (l.getD i 0).toNat 122
    · (simp only [(vmA), Nat.reduceEqDiff, reduceIte, Nat.reduceAdd, Int.reduceToNat, Int.reduceLE, Int.reduceLT, Int.reduceEq, Int.reduceNe, Int.reduceAdd, Int.reduceSub, Int.reduceNeg, Nat.reduceLT, Nat.reduceLeDiff, Nat.reduceBEq, undef, (stA), Nat.reduceMul]; try simp (disch := omega) only [(vmp)])
      refine xWait.go (great_ok _ _) ?_
      (simp only [(vmA), Nat.reduceEqDiff, reduceIte, Nat.reduceAdd, Int.reduceToNat, Int.reduceLE, Int.reduceLT, Int.reduceEq, Int.reduceNe, Int.reduceAdd, Int.reduceSub, Int.reduceNeg, Nat.reduceLT, Nat.reduceLeDiff, Nat.reduceBEq, undef, (stA), Nat.reduceMul]; try simp (disch := omega) only [(vmp)])
    · (simp only [(vmA), Nat.reduceEqDiff, reduceIte, Nat.reduceAdd, Int.reduceToNat, Int.reduceLE, Int.reduceLT, Int.reduceEq, Int.reduceNe, Int.reduceAdd, Int.reduceSub, Int.reduceNeg, Nat.reduceLT, Nat.reduceLeDiff, Nat.reduceBEq, undef, (stA), Nat.reduceMul]; try simp (disch := omega) only [(vmp)])
end Go.D

/- Which texts are cons, by the document. -/
set_option linter.unusedVariables false
set_option linter.unusedSimpArgs false
set_option maxRecDepth 100000
namespace Go.D
open Go Go.Vm Go.Proofs Go.RowKit

/-- Whether a text is a name, or a con, by its first token. -/
def nameB (k t : List UInt8) : Bool := decide ((long true t).1 = t.length) && decide ((long true t).2 = k)
theorem one_name (k t : List UInt8) (hk : k = kName ∨ k = kCon) : nameB k t = match one t with
    | some x => decide (x.2.2 = t.length) && decide (x.1 = k)
    | none => false := by
  have hne : ¬ (k = kInt ∨ k = kText ∨ k = kVar ∨ k = kSign ∨ k = []) := by rcases hk with rfl | rfl <;> decide
  unfold nameB one
  by_cases h : (long true t).2 = []
  · rw [if_neg (by simp [h])]
    have h1 : ¬ (long true t).2 = k := fun e => hne (by rw [← e, h]; simp)
    simp only [h1, decide_false, Bool.and_false]
    have key : ∀ o : Option (List UInt8 × List UInt8 × Nat), (∀ x, o = some x → x.1 ≠ k) → false = match o with
        | some x => decide (x.2.2 = t.length) && decide (x.1 = k)
        | none => false := by
      intro o ho
      cases o with
      | none => rfl
      | some x => have := ho x rfl; simp [this]
    apply key
    intro x hx
    by_cases a1 : 0 < digits t
    · rw [if_pos a1] at hx
      cases a2 : fits (t.take (digits t))
      · rw [a2] at hx; exact absurd hx (by simp)
      · rw [a2, if_pos rfl] at hx; rw [← Option.some.inj hx]; exact fun e => hne (.inl e.symm)
    rw [if_neg a1] at hx
    by_cases a2 : t.getD 0 0 = 34
    · rw [if_pos a2] at hx
      cases a3 : qS (t.drop 1) with
      | none => rw [a3] at hx; exact absurd hx (by simp)
      | some y =>
        rw [a3] at hx
        simp only at hx
        by_cases a4 : y.2.length ≤ 200
        · rw [if_pos a4] at hx; rw [← Option.some.inj hx]; exact fun e => hne (.inr (.inl e.symm))
        · rw [if_neg a4] at hx; exact absurd hx (by simp)
    rw [if_neg a2] at hx
    by_cases a3 : 1 < t.length ∧ t.getD 0 0 = 39 ∧ btw 97 (t.getD 1 0).toNat 122 = true
    · rw [if_pos a3] at hx; rw [← Option.some.inj hx]; exact fun e => hne (.inr (.inr (.inl e.symm)))
    rw [if_neg a3] at hx
    by_cases a4 : sign t = []
    · rw [if_pos a4] at hx; exact absurd hx (by simp)
    · rw [if_neg a4] at hx; rw [← Option.some.inj hx]; exact fun e => hne (.inr (.inr (.inr (.inl e.symm))))
  · rw [if_pos (by simp [h])]

set_option maxHeartbeats 4000000 in
theorem ValidR_name (k t : List UInt8) (hk : k = kName ∨ k = kCon) (hl : t.length ≤ 1099511627776) (σ : List Ent) : ACalls E 144 [tokA k t 0] σ fun r τ => r = boolV (nameB k t) ∧ τ = σ := by
  refine xacalls T0 .drop [] Tryz.func144 rfl (by kernel_rfl) (by kernel_rfl) (by simp [Tryz.ntmps144]) ?_
  have hne : ¬ k = [116, 101, 120, 116] := by rcases hk with rfl | rfl <;> decide
  have hk0 : ¬ k = [] := by rcases hk with rfl | rfl <;> decide
  have hon := one_name k t hk
  have hpre : Lib.hasPrefix t [40, 42] = true → nameB k t = false := fun h => by
    have h1 : letter (t.getD 0 0) = false := by
      have h2 := (prefix_take t).1 h
      rcases t with _ | ⟨a, r⟩
      · simp at h2
      · have : a = 40 := by rcases r with _ | ⟨b, r⟩ <;> simp at h2; exact h2.1
        rw [this, List.getD_cons_zero]; decide
    unfold nameB
    rw [long_letter true t h1]
    simp [Ne.symm hk0]
  have hnil : t = [] → nameB k t = false := fun h => by
    rw [h]; unfold nameB; rw [long_letter true [] (by decide)]
    simp [Ne.symm hk0]
  generalize nameB k t = B at *
  (simp only [tokA, (vmA), Nat.reduceEqDiff, reduceIte, Nat.reduceAdd, Int.reduceToNat, Int.reduceLE, Int.reduceLT, Int.reduceEq, Int.reduceNe, Int.reduceAdd, Int.reduceSub, Int.reduceNeg, Nat.reduceLT, Nat.reduceLeDiff, Nat.reduceBEq, undef, (stA), Nat.reduceMul]; try simp (disch := omega) only [(vmp)])
  (simp only [hne, (vmA), Nat.reduceEqDiff, reduceIte, Nat.reduceAdd, Int.reduceToNat, Int.reduceLE, Int.reduceLT, Int.reduceEq, Int.reduceNe, Int.reduceAdd, Int.reduceSub, Int.reduceNeg, Nat.reduceLT, Nat.reduceLeDiff, Nat.reduceBEq, undef, (stA), Nat.reduceMul]; try simp (disch := omega) only [(vmp)])
  by_cases h0 : t = []
  · rw [hnil h0]
    (simp only [h0, (vmA), Nat.reduceEqDiff, reduceIte, Nat.reduceAdd, Int.reduceToNat, Int.reduceLE, Int.reduceLT, Int.reduceEq, Int.reduceNe, Int.reduceAdd, Int.reduceSub, Int.reduceNeg, Nat.reduceLT, Nat.reduceLeDiff, Nat.reduceBEq, undef, (stA), Nat.reduceMul]; try simp (disch := omega) only [(vmp)])
  · have hpos : 0 < t.length := List.length_pos_iff.2 h0
    (simp only [h0, (vmA), Nat.reduceEqDiff, reduceIte, Nat.reduceAdd, Int.reduceToNat, Int.reduceLE, Int.reduceLT, Int.reduceEq, Int.reduceNe, Int.reduceAdd, Int.reduceSub, Int.reduceNeg, Nat.reduceLT, Nat.reduceLeDiff, Nat.reduceBEq, undef, (stA), Nat.reduceMul]; try simp (disch := omega) only [(vmp)])
    refine xWait.go (HasPrefix_ok _ _ _) ?_
    cases hp : Lib.hasPrefix t [40, 42]
    · (simp only [(vmA), Nat.reduceEqDiff, reduceIte, Nat.reduceAdd, Int.reduceToNat, Int.reduceLE, Int.reduceLT, Int.reduceEq, Int.reduceNe, Int.reduceAdd, Int.reduceSub, Int.reduceNeg, Nat.reduceLT, Nat.reduceLeDiff, Nat.reduceBEq, undef, (stA), Nat.reduceMul]; try simp (disch := omega) only [(vmp)])
      refine xWait.of (oneR_ok t 0 hl hpos _) ?_
      rintro _ _ ⟨⟨k', t', n, p', rfl, h1, h2⟩, rfl⟩
      rw [List.drop_zero] at h1 h2
      (simp only [tokA, (vmA), Nat.reduceEqDiff, reduceIte, Nat.reduceAdd, Int.reduceToNat, Int.reduceLE, Int.reduceLT, Int.reduceEq, Int.reduceNe, Int.reduceAdd, Int.reduceSub, Int.reduceNeg, Nat.reduceLT, Nat.reduceLeDiff, Nat.reduceBEq, undef, (stA), Nat.reduceMul]; try simp (disch := omega) only [(vmp)])
      by_cases hn : n = 0
      · have hq : ¬ (n : Int) = t.length := by omega
        rw [hon, h2 hn]
        (simp only [hq, (vmA), Nat.reduceEqDiff, reduceIte, Nat.reduceAdd, Int.reduceToNat, Int.reduceLE, Int.reduceLT, Int.reduceEq, Int.reduceNe, Int.reduceAdd, Int.reduceSub, Int.reduceNeg, Nat.reduceLT, Nat.reduceLeDiff, Nat.reduceBEq, undef, (stA), Nat.reduceMul]; try simp (disch := omega) only [(vmp)])
      · rw [hon, (h1 (by omega)).2]
        by_cases hq : (n : Int) = t.length
        · have hq' : n = t.length := by omega
          (simp only [hq, hq', (vmA), Nat.reduceEqDiff, reduceIte, Nat.reduceAdd, Int.reduceToNat, Int.reduceLE, Int.reduceLT, Int.reduceEq, Int.reduceNe, Int.reduceAdd, Int.reduceSub, Int.reduceNeg, Nat.reduceLT, Nat.reduceLeDiff, Nat.reduceBEq, undef, (stA), Nat.reduceMul]; try simp (disch := omega) only [(vmp)])
        · have hq' : ¬ n = t.length := by omega
          (simp only [hq, hq', (vmA), Nat.reduceEqDiff, reduceIte, Nat.reduceAdd, Int.reduceToNat, Int.reduceLE, Int.reduceLT, Int.reduceEq, Int.reduceNe, Int.reduceAdd, Int.reduceSub, Int.reduceNeg, Nat.reduceLT, Nat.reduceLeDiff, Nat.reduceBEq, undef, (stA), Nat.reduceMul]; try simp (disch := omega) only [(vmp)])
    · rw [hpre hp]
      (simp only [(vmA), Nat.reduceEqDiff, reduceIte, Nat.reduceAdd, Int.reduceToNat, Int.reduceLE, Int.reduceLT, Int.reduceEq, Int.reduceNe, Int.reduceAdd, Int.reduceSub, Int.reduceNeg, Nat.reduceLT, Nat.reduceLeDiff, Nat.reduceBEq, undef, (stA), Nat.reduceMul]; try simp (disch := omega) only [(vmp)])

theorem is_ok (k t : List UInt8) (hk : k = kName ∨ k = kCon) (hl : t.length ≤ 1099511627776) (σ : List Ent) : ACalls E 130 [.str t, .str k] σ fun r τ => r = boolV (nameB k t) ∧ τ = σ := by
  refine xacalls T0 .drop [] Tryz.func130 rfl (by kernel_rfl) (by kernel_rfl) (by simp [Tryz.ntmps130]) ?_
  (simp only [(vmA), Nat.reduceEqDiff, reduceIte, Nat.reduceAdd, Int.reduceToNat, Int.reduceLE, Int.reduceLT, Int.reduceEq, Int.reduceNe, Int.reduceAdd, Int.reduceSub, Int.reduceNeg, Nat.reduceLT, Nat.reduceLeDiff, Nat.reduceBEq, undef, (stA), Nat.reduceMul]; try simp (disch := omega) only [(vmp)])
  refine xWait.go (ValidR_name k t hk hl _) ?_
  (simp only [(vmA), Nat.reduceEqDiff, reduceIte, Nat.reduceAdd, Int.reduceToNat, Int.reduceLE, Int.reduceLT, Int.reduceEq, Int.reduceNe, Int.reduceAdd, Int.reduceSub, Int.reduceNeg, Nat.reduceLT, Nat.reduceLeDiff, Nat.reduceBEq, undef, (stA), Nat.reduceMul]; try simp (disch := omega) only [(vmp)])
theorem IsConR_ok (t : List UInt8) (hl : t.length ≤ 1099511627776) (σ : List Ent) : ACalls E 106 [.str t] σ fun r τ => r = boolV (nameB kCon t) ∧ τ = σ := by
  refine xacalls T0 .drop [] Tryz.func106 rfl (by kernel_rfl) (by kernel_rfl) (by simp [Tryz.ntmps106]) ?_
  (simp only [(vmA), Nat.reduceEqDiff, reduceIte, Nat.reduceAdd, Int.reduceToNat, Int.reduceLE, Int.reduceLT, Int.reduceEq, Int.reduceNe, Int.reduceAdd, Int.reduceSub, Int.reduceNeg, Nat.reduceLT, Nat.reduceLeDiff, Nat.reduceBEq, undef, (stA), Nat.reduceMul]; try simp (disch := omega) only [(vmp)])
  refine xWait.go (is_ok kCon t (.inr rfl) hl _) ?_
  (simp only [(vmA), Nat.reduceEqDiff, reduceIte, Nat.reduceAdd, Int.reduceToNat, Int.reduceLE, Int.reduceLT, Int.reduceEq, Int.reduceNe, Int.reduceAdd, Int.reduceSub, Int.reduceNeg, Nat.reduceLT, Nat.reduceLeDiff, Nat.reduceBEq, undef, (stA), Nat.reduceMul]; try simp (disch := omega) only [(vmp)])

end Go.D

/- How large types are in earnest (plain). -/
set_option linter.unusedVariables false
set_option maxRecDepth 100000
namespace Go.D
open Go Go.Vm Go.Proofs Go.RowKit

mutual
/-- How many values and letters a type holds. -/
def bulkT : Tr → Nat
  | .mk d n us => d.length + n.length + 4 + bulkTs us
def bulkTs : List Tr → Nat
  | [] => 0
  | t :: ts => bulkT t + bulkTs ts
end
mutual
/-- How many nodes. -/
def cntT : Tr → Nat
  | .mk _ _ us => 1 + cntTs us
def cntTs : List Tr → Nat
  | [] => 0
  | t :: ts => cntT t + cntTs ts
end
mutual
/-- How many on the longest way. -/
def deepT : Tr → Nat
  | .mk _ _ us => 1 + deepTs us
def deepTs : List Tr → Nat
  | [] => 0
  | t :: ts => max (deepT t) (deepTs ts)
end
mutual
theorem cnt_pos : ∀ t, 1 ≤ cntT t
  | .mk _ _ us => by simp only [cntT]; omega
theorem deep_cnt : ∀ t, deepT t ≤ cntT t
  | .mk _ _ us => by simp only [deepT, cntT]; have := deep_cnts us; omega
theorem deep_cnts : ∀ l, deepTs l ≤ cntTs l
  | [] => by simp [deepTs]
  | t :: ts => by simp only [deepTs, cntTs]; have := deep_cnt t; have := deep_cnts ts; omega
end
mutual
theorem cnt_bulk : ∀ t, 4 * cntT t ≤ bulkT t
  | .mk _ _ us => by simp only [cntT, bulkT]; have := cnt_bulks us; omega
theorem cnt_bulks : ∀ l, 4 * cntTs l ≤ bulkTs l
  | [] => by simp [cntTs]
  | t :: ts => by simp only [cntTs, bulkTs]; have := cnt_bulk t; have := cnt_bulks ts; omega
end
theorem len_cnts : ∀ l, l.length ≤ cntTs l
  | [] => by simp
  | t :: ts => by simp only [cntTs, List.length_cons]; have := cnt_pos t; have := len_cnts ts; omega
theorem wr_id {x : Int} (h0 : -9223372036854775808 ≤ x) (h1 : x ≤ 9223372036854775807) : wr x = x := wrapI64 h0 h1
/-- Sums that do not wrap. -/
theorem above_real : ∀ (l : List Tr) (a b : Nat), a + cntTs l ≤ 4611686018427387904 → (∀ t ∈ l, ofT t = ((cntT t : Int), (deepT t : Int))) → 1 ≤ b → aboveS ((a : Int), (b : Int)) (ofTs l) = (((a + cntTs l : Nat) : Int), ((if l = [] then b else max b (deepTs l + 1) : Nat) : Int))
  | [], a, b, _, _, _ => by simp [ofTs, aboveS, cntTs]
  | t :: ts, a, b, h, hk, hb => by
    have h0 := hk t (by simp)
    have hd := deep_cnt t
    have hp := cnt_pos t
    simp only [cntTs] at h
    simp only [ofTs, aboveS, h0]
    rw [wr_id (by omega) (by omega), wr_id (by omega) (by omega)]
    have e1 : (a : Int) + (cntT t : Int) = ((a + cntT t : Nat) : Int) := by omega
    have e2 : max (b : Int) ((deepT t : Int) + 1) = ((max b (deepT t + 1) : Nat) : Int) := by omega
    rw [e1, e2, above_real ts (a + cntT t) (max b (deepT t + 1)) (by omega) (fun x hx => hk x (by simp [hx])) (by omega)]
    simp only [cntTs, deepTs, Prod.mk.injEq]
    refine ⟨by omega, ?_⟩
    by_cases he : ts = []
    · subst he; simp [deepTs]
    · simp only [he, if_false]
      simp only [reduceCtorEq, if_false]
      omega
mutual
theorem of_real : ∀ t, cntT t ≤ 4611686018427387904 → ofT t = ((cntT t : Int), (deepT t : Int))
  | .mk d n us, h => by
    simp only [cntT] at h
    have := above_real us 1 1 (by omega) (of_reals us (by omega)) (by omega)
    simp only [ofT, cntT, deepT]
    rw [show ((1 : Int), (1 : Int)) = (((1 : Nat) : Int), ((1 : Nat) : Int)) from rfl, this]
    by_cases he : us = []
    · subst he; simp [deepTs]
    · simp only [he, if_false, Prod.mk.injEq, true_and]; omega
theorem of_reals : ∀ l, cntTs l ≤ 4611686018427387904 → ∀ t ∈ l, ofT t = ((cntT t : Int), (deepT t : Int))
  | [], _, t, ht => by cases ht
  | u :: us, h, t, ht => by
    simp only [cntTs] at h
    rcases List.mem_cons.1 ht with h1 | h1
    · rw [h1]; exact of_real u (by omega)
    · exact of_reals us (by omega) t h1
end
mutual
theorem bulk_len : ∀ t, bulkT t ≤ 1048576 → lenT t
  | .mk d n us, h => by
    simp only [bulkT] at h
    have := len_cnts us
    have := cnt_bulks us
    simp only [lenT]
    exact ⟨by omega, by omega, bulk_lens us (by omega)⟩
theorem bulk_lens : ∀ l, bulkTs l ≤ 1048576 → lenTs l
  | [], _ => trivial
  | t :: ts, h => by
    simp only [bulkTs] at h
    exact ⟨bulk_len t (by omega), bulk_lens ts (by omega)⟩
end
theorem bulk_mem : ∀ {l : List Tr} {t : Tr}, t ∈ l → bulkT t ≤ bulkTs l
  | u :: us, t, h => by
    simp only [bulkTs]
    rcases List.mem_cons.1 h with rfl | h
    · omega
    · have := bulk_mem h; omega
/-- A substitution's claims together. -/
def bulkC : List Cl → Nat
  | [] => 0
  | c :: r => c.1.length + bulkT c.2 + 2 + bulkC r
theorem bulkC_mem : ∀ {l : List Cl} {c : Cl}, c ∈ l → c.1.length + bulkT c.2 ≤ bulkC l
  | u :: us, c, h => by
    simp only [bulkC]
    rcases List.mem_cons.1 h with rfl | h
    · omega
    · have := bulkC_mem h; omega
theorem bulkC_length : ∀ l : List Cl, l.length ≤ bulkC l
  | [] => by simp
  | c :: r => by simp only [bulkC, List.length_cons]; have := bulkC_length r; omega
theorem bulkC_len {l : List Cl} (h : bulkC l ≤ 1048576) : lenC l := by
  have := bulkC_length l
  refine ⟨by omega, fun c hc => ?_⟩
  have := bulkC_mem hc
  exact ⟨by omega, bulk_len c.2 (by omega)⟩
end Go.D

/- Which types are valid, by the document. -/
set_option linter.unusedVariables false
set_option linter.unusedSimpArgs false
set_option linter.unnecessarySimpa false
set_option maxRecDepth 100000
namespace Go.D
open Go Go.Vm Go.Proofs Go.RowKit

theorem IsVarR_ok (n : List UInt8) (σ : List Ent) : ACalls E 98 [.str n] σ fun r τ => r = boolV (varB n) ∧ τ = σ := by
  refine xacalls T0 .drop [] Tryz.func98 rfl (by kernel_rfl) (by kernel_rfl) (by simp [Tryz.ntmps98]) ?_
  unfold varB btw
  by_cases h : (n.length : Int) = 2
  rotate_left
  · (simp only [h, (vmA), Nat.reduceEqDiff, reduceIte, Nat.reduceAdd, Int.reduceToNat, Int.reduceLE, Int.reduceLT, Int.reduceEq, Int.reduceNe, Int.reduceAdd, Int.reduceSub, Int.reduceNeg, Nat.reduceLT, Nat.reduceLeDiff, Nat.reduceBEq, undef, (stA), Nat.reduceMul]; try simp (disch := omega) only [(vmp)])
  have h0 : (0 : Int) < n.length := by omega
  have h1 : (1 : Int) < n.length := by omega
  by_cases ha : ((n.getD 0 0).toNat : Int) = 39
  rotate_left
  · (simp only [h, ha, (vmA), Nat.reduceEqDiff, reduceIte, Nat.reduceAdd, Int.reduceToNat, Int.reduceLE, Int.reduceLT, Int.reduceEq, Int.reduceNe, Int.reduceAdd, Int.reduceSub, Int.reduceNeg, Nat.reduceLT, Nat.reduceLeDiff, Nat.reduceBEq, undef, (stA), Nat.reduceMul]; try simp (disch := omega) only [(vmp)])
  by_cases hb : (97 : Int) ≤ ((n.getD 1 0).toNat : Int)
  rotate_left
  · (simp only [h, ha, hb, (vmA), Nat.reduceEqDiff, reduceIte, Nat.reduceAdd, Int.reduceToNat, Int.reduceLE, Int.reduceLT, Int.reduceEq, Int.reduceNe, Int.reduceAdd, Int.reduceSub, Int.reduceNeg, Nat.reduceLT, Nat.reduceLeDiff, Nat.reduceBEq, undef, (stA), Nat.reduceMul]; try simp (disch := omega) only [(vmp)])
  · (simp only [h, ha, hb, (vmA), Nat.reduceEqDiff, reduceIte, Nat.reduceAdd, Int.reduceToNat, Int.reduceLE, Int.reduceLT, Int.reduceEq, Int.reduceNe, Int.reduceAdd, Int.reduceSub, Int.reduceNeg, Nat.reduceLT, Nat.reduceLeDiff, Nat.reduceBEq, undef, (stA), Nat.reduceMul]; try simp (disch := omega) only [(vmp)])
theorem IsConT_ok (t : List UInt8) (hl : t.length ≤ 1099511627776) (σ : List Ent) : ACalls E 106 [.str t] σ fun r τ => r = boolV (conB t) ∧ τ = σ := IsConR_ok t hl σ
theorem smallT_ok (a b : Int) (σ : List Ent) : ACalls E 78 [i64 a, i64 b] σ fun r τ => r = boolV (fitsB (a, b)) ∧ τ = σ := by
  refine xacalls T0 .drop [] Tryz.func78 rfl (by kernel_rfl) (by kernel_rfl) (by simp [Tryz.ntmps78]) ?_
  unfold fitsB
  by_cases h : a ≤ 2000
  · (simp only [h, (vmA), Nat.reduceEqDiff, reduceIte, Nat.reduceAdd, Int.reduceToNat, Int.reduceLE, Int.reduceLT, Int.reduceEq, Int.reduceNe, Int.reduceAdd, Int.reduceSub, Int.reduceNeg, Nat.reduceLT, Nat.reduceLeDiff, Nat.reduceBEq, undef, (stA), Nat.reduceMul]; try simp (disch := omega) only [(vmp)])
  · (simp only [h, (vmA), Nat.reduceEqDiff, reduceIte, Nat.reduceAdd, Int.reduceToNat, Int.reduceLE, Int.reduceLT, Int.reduceEq, Int.reduceNe, Int.reduceAdd, Int.reduceSub, Int.reduceNeg, Nat.reduceLT, Nat.reduceLeDiff, Nat.reduceBEq, undef, (stA), Nat.reduceMul]; try simp (disch := omega) only [(vmp)])
theorem grown_ok (a b c d : Int) (σ : List Ent) : ACalls E 107 [i64 a, i64 b, i64 c, i64 d] σ fun r τ => r = .tup [i64 (wr (a + c)), i64 (max b (wr (d + 1)))] ∧ τ = σ := by
  refine xacalls T0 .drop [] Tryz.func107 rfl (by kernel_rfl) (by kernel_rfl) (by simp [Tryz.ntmps107]) ?_
  (simp only [wr, (vmA), Nat.reduceEqDiff, reduceIte, Nat.reduceAdd, Int.reduceToNat, Int.reduceLE, Int.reduceLT, Int.reduceEq, Int.reduceNe, Int.reduceAdd, Int.reduceSub, Int.reduceNeg, Nat.reduceLT, Nat.reduceLeDiff, Nat.reduceBEq, undef, (stA), Nat.reduceMul]; try simp (disch := omega) only [(vmp)])
def ZR (t : Tr) : Prop := ∀ σ : List Ent, lenT t → ACalls E 79 [tyV t] σ fun r τ => r = .tup [i64 (ofT t).1, i64 (ofT t).2] ∧ τ = σ
set_option maxHeartbeats 4000000 in
theorem sizeType_step (d n : List UInt8) (us : List Tr) (ih : ∀ u ∈ us, ZR u) : ZR (.mk d n us) := by
  intro σ hl
  simp only [lenT] at hl
  refine xacalls T0 .drop [] Tryz.func79 rfl (by kernel_rfl) (by kernel_rfl) (by simp [Tryz.ntmps79]) ?_
  (simp only [tyV, tysV_len, (vmA), Nat.reduceEqDiff, reduceIte, Nat.reduceAdd, Int.reduceToNat, Int.reduceLE, Int.reduceLT, Int.reduceEq, Int.reduceNe, Int.reduceAdd, Int.reduceSub, Int.reduceNeg, Nat.reduceLT, Nat.reduceLeDiff, Nat.reduceBEq, undef, (stA), Nat.reduceMul]; try simp (disch := omega) only [(vmp)])
  refine xloop (α := Nat × List Ent) T0 (fun x => [(2, i64 (aboveS (1, 1) (ofTs (us.take x.1))).1), (3, i64 (aboveS (1, 1) (ofTs (us.take x.1))).2), (9, .sl (tysV us)), (10, i64 us.length), (11, i64 x.1)]) (fun _ => σ)
    (fun x => .arr 24 [.str d, .str n, .sl (tysV us)] 0 0 :: x.2) (fun x => x.1 ≤ us.length) (fun x => us.length - x.1) (by kernel_rfl)
    ⟨(0, []), by simp, by (simp only [List.take_zero, ofTs, aboveS, (vmA), Nat.reduceEqDiff, reduceIte, Nat.reduceAdd, Int.reduceToNat, Int.reduceLE, Int.reduceLT, Int.reduceEq, Int.reduceNe, Int.reduceAdd, Int.reduceSub, Int.reduceNeg, Nat.reduceLT, Nat.reduceLeDiff, Nat.reduceBEq, undef, (stA), Nat.reduceMul, Int.natCast_zero]; try simp (disch := omega) only [(vmp)]), rfl, rfl⟩ ?_
  rintro ⟨i, junk⟩ hi
  simp only at hi
  by_cases h : (i : Int) < us.length
  · have hi' : i < us.length := by omega
    have hu : us[i]? = some us[i] := List.getElem?_eq_getElem hi'
    have hmem : us[i] ∈ us := List.getElem_mem hi'
    obtain ⟨s1, s2⟩ := take_split us i _ hu
    generalize us[i] = u at *
    have hg := tysV_get hu
    have hc := fun σ' => ih u hmem σ' (lenTs_mem hl.2.2 hmem)
    have hnext : aboveS (1, 1) (ofTs (us.take (i + 1))) = (wr ((aboveS (1, 1) (ofTs (us.take i))).1 + (ofT u).1), max (aboveS (1, 1) (ofTs (us.take i))).2 (wr ((ofT u).2 + 1))) := by
      rw [s1, ofTs_map, ofTs_map, List.map_append]; exact aboveS_app _ _ _
    rcases hr : ofT u with ⟨a, b⟩
    rw [hr] at hnext
    simp only [hr] at hc
    have hgr := fun σ' => grown_ok (aboveS (1, 1) (ofTs (us.take i))).1 (aboveS (1, 1) (ofTs (us.take i))).2 a b σ'
    generalize aboveS (1, 1) (ofTs (us.take i)) = A at *
    cases u with
    | mk d2 n2 us2 =>
    simp only [tyV] at hg hc
    (simp only [h, hg, tysV_len, (vmA), Nat.reduceEqDiff, reduceIte, Nat.reduceAdd, Int.reduceToNat, Int.reduceLE, Int.reduceLT, Int.reduceEq, Int.reduceNe, Int.reduceAdd, Int.reduceSub, Int.reduceNeg, Nat.reduceLT, Nat.reduceLeDiff, Nat.reduceBEq, undef, (stA), Nat.reduceMul]; try simp (disch := omega) only [(vmp)])
    refine xWait.go (hc _) ?_
    (simp only [(vmA), Nat.reduceEqDiff, reduceIte, Nat.reduceAdd, Int.reduceToNat, Int.reduceLE, Int.reduceLT, Int.reduceEq, Int.reduceNe, Int.reduceAdd, Int.reduceSub, Int.reduceNeg, Nat.reduceLT, Nat.reduceLeDiff, Nat.reduceBEq, undef, (stA), Nat.reduceMul]; try simp (disch := omega) only [(vmp)])
    refine xWait.go (hgr _) ?_
    (simp only [(vmA), Nat.reduceEqDiff, reduceIte, Nat.reduceAdd, Int.reduceToNat, Int.reduceLE, Int.reduceLT, Int.reduceEq, Int.reduceNe, Int.reduceAdd, Int.reduceSub, Int.reduceNeg, Nat.reduceLT, Nat.reduceLeDiff, Nat.reduceBEq, undef, (stA), Nat.reduceMul]; try simp (disch := omega) only [(vmp)])
    refine ⟨(i + 1, junk ++ [.arr 24 [.str d2, .str n2, .sl (tysV us2)] 0 0]), by simp only; omega, by simp only; omega, ?_⟩
    simp only [hnext]
    first | trivial | exact ⟨rfl, rfl⟩
  · have hie : i = us.length := by omega
    subst hie
    (simp only [h, List.take_of_length_le (Nat.le_refl _), (vmA), Nat.reduceEqDiff, reduceIte, Nat.reduceAdd, Int.reduceToNat, Int.reduceLE, Int.reduceLT, Int.reduceEq, Int.reduceNe, Int.reduceAdd, Int.reduceSub, Int.reduceNeg, Nat.reduceLT, Nat.reduceLeDiff, Nat.reduceBEq, undef, (stA), Nat.reduceMul]; try simp (disch := omega) only [(vmp)])
    simp only [ofT]
theorem sizeType_ok : ∀ (m : Nat) (t : Tr), SizeOf.sizeOf t ≤ m → ZR t
  | 0, .mk d n us, h => by simp at h
  | m + 1, .mk d n us, h => sizeType_step d n us fun u hu => sizeType_ok m u (by
      have := List.sizeOf_lt_of_mem hu
      simp at h; omega)
def WT (t : Tr) : Prop := ∀ σ : List Ent, bulkT t ≤ 1048576 → ACalls E 77 [tyV t] σ fun r τ => r = boolV (typeB conB t) ∧ τ = σ
set_option maxHeartbeats 4000000 in
theorem wellType_step (d n : List UInt8) (us : List Tr) (ih : ∀ u ∈ us, WT u) : WT (.mk d n us) := by
  intro σ hb
  have hl := bulk_len _ hb
  simp only [bulkT] at hb
  have hcn := fun σ' => IsConT_ok n (by omega) σ'
  have hva := fun σ' => IsVarR_ok n σ'
  simp only [lenT] at hl
  refine xacalls T0 .drop [] Tryz.func77 rfl (by kernel_rfl) (by kernel_rfl) (by simp [Tryz.ntmps77]) ?_
  (simp only [tyV, tysV_len, (vmA), Nat.reduceEqDiff, reduceIte, Nat.reduceAdd, Int.reduceToNat, Int.reduceLE, Int.reduceLT, Int.reduceEq, Int.reduceNe, Int.reduceAdd, Int.reduceSub, Int.reduceNeg, Nat.reduceLT, Nat.reduceLeDiff, Nat.reduceBEq, undef, (stA), Nat.reduceMul]; try simp (disch := omega) only [(vmp)])
  refine xCond.cut (.seq (.block (.cut (fun ts g l => tget ts 1 = .ref σ.length 0 0 ∧ tget ts 3 = i64 (partsI d) ∧ g = σ ∧ l = [.arr 24 [.str d, .str n, .sl (tysV us)] 0 0] ∧ ¬ d = kiData ∧ ¬ d = kiVar) ?_))) ?_
  · rintro ts g l ⟨h1, h3, rfl, rfl, m4, m5⟩
    have hty : typeB conB (.mk d n us) = (decide (n = []) && (decide (partsI d = us.length) && typeBs conB us)) := by
      simp only [typeB, m4, m5, decide_false, Bool.not_false, Bool.true_or, Bool.true_and, Bool.false_or]
    rw [hty]
    (simp only [h1, h3, tysV_len, (vmA), Nat.reduceEqDiff, reduceIte, Nat.reduceAdd, Int.reduceToNat, Int.reduceLE, Int.reduceLT, Int.reduceEq, Int.reduceNe, Int.reduceAdd, Int.reduceSub, Int.reduceNeg, Nat.reduceLT, Nat.reduceLeDiff, Nat.reduceBEq, undef, (stA), Nat.reduceMul]; try simp (disch := omega) only [(vmp)])
    refine xloop (α := Nat × List Ent) T0 (fun x => [(1, .ref g.length 0 0), (3, i64 (partsI d)), (42, .sl (tysV us)), (43, i64 us.length), (44, i64 x.1)]) (fun _ => g)
      (fun x => .arr 24 [.str d, .str n, .sl (tysV us)] 0 0 :: x.2) (fun x => x.1 ≤ us.length ∧ typeBs conB (us.take x.1) = true) (fun x => us.length - x.1) (by kernel_rfl)
      ⟨(0, []), ⟨by simp, rfl⟩, by (simp only [h1, h3, (vmA), Nat.reduceEqDiff, reduceIte, Nat.reduceAdd, Int.reduceToNat, Int.reduceLE, Int.reduceLT, Int.reduceEq, Int.reduceNe, Int.reduceAdd, Int.reduceSub, Int.reduceNeg, Nat.reduceLT, Nat.reduceLeDiff, Nat.reduceBEq, undef, (stA), Nat.reduceMul, Int.natCast_zero]; try simp (disch := omega) only [(vmp)]), rfl, rfl⟩ ?_
    rintro ⟨i, junk⟩ ⟨hi, hall⟩
    simp only at hi hall
    by_cases h : (i : Int) < us.length
    · have hi' : i < us.length := by omega
      have hu : us[i]? = some us[i] := List.getElem?_eq_getElem hi'
      have hmem : us[i] ∈ us := List.getElem_mem hi'
      obtain ⟨s1, s2⟩ := take_split us i _ hu
      have hbm := bulk_mem hmem
      generalize us[i] = u at *
      have hg := tysV_get hu
      have hc := fun σ' => ih u hmem σ' (by omega)
      have hnext : typeBs conB (us.take (i + 1)) = typeB conB u := by
        rw [s1, typeBs_app, hall]; simp [typeBs]
      have hbad : typeB conB u = false → typeBs conB us = false := fun e => by
        rw [s2, typeBs_app]; simp only [typeBs, e, Bool.false_and, Bool.and_false]
      cases hq : typeB conB u
      · rw [hbad hq]
        simp only [hq] at hc
        cases u with
        | mk d2 n2 us2 =>
        simp only [tyV] at hg hc
        (simp only [h, hg, tysV_len, (vmA), Nat.reduceEqDiff, reduceIte, Nat.reduceAdd, Int.reduceToNat, Int.reduceLE, Int.reduceLT, Int.reduceEq, Int.reduceNe, Int.reduceAdd, Int.reduceSub, Int.reduceNeg, Nat.reduceLT, Nat.reduceLeDiff, Nat.reduceBEq, undef, (stA), Nat.reduceMul]; try simp (disch := omega) only [(vmp)])
        refine xWait.go (hc _) ?_
        (simp only [(vmA), Nat.reduceEqDiff, reduceIte, Nat.reduceAdd, Int.reduceToNat, Int.reduceLE, Int.reduceLT, Int.reduceEq, Int.reduceNe, Int.reduceAdd, Int.reduceSub, Int.reduceNeg, Nat.reduceLT, Nat.reduceLeDiff, Nat.reduceBEq, undef, (stA), Nat.reduceMul]; try simp (disch := omega) only [(vmp)])
      · rw [hq] at hnext
        simp only [hq] at hc
        cases u with
        | mk d2 n2 us2 =>
        simp only [tyV] at hg hc
        (simp only [h, hg, tysV_len, (vmA), Nat.reduceEqDiff, reduceIte, Nat.reduceAdd, Int.reduceToNat, Int.reduceLE, Int.reduceLT, Int.reduceEq, Int.reduceNe, Int.reduceAdd, Int.reduceSub, Int.reduceNeg, Nat.reduceLT, Nat.reduceLeDiff, Nat.reduceBEq, undef, (stA), Nat.reduceMul]; try simp (disch := omega) only [(vmp)])
        refine xWait.go (hc _) ?_
        (simp only [(vmA), Nat.reduceEqDiff, reduceIte, Nat.reduceAdd, Int.reduceToNat, Int.reduceLE, Int.reduceLT, Int.reduceEq, Int.reduceNe, Int.reduceAdd, Int.reduceSub, Int.reduceNeg, Nat.reduceLT, Nat.reduceLeDiff, Nat.reduceBEq, undef, (stA), Nat.reduceMul]; try simp (disch := omega) only [(vmp)])
        exact ⟨(i + 1, junk ++ [.arr 24 [.str d2, .str n2, .sl (tysV us2)] 0 0]), ⟨by simp only; omega, hnext⟩, by simp only; omega, rfl, rfl⟩
    · have hie : i = us.length := by omega
      subst hie
      rw [List.take_of_length_le (Nat.le_refl _)] at hall
      rw [hall]
      have hsym : ((us.length : Int) = partsI d) = (partsI d = us.length) := propext eq_comm
      by_cases hn : n = []
      · (simp only [h, hn, hsym, tysV_len, (vmA), Nat.reduceEqDiff, reduceIte, Nat.reduceAdd, Int.reduceToNat, Int.reduceLE, Int.reduceLT, Int.reduceEq, Int.reduceNe, Int.reduceAdd, Int.reduceSub, Int.reduceNeg, Nat.reduceLT, Nat.reduceLeDiff, Nat.reduceBEq, undef, (stA), Nat.reduceMul]; try simp (disch := omega) only [(vmp)])
        try simp only [Bool.and_true]
      · (simp only [h, hn, (vmA), Nat.reduceEqDiff, reduceIte, Nat.reduceAdd, Int.reduceToNat, Int.reduceLE, Int.reduceLT, Int.reduceEq, Int.reduceNe, Int.reduceAdd, Int.reduceSub, Int.reduceNeg, Nat.reduceLT, Nat.reduceLeDiff, Nat.reduceBEq, undef, (stA), Nat.reduceMul]; try simp (disch := omega) only [(vmp)])
  · have fin : ∀ k : List UInt8, d = k → ¬ k = kiData → ¬ k = kiVar → ¬ d = [100, 97, 116, 97] ∧ ¬ d = [118, 97, 114] := fun k e h1 h2 => ⟨e ▸ h1, e ▸ h2⟩
    by_cases h0 : d = kiInt
    · have t0 : (d = [105, 110, 116]) = True := eq_true h0
      have hp : partsI d = 0 := by rw [h0]; decide
      obtain ⟨m4, m5⟩ := fin _ h0 (by decide) (by decide)
      (simp only [t0, hp, m4, m5, (vmA), Nat.reduceEqDiff, reduceIte, Nat.reduceAdd, Int.reduceToNat, Int.reduceLE, Int.reduceLT, Int.reduceEq, Int.reduceNe, Int.reduceAdd, Int.reduceSub, Int.reduceNeg, Nat.reduceLT, Nat.reduceLeDiff, Nat.reduceBEq, undef, (stA), Nat.reduceMul]; try simp (disch := omega) only [(vmp)])
      try exact not_false
    have n0 : ¬ d = [105, 110, 116] := h0
    by_cases h1 : d = kiBool
    · have t1 : (d = [98, 111, 111, 108]) = True := eq_true h1
      have hp : partsI d = 0 := by rw [h1]; decide
      obtain ⟨m4, m5⟩ := fin _ h1 (by decide) (by decide)
      (simp only [n0, t1, hp, m4, m5, (vmA), Nat.reduceEqDiff, reduceIte, Nat.reduceAdd, Int.reduceToNat, Int.reduceLE, Int.reduceLT, Int.reduceEq, Int.reduceNe, Int.reduceAdd, Int.reduceSub, Int.reduceNeg, Nat.reduceLT, Nat.reduceLeDiff, Nat.reduceBEq, undef, (stA), Nat.reduceMul]; try simp (disch := omega) only [(vmp)])
      try exact not_false
    have n1 : ¬ d = [98, 111, 111, 108] := h1
    by_cases h2 : d = kiUnit
    · have t2 : (d = [117, 110, 105, 116]) = True := eq_true h2
      have hp : partsI d = 0 := by rw [h2]; decide
      obtain ⟨m4, m5⟩ := fin _ h2 (by decide) (by decide)
      (simp only [n0, n1, t2, hp, m4, m5, (vmA), Nat.reduceEqDiff, reduceIte, Nat.reduceAdd, Int.reduceToNat, Int.reduceLE, Int.reduceLT, Int.reduceEq, Int.reduceNe, Int.reduceAdd, Int.reduceSub, Int.reduceNeg, Nat.reduceLT, Nat.reduceLeDiff, Nat.reduceBEq, undef, (stA), Nat.reduceMul]; try simp (disch := omega) only [(vmp)])
      try exact not_false
    have n2 : ¬ d = [117, 110, 105, 116] := h2
    by_cases h3 : d = kiText
    · have t3 : (d = [116, 101, 120, 116]) = True := eq_true h3
      have hp : partsI d = 0 := by rw [h3]; decide
      obtain ⟨m4, m5⟩ := fin _ h3 (by decide) (by decide)
      (simp only [n0, n1, n2, t3, hp, m4, m5, (vmA), Nat.reduceEqDiff, reduceIte, Nat.reduceAdd, Int.reduceToNat, Int.reduceLE, Int.reduceLT, Int.reduceEq, Int.reduceNe, Int.reduceAdd, Int.reduceSub, Int.reduceNeg, Nat.reduceLT, Nat.reduceLeDiff, Nat.reduceBEq, undef, (stA), Nat.reduceMul]; try simp (disch := omega) only [(vmp)])
      try exact not_false
    have n3 : ¬ d = [116, 101, 120, 116] := h3
    by_cases h4 : d = kiPair
    · have t4 : (d = [112, 97, 105, 114]) = True := eq_true h4
      have hp : partsI d = 2 := by rw [h4]; decide
      obtain ⟨m4, m5⟩ := fin _ h4 (by decide) (by decide)
      (simp only [n0, n1, n2, n3, t4, hp, m4, m5, (vmA), Nat.reduceEqDiff, reduceIte, Nat.reduceAdd, Int.reduceToNat, Int.reduceLE, Int.reduceLT, Int.reduceEq, Int.reduceNe, Int.reduceAdd, Int.reduceSub, Int.reduceNeg, Nat.reduceLT, Nat.reduceLeDiff, Nat.reduceBEq, undef, (stA), Nat.reduceMul]; try simp (disch := omega) only [(vmp)])
      try exact not_false
    have n4 : ¬ d = [112, 97, 105, 114] := h4
    by_cases h5 : d = kiFn
    · have t5 : (d = [102, 110]) = True := eq_true h5
      have hp : partsI d = 2 := by rw [h5]; decide
      obtain ⟨m4, m5⟩ := fin _ h5 (by decide) (by decide)
      (simp only [n0, n1, n2, n3, n4, t5, hp, m4, m5, (vmA), Nat.reduceEqDiff, reduceIte, Nat.reduceAdd, Int.reduceToNat, Int.reduceLE, Int.reduceLT, Int.reduceEq, Int.reduceNe, Int.reduceAdd, Int.reduceSub, Int.reduceNeg, Nat.reduceLT, Nat.reduceLeDiff, Nat.reduceBEq, undef, (stA), Nat.reduceMul]; try simp (disch := omega) only [(vmp)])
      try exact not_false
    have n5 : ¬ d = [102, 110] := h5
    by_cases h6 : d = kiList
    · have t6 : (d = [108, 105, 115, 116]) = True := eq_true h6
      have hp : partsI d = 1 := by rw [h6]; decide
      obtain ⟨m4, m5⟩ := fin _ h6 (by decide) (by decide)
      (simp only [n0, n1, n2, n3, n4, n5, t6, hp, m4, m5, (vmA), Nat.reduceEqDiff, reduceIte, Nat.reduceAdd, Int.reduceToNat, Int.reduceLE, Int.reduceLT, Int.reduceEq, Int.reduceNe, Int.reduceAdd, Int.reduceSub, Int.reduceNeg, Nat.reduceLT, Nat.reduceLeDiff, Nat.reduceBEq, undef, (stA), Nat.reduceMul]; try simp (disch := omega) only [(vmp)])
      try exact not_false
    have n6 : ¬ d = [108, 105, 115, 116] := h6
    by_cases h7 : d = kiArray
    · have t7 : (d = [97, 114, 114, 97, 121]) = True := eq_true h7
      have hp : partsI d = 1 := by rw [h7]; decide
      obtain ⟨m4, m5⟩ := fin _ h7 (by decide) (by decide)
      (simp only [n0, n1, n2, n3, n4, n5, n6, t7, hp, m4, m5, (vmA), Nat.reduceEqDiff, reduceIte, Nat.reduceAdd, Int.reduceToNat, Int.reduceLE, Int.reduceLT, Int.reduceEq, Int.reduceNe, Int.reduceAdd, Int.reduceSub, Int.reduceNeg, Nat.reduceLT, Nat.reduceLeDiff, Nat.reduceBEq, undef, (stA), Nat.reduceMul]; try simp (disch := omega) only [(vmp)])
      try exact not_false
    have n7 : ¬ d = [97, 114, 114, 97, 121] := h7
    by_cases h8 : d = kiData
    · have t8 : (d = [100, 97, 116, 97]) = True := eq_true h8
      have hty : typeB conB (.mk d n us) = (conB n && decide (us.length = 0)) := by
        have m5 : ¬ d = kiVar := by rw [h8]; decide
        have hp : partsI kiData = 0 := by decide
        simp only [typeB, h8, m5, hp, decide_true, decide_false, Bool.not_true, Bool.not_false, Bool.false_or, Bool.true_or, Bool.true_and]
        cases us with
        | nil => simp [typeBs]
        | cons a r =>
          have e : ¬ (0 : Int) = ((a :: r).length : Int) := by simp only [List.length_cons]; omega
          simp only [e, decide_false, Bool.false_and]
          simp
      rw [hty]
      (simp only [n0, n1, n2, n3, n4, n5, n6, n7, t8, (vmA), Nat.reduceEqDiff, reduceIte, Nat.reduceAdd, Int.reduceToNat, Int.reduceLE, Int.reduceLT, Int.reduceEq, Int.reduceNe, Int.reduceAdd, Int.reduceSub, Int.reduceNeg, Nat.reduceLT, Nat.reduceLeDiff, Nat.reduceBEq, undef, (stA), Nat.reduceMul]; try simp (disch := omega) only [(vmp)])
      refine xWait.go (hcn _) ?_
      cases hcv : conB n
      · (simp only [(vmA), Nat.reduceEqDiff, reduceIte, Nat.reduceAdd, Int.reduceToNat, Int.reduceLE, Int.reduceLT, Int.reduceEq, Int.reduceNe, Int.reduceAdd, Int.reduceSub, Int.reduceNeg, Nat.reduceLT, Nat.reduceLeDiff, Nat.reduceBEq, undef, (stA), Nat.reduceMul]; try simp (disch := omega) only [(vmp)])
      · (simp only [tysV_len, (vmA), Nat.reduceEqDiff, reduceIte, Nat.reduceAdd, Int.reduceToNat, Int.reduceLE, Int.reduceLT, Int.reduceEq, Int.reduceNe, Int.reduceAdd, Int.reduceSub, Int.reduceNeg, Nat.reduceLT, Nat.reduceLeDiff, Nat.reduceBEq, undef, (stA), Nat.reduceMul]; try simp (disch := omega) only [(vmp)])
        have : ((us.length : Int) = 0) = (us.length = 0) := propext (by omega)
        simp only [this, Bool.true_and]
    have n8 : ¬ d = [100, 97, 116, 97] := h8
    by_cases h9 : d = kiVar
    · have t9 : (d = [118, 97, 114]) = True := eq_true h9
      have hty : typeB conB (.mk d n us) = (varB n && decide (us.length = 0)) := by
        have m4 : ¬ d = kiData := by rw [h9]; decide
        have hp : partsI kiVar = 0 := by decide
        simp only [typeB, h9, m4, hp, decide_true, decide_false, Bool.not_true, Bool.not_false, Bool.false_or, Bool.true_or, Bool.or_true, Bool.true_and]
        cases us with
        | nil => simp [typeBs]
        | cons a r =>
          have e : ¬ (0 : Int) = ((a :: r).length : Int) := by simp only [List.length_cons]; omega
          simp only [e, decide_false, Bool.false_and]
          simp
      rw [hty]
      (simp only [n0, n1, n2, n3, n4, n5, n6, n7, n8, t9, (vmA), Nat.reduceEqDiff, reduceIte, Nat.reduceAdd, Int.reduceToNat, Int.reduceLE, Int.reduceLT, Int.reduceEq, Int.reduceNe, Int.reduceAdd, Int.reduceSub, Int.reduceNeg, Nat.reduceLT, Nat.reduceLeDiff, Nat.reduceBEq, undef, (stA), Nat.reduceMul]; try simp (disch := omega) only [(vmp)])
      refine xWait.go (hva _) ?_
      cases hcv : varB n
      · (simp only [(vmA), Nat.reduceEqDiff, reduceIte, Nat.reduceAdd, Int.reduceToNat, Int.reduceLE, Int.reduceLT, Int.reduceEq, Int.reduceNe, Int.reduceAdd, Int.reduceSub, Int.reduceNeg, Nat.reduceLT, Nat.reduceLeDiff, Nat.reduceBEq, undef, (stA), Nat.reduceMul]; try simp (disch := omega) only [(vmp)])
      · (simp only [tysV_len, (vmA), Nat.reduceEqDiff, reduceIte, Nat.reduceAdd, Int.reduceToNat, Int.reduceLE, Int.reduceLT, Int.reduceEq, Int.reduceNe, Int.reduceAdd, Int.reduceSub, Int.reduceNeg, Nat.reduceLT, Nat.reduceLeDiff, Nat.reduceBEq, undef, (stA), Nat.reduceMul]; try simp (disch := omega) only [(vmp)])
        have : ((us.length : Int) = 0) = (us.length = 0) := propext (by omega)
        simp only [this, Bool.true_and]
    have n9 : ¬ d = [118, 97, 114] := h9
    have hty : typeB conB (.mk d n us) = false := by
      have hp : partsI d = -1 := by unfold partsI; simp only [h0, h1, h2, h3, h4, h5, h6, h7, h8, h9, or_self, if_false]
      have : ¬ (-1 : Int) = us.length := by omega
      simp only [typeB, hp, this, decide_false, Bool.false_and, Bool.and_false]
    rw [hty]
    (simp only [n0, n1, n2, n3, n4, n5, n6, n7, n8, n9, (vmA), Nat.reduceEqDiff, reduceIte, Nat.reduceAdd, Int.reduceToNat, Int.reduceLE, Int.reduceLT, Int.reduceEq, Int.reduceNe, Int.reduceAdd, Int.reduceSub, Int.reduceNeg, Nat.reduceLT, Nat.reduceLeDiff, Nat.reduceBEq, undef, (stA), Nat.reduceMul]; try simp (disch := omega) only [(vmp)])
theorem wellType_ok : ∀ (m : Nat) (t : Tr), SizeOf.sizeOf t ≤ m → WT t
  | 0, .mk d n us, h => by simp at h
  | m + 1, .mk d n us, h => wellType_step d n us fun u hu => wellType_ok m u (by
      have := List.sizeOf_lt_of_mem hu
      simp at h; omega)
/-- The document's types. -/
theorem ValidTypeR_ok (t : Tr) (hb : bulkT t ≤ 1048576) (σ : List Ent) : ACalls E 42 [tyV t] σ fun r τ => r = boolV (validT conB t) ∧ τ = σ := by
  have h1 := fun σ' => wellType_ok _ t (Nat.le_refl _) σ' hb
  have h2 := fun σ' => sizeType_ok _ t (Nat.le_refl _) σ' (bulk_len t hb)
  have h3 := fun σ' => smallT_ok (ofT t).1 (ofT t).2 σ'
  refine xacalls T0 .drop [] Tryz.func42 rfl (by kernel_rfl) (by kernel_rfl) (by simp [Tryz.ntmps42]) ?_
  unfold validT
  generalize ofT t = sz at *
  generalize typeB conB t = tb at *
  rcases sz with ⟨x, y⟩
  cases t with
  | mk d n us =>
  simp only [tyV] at h1 h2
  simp only at h3
  (simp only [tyV, (vmA), Nat.reduceEqDiff, reduceIte, Nat.reduceAdd, Int.reduceToNat, Int.reduceLE, Int.reduceLT, Int.reduceEq, Int.reduceNe, Int.reduceAdd, Int.reduceSub, Int.reduceNeg, Nat.reduceLT, Nat.reduceLeDiff, Nat.reduceBEq, undef, (stA), Nat.reduceMul]; try simp (disch := omega) only [(vmp)])
  refine xWait.go (h1 _) ?_
  cases tb
  · (simp only [(vmA), Nat.reduceEqDiff, reduceIte, Nat.reduceAdd, Int.reduceToNat, Int.reduceLE, Int.reduceLT, Int.reduceEq, Int.reduceNe, Int.reduceAdd, Int.reduceSub, Int.reduceNeg, Nat.reduceLT, Nat.reduceLeDiff, Nat.reduceBEq, undef, (stA), Nat.reduceMul]; try simp (disch := omega) only [(vmp)])
    try rfl
  · (simp only [(vmA), Nat.reduceEqDiff, reduceIte, Nat.reduceAdd, Int.reduceToNat, Int.reduceLE, Int.reduceLT, Int.reduceEq, Int.reduceNe, Int.reduceAdd, Int.reduceSub, Int.reduceNeg, Nat.reduceLT, Nat.reduceLeDiff, Nat.reduceBEq, undef, (stA), Nat.reduceMul]; try simp (disch := omega) only [(vmp)])
    refine xWait.go (h2 _) ?_
    (simp only [(vmA), Nat.reduceEqDiff, reduceIte, Nat.reduceAdd, Int.reduceToNat, Int.reduceLE, Int.reduceLT, Int.reduceEq, Int.reduceNe, Int.reduceAdd, Int.reduceSub, Int.reduceNeg, Nat.reduceLT, Nat.reduceLeDiff, Nat.reduceBEq, undef, (stA), Nat.reduceMul]; try simp (disch := omega) only [(vmp)])
    refine xWait.go (h3 _) ?_
    (simp only [Bool.true_and, (vmA), Nat.reduceEqDiff, reduceIte, Nat.reduceAdd, Int.reduceToNat, Int.reduceLE, Int.reduceLT, Int.reduceEq, Int.reduceNe, Int.reduceAdd, Int.reduceSub, Int.reduceNeg, Nat.reduceLT, Nat.reduceLeDiff, Nat.reduceBEq, undef, (stA), Nat.reduceMul]; try simp (disch := omega) only [(vmp)])
    try rfl
end Go.D

/- The variables, as letters. -/
set_option linter.unusedVariables false
set_option maxRecDepth 100000
namespace Go.D
open Go Go.Vm Go.Proofs Go.RowKit

theorem wrapU8 {x : Int} (h0 : 0 ≤ x) (h1 : x ≤ 255) : IntKind.u8.wrap x = x := by
  have hb : IntKind.u8.bits = 8 := rfl
  have hs : IntKind.u8.signed = false := rfl
  simp only [IntKind.wrap, hb, hs, Bool.false_and, Bool.false_eq_true, if_false]
  omega
/-- The i-th variable. -/
def letA (i : Nat) : List UInt8 := [39, (97 + i).toUInt8]
theorem letter_inj {i j : Nat} (hi : i < 26) (hj : j < 26) (h : letA i = letA j) : i = j := by
  simp only [letA, List.cons.injEq, and_true, true_and] at h
  have h2 := congrArg UInt8.toNat h
  have e : ∀ k, k < 26 → ((97 + k).toUInt8).toNat = 97 + k := fun k hk => by
    show (UInt8.ofNat (97 + k)).toNat = 97 + k
    rw [UInt8.toNat_ofNat']
    exact Nat.mod_eq_of_lt (by omega)
  rw [e i hi, e j hj] at h2
  omega
theorem letter_varB {i : Nat} (hi : i < 26) : varB (letA i) = true := by
  have e : ((97 + i).toUInt8).toNat = 97 + i := by
    show (UInt8.ofNat (97 + i)).toNat = 97 + i
    rw [UInt8.toNat_ofNat']
    exact Nat.mod_eq_of_lt (by omega)
  simp only [varB, letA, btw, List.getD_cons_zero, List.getD_cons_succ, e, Bool.and_eq_true, decide_eq_true_eq]
  exact ⟨rfl, rfl, by omega, by omega⟩
theorem varB_letter {n : List UInt8} (h : varB n = true) : ∃ i, i < 26 ∧ n = letA i := by
  obtain ⟨b, rfl, h1, h2⟩ := varB_shape h
  refine ⟨b.toNat - 97, by omega, ?_⟩
  have e : ((97 + (b.toNat - 97)).toUInt8).toNat = b.toNat := by
    show (UInt8.ofNat _).toNat = _
    rw [UInt8.toNat_ofNat']
    have := b.toNat_lt
    omega
  simp only [letA, List.cons.injEq, and_true, true_and]
  exact (UInt8.toNat_inj.1 e).symm
theorem letter_less {i j : Nat} (hi : i < 26) (hj : j < 26) : Op.bytesLess (letA i) (letA j) = decide (i < j) := by
  have e : ∀ k, k < 26 → ((97 + k).toUInt8).toNat = 97 + k := fun k hk => by
    show (UInt8.ofNat (97 + k)).toNat = 97 + k
    rw [UInt8.toNat_ofNat']
    exact Nat.mod_eq_of_lt (by omega)
  have e1 : ((97 + i).toUInt8 < (97 + j).toUInt8) ↔ i < j := by rw [UInt8.lt_iff_toNat_lt, e i hi, e j hj]; omega
  have e2 : ((97 + i).toUInt8 = (97 + j).toUInt8) ↔ i = j := by rw [← UInt8.toNat_inj, e i hi, e j hj]; omega
  simp only [letA, Op.bytesLess]
  have h2 : decide ((97 + i).toUInt8 < (97 + j).toUInt8) = decide (i < j) := decide_eq_decide.2 e1
  rw [h2]
  simp only [Bool.and_false, Bool.or_false, beq_self_eq_true, Bool.true_and]
  rfl
mutual
theorem ord_pre : ∀ (t : Tr) (A : List (List UInt8)), A <+: ordT t A
  | .mk d n us, A => by
    simp only [ordT]
    split
    · exact (List.prefix_append _ _).trans (ords_pre us _)
    · exact ords_pre us A
theorem ords_pre : ∀ (l : List Tr) (A : List (List UInt8)), A <+: ordTs l A
  | [], A => by simp only [ordTs]; exact List.prefix_refl _
  | t :: ts, A => by simp only [ordTs]; exact (ord_pre t A).trans (ords_pre ts _)
end
theorem valid_typ {t : Tr} (h : validT conB t = true) : typeB conB t = true := by unfold validT at h; simp only [Bool.and_eq_true] at h; exact h.1
theorem valid_fits {t : Tr} (h : validT conB t = true) : fitsB (ofT t) = true := by unfold validT at h; simp only [Bool.and_eq_true] at h; exact h.2

def vT (n : List UInt8) : Tr := .mk kiVar n []
theorem vT_args {us : List Tr} {n : List UInt8} (h : typeB conB (.mk kiVar n us) = true) : us = [] ∧ varB n = true := by
  simp only [typeB, Bool.and_eq_true, decide_eq_true_eq] at h
  obtain ⟨_, h2, _, h3, _⟩ := h
  have hp : partsI kiVar = 0 := rfl
  rw [hp] at h3
  refine ⟨List.length_eq_zero_iff.1 (by omega), ?_⟩
  simpa using h2

theorem vT_typ {i : Nat} (h : i < 26) : typeB conB (vT (letA i)) = true := by
  have := letter_varB h
  simp only [vT, typeB, typeBs, this, List.length_nil, Bool.and_true, Bool.or_true, decide_true, Bool.true_or, Bool.true_and]
  rfl
theorem u8_next {i : Nat} (h : i < 26) : IntKind.u8.wrap (97 + (i : Int) + 1) = 97 + ((i + 1 : Nat) : Int) := by
  rw [wrapU8 (by omega) (by omega)]; omega
theorem u8_byte {i : Nat} (h : i < 26) : avBytes [.v (.int .u8 (97 + (i : Int)))] = some [(97 + i).toUInt8] := by
  have h1 : ((97 + i).toUInt8).toNat = 97 + i := by
    show (UInt8.ofNat (97 + i)).toNat = 97 + i
    rw [UInt8.toNat_ofNat']
    exact Nat.mod_eq_of_lt (by omega)
  have hb : 97 + (i : Int) = ((97 + i).toUInt8.toNat : Int) := by rw [h1]; omega
  rw [hb]; simp only [avBytes, avByte_of, Option.bind_some, Option.map_some]
end Go.D

/- A type's measure, the letters, by the document. -/
set_option linter.unusedVariables false
set_option linter.unusedSimpArgs false
set_option linter.unnecessarySimpa false
set_option maxRecDepth 100000
namespace Go.D
open Go Go.Vm Go.Proofs Go.RowKit


def MS (t : Tr) : Prop := ∀ σ : List Ent, lenT t → ACalls E 73 [tyV t] σ fun r τ => r = .tup [i64 (ofT t).1, i64 (ofT t).2] ∧ τ = σ
set_option maxHeartbeats 4000000 in
theorem Measure_step (d n : List UInt8) (us : List Tr) (ih : ∀ u ∈ us, MS u) : MS (.mk d n us) := by
  intro σ hl
  simp only [lenT] at hl
  refine xacalls T0 .drop [] Tryz.func73 rfl (by kernel_rfl) (by kernel_rfl) (by simp [Tryz.ntmps73]) ?_
  (simp only [tyV, tysV_len, (vmA), Nat.reduceEqDiff, reduceIte, Nat.reduceAdd, Int.reduceToNat, Int.reduceLE, Int.reduceLT, Int.reduceEq, Int.reduceNe, Int.reduceAdd, Int.reduceSub, Int.reduceNeg, Nat.reduceLT, Nat.reduceLeDiff, Nat.reduceBEq, undef, (stA), Nat.reduceMul]; try simp (disch := omega) only [(vmp)])
  refine xloop (α := Nat × List Ent) T0 (fun x => [(2, i64 (aboveS (1, 1) (ofTs (us.take x.1))).1), (3, i64 (aboveS (1, 1) (ofTs (us.take x.1))).2), (9, .sl (tysV us)), (10, i64 us.length), (11, i64 x.1)]) (fun _ => σ)
    (fun x => .arr 24 [.str d, .str n, .sl (tysV us)] 0 0 :: x.2) (fun x => x.1 ≤ us.length) (fun x => us.length - x.1) (by kernel_rfl)
    ⟨(0, []), by simp, by (simp only [List.take_zero, ofTs, aboveS, (vmA), Nat.reduceEqDiff, reduceIte, Nat.reduceAdd, Int.reduceToNat, Int.reduceLE, Int.reduceLT, Int.reduceEq, Int.reduceNe, Int.reduceAdd, Int.reduceSub, Int.reduceNeg, Nat.reduceLT, Nat.reduceLeDiff, Nat.reduceBEq, undef, (stA), Nat.reduceMul, Int.natCast_zero]; try simp (disch := omega) only [(vmp)]), rfl, rfl⟩ ?_
  rintro ⟨i, junk⟩ hi
  simp only at hi
  by_cases h : (i : Int) < us.length
  · have hi' : i < us.length := by omega
    have hu : us[i]? = some us[i] := List.getElem?_eq_getElem hi'
    have hmem : us[i] ∈ us := List.getElem_mem hi'
    obtain ⟨s1, s2⟩ := take_split us i _ hu
    generalize us[i] = u at *
    have hg := tysV_get hu
    have hc := fun σ' => ih u hmem σ' (lenTs_mem hl.2.2 hmem)
    have hnext : aboveS (1, 1) (ofTs (us.take (i + 1))) = (wr ((aboveS (1, 1) (ofTs (us.take i))).1 + (ofT u).1), max (aboveS (1, 1) (ofTs (us.take i))).2 (wr ((ofT u).2 + 1))) := by
      rw [s1, ofTs_map, ofTs_map, List.map_append]; exact aboveS_app _ _ _
    rcases hr : ofT u with ⟨a, b⟩
    rw [hr] at hnext
    simp only [hr] at hc
    generalize aboveS (1, 1) (ofTs (us.take i)) = A at *
    cases u with
    | mk d2 n2 us2 =>
    simp only [tyV] at hg hc
    (simp only [h, hg, tysV_len, (vmA), Nat.reduceEqDiff, reduceIte, Nat.reduceAdd, Int.reduceToNat, Int.reduceLE, Int.reduceLT, Int.reduceEq, Int.reduceNe, Int.reduceAdd, Int.reduceSub, Int.reduceNeg, Nat.reduceLT, Nat.reduceLeDiff, Nat.reduceBEq, undef, (stA), Nat.reduceMul]; try simp (disch := omega) only [(vmp)])
    refine xWait.go (hc _) ?_
    (simp only [(vmA), Nat.reduceEqDiff, reduceIte, Nat.reduceAdd, Int.reduceToNat, Int.reduceLE, Int.reduceLT, Int.reduceEq, Int.reduceNe, Int.reduceAdd, Int.reduceSub, Int.reduceNeg, Nat.reduceLT, Nat.reduceLeDiff, Nat.reduceBEq, undef, (stA), Nat.reduceMul]; try simp (disch := omega) only [(vmp)])
    refine ⟨(i + 1, junk ++ [.arr 24 [.str d2, .str n2, .sl (tysV us2)] 0 0]), by simp only; omega, by simp only; omega, ?_⟩
    simp only [hnext, wr]
    first | trivial | exact ⟨rfl, rfl⟩
  · have hie : i = us.length := by omega
    subst hie
    (simp only [h, List.take_of_length_le (Nat.le_refl _), (vmA), Nat.reduceEqDiff, reduceIte, Nat.reduceAdd, Int.reduceToNat, Int.reduceLE, Int.reduceLT, Int.reduceEq, Int.reduceNe, Int.reduceAdd, Int.reduceSub, Int.reduceNeg, Nat.reduceLT, Nat.reduceLeDiff, Nat.reduceBEq, undef, (stA), Nat.reduceMul]; try simp (disch := omega) only [(vmp)])
    simp only [ofT]
theorem Measure_ok : ∀ (m : Nat) (t : Tr), SizeOf.sizeOf t ≤ m → MS t
  | 0, .mk d n us, h => by simp at h
  | m + 1, .mk d n us, h => Measure_step d n us fun u hu => Measure_ok m u (by
      have := List.sizeOf_lt_of_mem hu
      simp at h; omega)
theorem letterR_ok (i : Nat) (hi : i < 26) (σ : List Ent) : ACalls E 64 [i64 i] σ fun r τ => r = .str (letA i) ∧ τ = σ := by
  refine xacalls T0 .drop [] Tryz.func64 rfl (by kernel_rfl) (by kernel_rfl) (by simp [Tryz.ntmps64]) ?_
  have hav := u8_byte hi
  have hw : IntKind.u8.wrap (97 + (i : Int)) = 97 + (i : Int) := wrapU8 (by omega) (by omega)
  (simp only [letA, (vmA), Nat.reduceEqDiff, reduceIte, Nat.reduceAdd, Int.reduceToNat, Int.reduceLE, Int.reduceLT, Int.reduceEq, Int.reduceNe, Int.reduceAdd, Int.reduceSub, Int.reduceNeg, Nat.reduceLT, Nat.reduceLeDiff, Nat.reduceBEq, undef, (stA), Nat.reduceMul]; try simp (disch := omega) only [(vmp)])
  (simp only [hav, hw, List.cons_append, List.nil_append, Option.bind_some, Option.map_some, (vmA), Nat.reduceEqDiff, reduceIte, Nat.reduceAdd, Int.reduceToNat, Int.reduceLE, Int.reduceLT, Int.reduceEq, Int.reduceNe, Int.reduceAdd, Int.reduceSub, Int.reduceNeg, Nat.reduceLT, Nat.reduceLeDiff, Nat.reduceBEq, undef, (stA), Nat.reduceMul]; try simp (disch := omega) only [(vmp)])
end Go.D

/- The variables and datatypes of a type, whether it is closed and plain, its depth: by the document. -/
set_option linter.unusedVariables false
set_option linter.unusedSimpArgs false
set_option linter.unnecessarySimpa false
set_option maxRecDepth 100000
namespace Go.D
open Go Go.Vm Go.Proofs Go.RowKit

mutual
/-- The names of one kind, in order. -/
def colT (k : List UInt8) : Tr → List (List UInt8) → List (List UInt8)
  | .mk d n us, acc => if d = k then putS acc n else colTs k us acc
def colTs (k : List UInt8) : List Tr → List (List UInt8) → List (List UInt8)
  | [], acc => acc
  | t :: ts, acc => colTs k ts (colT k t acc)
end
mutual
/-- Whether a name of one kind stands in a type. -/
def hasN (k x : List UInt8) : Tr → Prop
  | .mk d n us => if d = k then x = n else hasNs k x us
def hasNs (k x : List UInt8) : List Tr → Prop
  | [] => False
  | t :: ts => hasN k x t ∨ hasNs k x ts
end
theorem colTs_app (k : List UInt8) : ∀ (a b : List Tr) (acc : List (List UInt8)), colTs k (a ++ b) acc = colTs k b (colTs k a acc)
  | [], b, acc => rfl
  | t :: a, b, acc => by simp only [List.cons_append, colTs]; exact colTs_app k a b _
mutual
theorem col_mem (k x : List UInt8) : ∀ (t : Tr) (acc : List (List UInt8)), x ∈ colT k t acc ↔ hasN k x t ∨ x ∈ acc
  | .mk d n us, acc => by
    unfold colT hasN
    split
    · exact putS_mem
    · exact col_mems k x us acc
theorem col_mems (k x : List UInt8) : ∀ (l : List Tr) (acc : List (List UInt8)), x ∈ colTs k l acc ↔ hasNs k x l ∨ x ∈ acc
  | [], acc => by simp [colTs, hasNs]
  | t :: ts, acc => by
    simp only [colTs, hasNs]
    rw [col_mems k x ts, col_mem k x t, or_left_comm, or_assoc]
end
mutual
theorem col_asc (k : List UInt8) : ∀ (t : Tr) (acc : List (List UInt8)), acc.Pairwise (· < ·) → (colT k t acc).Pairwise (· < ·)
  | .mk d n us, acc, h => by
    unfold colT
    split
    · exact putS_asc h
    · exact col_ascs k us acc h
theorem col_ascs (k : List UInt8) : ∀ (l : List Tr) (acc : List (List UInt8)), acc.Pairwise (· < ·) → (colTs k l acc).Pairwise (· < ·)
  | [], acc, h => h
  | t :: ts, acc, h => by simp only [colTs]; exact col_ascs k ts _ (col_asc k t acc h)
end
mutual
theorem col_len (k : List UInt8) : ∀ (t : Tr) (acc : List (List UInt8)), (colT k t acc).length ≤ acc.length + cntT t
  | .mk d n us, acc => by
    unfold colT
    simp only [cntT]
    split
    · have := putS_len n acc; omega
    · have := col_lens k us acc; omega
theorem col_lens (k : List UInt8) : ∀ (l : List Tr) (acc : List (List UInt8)), (colTs k l acc).length ≤ acc.length + cntTs l
  | [], acc => by simp [colTs]
  | t :: ts, acc => by
    simp only [colTs, cntTs]
    have := col_len k t acc
    have := col_lens k ts (colT k t acc)
    omega
end
theorem cntTs_app2 : ∀ a b : List Tr, cntTs (a ++ b) = cntTs a + cntTs b
  | [], b => by simp [cntTs]
  | t :: a, b => by simp only [List.cons_append, cntTs, cntTs_app2 a b]; omega
def KVars (t : Tr) : Prop := ∀ (acc : List (List UInt8)) (σ : List Ent), okT t → acc.length + cntT t ≤ 2097152 → ACalls E 66 [tyV t, .sl (strsV acc)] σ fun r τ => r = .sl (strsV (colT kiVar t acc)) ∧ τ = σ
set_option maxHeartbeats 4000000 in
theorem vars_step (d n : List UInt8) (us : List Tr) (ih : ∀ u ∈ us, KVars u) : KVars (.mk d n us) := by
  intro acc σ hl hac
  obtain ⟨hfew, hdn⟩ := okT_down d n us hl
  simp only [cntT] at hac
  refine xacalls T0 .freeze [] Tryz.func66 rfl (by kernel_rfl) (by kernel_rfl) (by simp [Tryz.ntmps66]) ?_
  by_cases hd : d = kiVar
  · have t1 : (d = [118, 97, 114]) = True := eq_true hd
    unfold colT
    rw [if_pos hd]
    (simp only [tyV, t1, (vmA), Nat.reduceEqDiff, reduceIte, Nat.reduceAdd, Int.reduceToNat, Int.reduceLE, Int.reduceLT, Int.reduceEq, Int.reduceNe, Int.reduceAdd, Int.reduceSub, Int.reduceNeg, Nat.reduceLT, Nat.reduceLeDiff, Nat.reduceBEq, undef, (stA), Nat.reduceMul]; try simp (disch := omega) only [(vmp)])
    refine xWait.go (PutT_ok acc n (by omega) _) ?_
    (simp only [(vmA), Nat.reduceEqDiff, reduceIte, Nat.reduceAdd, Int.reduceToNat, Int.reduceLE, Int.reduceLT, Int.reduceEq, Int.reduceNe, Int.reduceAdd, Int.reduceSub, Int.reduceNeg, Nat.reduceLT, Nat.reduceLeDiff, Nat.reduceBEq, undef, (stA), Nat.reduceMul]; try simp (disch := omega) only [(vmp)])
    exact ⟨_, .refl _, by simp only [AV.low]; exact strsV_low _ _, rfl⟩
  have n1 : ¬ d = [118, 97, 114] := hd
  unfold colT
  rw [if_neg hd]
  (simp only [tyV, n1, tysV_len, (vmA), Nat.reduceEqDiff, reduceIte, Nat.reduceAdd, Int.reduceToNat, Int.reduceLE, Int.reduceLT, Int.reduceEq, Int.reduceNe, Int.reduceAdd, Int.reduceSub, Int.reduceNeg, Nat.reduceLT, Nat.reduceLeDiff, Nat.reduceBEq, undef, (stA), Nat.reduceMul]; try simp (disch := omega) only [(vmp)])
  refine xloop (α := Nat × List Ent) T0 (fun x => [(1, .sl (strsV (colTs kiVar (us.take x.1) acc))), (15, .sl (tysV us)), (16, i64 us.length), (17, i64 x.1)]) (fun _ => σ)
    (fun x => .arr 24 [.str d, .str n, .sl (tysV us)] 0 0 :: x.2) (fun x => x.1 ≤ us.length) (fun x => us.length - x.1) (by kernel_rfl)
    ⟨(0, []), by simp, by (simp only [List.take_zero, colTs, (vmA), Nat.reduceEqDiff, reduceIte, Nat.reduceAdd, Int.reduceToNat, Int.reduceLE, Int.reduceLT, Int.reduceEq, Int.reduceNe, Int.reduceAdd, Int.reduceSub, Int.reduceNeg, Nat.reduceLT, Nat.reduceLeDiff, Nat.reduceBEq, undef, (stA), Nat.reduceMul, Int.natCast_zero]; try simp (disch := omega) only [(vmp)]), rfl, rfl⟩ ?_
  rintro ⟨i, junk⟩ hi
  simp only at hi
  by_cases h : (i : Int) < us.length
  · have hi' : i < us.length := by omega
    have hu : us[i]? = some us[i] := List.getElem?_eq_getElem hi'
    have hmem : us[i] ∈ us := List.getElem_mem hi'
    obtain ⟨s1, s2⟩ := take_split us i _ hu
    generalize us[i] = u at *
    have hg := tysV_get hu
    have hcs : cntTs (us.take i) + cntT u ≤ cntTs us := by
      have : cntTs us = cntTs (us.take i ++ u :: us.drop (i + 1)) := by rw [← s2]
      rw [this, cntTs_app2]; simp only [cntTs]; omega
    have hln := col_lens kiVar (us.take i) acc
    have hnext : colTs kiVar (us.take (i + 1)) acc = colT kiVar u (colTs kiVar (us.take i) acc) := by rw [s1, colTs_app]; rfl
    have hc := fun σ' => ih u hmem (colTs kiVar (us.take i) acc) σ' (hdn u hmem) (by omega)
    generalize colTs kiVar (us.take i) acc = A at *
    cases u with
    | mk d2 n2 us2 =>
    simp only [tyV] at hg hc
    (simp only [h, hg, tysV_len, (vmA), Nat.reduceEqDiff, reduceIte, Nat.reduceAdd, Int.reduceToNat, Int.reduceLE, Int.reduceLT, Int.reduceEq, Int.reduceNe, Int.reduceAdd, Int.reduceSub, Int.reduceNeg, Nat.reduceLT, Nat.reduceLeDiff, Nat.reduceBEq, undef, (stA), Nat.reduceMul]; try simp (disch := omega) only [(vmp)])
    refine xWait.go (hc _) ?_
    (simp only [(vmA), Nat.reduceEqDiff, reduceIte, Nat.reduceAdd, Int.reduceToNat, Int.reduceLE, Int.reduceLT, Int.reduceEq, Int.reduceNe, Int.reduceAdd, Int.reduceSub, Int.reduceNeg, Nat.reduceLT, Nat.reduceLeDiff, Nat.reduceBEq, undef, (stA), Nat.reduceMul]; try simp (disch := omega) only [(vmp)])
    refine ⟨(i + 1, junk ++ [.arr 24 [.str d2, .str n2, .sl (tysV us2)] 0 0]), by simp only; omega, by simp only; omega, ?_⟩
    simp only [hnext]
    first | trivial | exact ⟨rfl, rfl⟩
  · have hie : i = us.length := by omega
    subst hie
    (simp only [h, List.take_of_length_le (Nat.le_refl _), (vmA), Nat.reduceEqDiff, reduceIte, Nat.reduceAdd, Int.reduceToNat, Int.reduceLE, Int.reduceLT, Int.reduceEq, Int.reduceNe, Int.reduceAdd, Int.reduceSub, Int.reduceNeg, Nat.reduceLT, Nat.reduceLeDiff, Nat.reduceBEq, undef, (stA), Nat.reduceMul]; try simp (disch := omega) only [(vmp)])
    exact ⟨_, .refl _, by simp only [AV.low]; exact strsV_low _ _, rfl⟩
theorem vars_ok2 : ∀ (m : Nat) (t : Tr), SizeOf.sizeOf t ≤ m → KVars t
  | 0, .mk d n us, h => by simp at h
  | m + 1, .mk d n us, h => vars_step d n us fun u hu => vars_ok2 m u (by
      have := List.sizeOf_lt_of_mem hu
      simp at h; omega)
theorem VarsR_ok (t : Tr) (hb : bulkT t ≤ 1048576) (σ : List Ent) : ACalls E 28 [tyV t] σ fun r τ => r = (if validT conB t = true then .tup [.sl (strsV (colT kiVar t [])), i64 0] else .tup [.sl [], i64 40]) ∧ τ = σ := by
  refine xacalls T0 .freeze [] Tryz.func28 rfl (by kernel_rfl) (by kernel_rfl) (by simp [Tryz.ntmps28]) ?_
  have c1 := fun σ' => ValidTypeR_ok t hb σ'
  have hcb := cnt_bulk t
  have c2 : ∀ σ', okT t → ACalls E 66 [tyV t, .v (.slice none 0 0)] σ' fun r τ => r = .sl (strsV (colT kiVar t [])) ∧ τ = σ' := fun σ' ho =>
    ACalls.wk (.cons (.refl _) (.cons .nil .nil)) (vars_ok2 _ t (Nat.le_refl _) [] σ' ho (by simp only [List.length_nil]; omega))
  cases hv : validT conB t
  · simp only [Bool.false_eq_true, if_false]
    rcases t with ⟨d, n, us⟩
    simp only [tyV, hv] at c1
    (simp only [tyV, (vmA), Nat.reduceEqDiff, reduceIte, Nat.reduceAdd, Int.reduceToNat, Int.reduceLE, Int.reduceLT, Int.reduceEq, Int.reduceNe, Int.reduceAdd, Int.reduceSub, Int.reduceNeg, Nat.reduceLT, Nat.reduceLeDiff, Nat.reduceBEq, undef, (stA), Nat.reduceMul]; try simp (disch := omega) only [(vmp)])
    refine xWait.go (c1 _) ?_
    (simp only [(vmA), Nat.reduceEqDiff, reduceIte, Nat.reduceAdd, Int.reduceToNat, Int.reduceLE, Int.reduceLT, Int.reduceEq, Int.reduceNe, Int.reduceAdd, Int.reduceSub, Int.reduceNeg, Nat.reduceLT, Nat.reduceLeDiff, Nat.reduceBEq, undef, (stA), Nat.reduceMul]; try simp (disch := omega) only [(vmp)])
    exact ⟨_, .tup (.cons .none (.cons (.refl _) .nil)), by simp only [AV.low, AV.low.lows, Bool.and_self], rfl⟩
  · have c3 := fun σ' => c2 σ' ⟨bulk_len t hb, valid_typ hv⟩
    generalize colT kiVar t [] = L at *
    simp only [if_true]
    rcases t with ⟨d, n, us⟩
    simp only [tyV, hv] at c1 c3
    (simp only [tyV, (vmA), Nat.reduceEqDiff, reduceIte, Nat.reduceAdd, Int.reduceToNat, Int.reduceLE, Int.reduceLT, Int.reduceEq, Int.reduceNe, Int.reduceAdd, Int.reduceSub, Int.reduceNeg, Nat.reduceLT, Nat.reduceLeDiff, Nat.reduceBEq, undef, (stA), Nat.reduceMul]; try simp (disch := omega) only [(vmp)])
    refine xWait.go (c1 _) ?_
    (simp only [(vmA), Nat.reduceEqDiff, reduceIte, Nat.reduceAdd, Int.reduceToNat, Int.reduceLE, Int.reduceLT, Int.reduceEq, Int.reduceNe, Int.reduceAdd, Int.reduceSub, Int.reduceNeg, Nat.reduceLT, Nat.reduceLeDiff, Nat.reduceBEq, undef, (stA), Nat.reduceMul]; try simp (disch := omega) only [(vmp)])
    refine xWait.go (c3 _) ?_
    (simp only [(vmA), Nat.reduceEqDiff, reduceIte, Nat.reduceAdd, Int.reduceToNat, Int.reduceLE, Int.reduceLT, Int.reduceEq, Int.reduceNe, Int.reduceAdd, Int.reduceSub, Int.reduceNeg, Nat.reduceLT, Nat.reduceLeDiff, Nat.reduceBEq, undef, (stA), Nat.reduceMul]; try simp (disch := omega) only [(vmp)])
    exact ⟨_, .refl _, by simp only [AV.low, AV.low.lows, strsV_low, Bool.and_self], rfl⟩
def KDatas (t : Tr) : Prop := ∀ (acc : List (List UInt8)) (σ : List Ent), okT t → acc.length + cntT t ≤ 2097152 → ACalls E 71 [tyV t, .sl (strsV acc)] σ fun r τ => r = .sl (strsV (colT kiData t acc)) ∧ τ = σ
set_option maxHeartbeats 4000000 in
theorem datas_step (d n : List UInt8) (us : List Tr) (ih : ∀ u ∈ us, KDatas u) : KDatas (.mk d n us) := by
  intro acc σ hl hac
  obtain ⟨hfew, hdn⟩ := okT_down d n us hl
  simp only [cntT] at hac
  refine xacalls T0 .freeze [] Tryz.func71 rfl (by kernel_rfl) (by kernel_rfl) (by simp [Tryz.ntmps71]) ?_
  by_cases hd : d = kiData
  · have t1 : (d = [100, 97, 116, 97]) = True := eq_true hd
    unfold colT
    rw [if_pos hd]
    (simp only [tyV, t1, (vmA), Nat.reduceEqDiff, reduceIte, Nat.reduceAdd, Int.reduceToNat, Int.reduceLE, Int.reduceLT, Int.reduceEq, Int.reduceNe, Int.reduceAdd, Int.reduceSub, Int.reduceNeg, Nat.reduceLT, Nat.reduceLeDiff, Nat.reduceBEq, undef, (stA), Nat.reduceMul]; try simp (disch := omega) only [(vmp)])
    refine xWait.go (PutT_ok acc n (by omega) _) ?_
    (simp only [(vmA), Nat.reduceEqDiff, reduceIte, Nat.reduceAdd, Int.reduceToNat, Int.reduceLE, Int.reduceLT, Int.reduceEq, Int.reduceNe, Int.reduceAdd, Int.reduceSub, Int.reduceNeg, Nat.reduceLT, Nat.reduceLeDiff, Nat.reduceBEq, undef, (stA), Nat.reduceMul]; try simp (disch := omega) only [(vmp)])
    exact ⟨_, .refl _, by simp only [AV.low]; exact strsV_low _ _, rfl⟩
  have n1 : ¬ d = [100, 97, 116, 97] := hd
  unfold colT
  rw [if_neg hd]
  (simp only [tyV, n1, tysV_len, (vmA), Nat.reduceEqDiff, reduceIte, Nat.reduceAdd, Int.reduceToNat, Int.reduceLE, Int.reduceLT, Int.reduceEq, Int.reduceNe, Int.reduceAdd, Int.reduceSub, Int.reduceNeg, Nat.reduceLT, Nat.reduceLeDiff, Nat.reduceBEq, undef, (stA), Nat.reduceMul]; try simp (disch := omega) only [(vmp)])
  refine xloop (α := Nat × List Ent) T0 (fun x => [(1, .sl (strsV (colTs kiData (us.take x.1) acc))), (15, .sl (tysV us)), (16, i64 us.length), (17, i64 x.1)]) (fun _ => σ)
    (fun x => .arr 24 [.str d, .str n, .sl (tysV us)] 0 0 :: x.2) (fun x => x.1 ≤ us.length) (fun x => us.length - x.1) (by kernel_rfl)
    ⟨(0, []), by simp, by (simp only [List.take_zero, colTs, (vmA), Nat.reduceEqDiff, reduceIte, Nat.reduceAdd, Int.reduceToNat, Int.reduceLE, Int.reduceLT, Int.reduceEq, Int.reduceNe, Int.reduceAdd, Int.reduceSub, Int.reduceNeg, Nat.reduceLT, Nat.reduceLeDiff, Nat.reduceBEq, undef, (stA), Nat.reduceMul, Int.natCast_zero]; try simp (disch := omega) only [(vmp)]), rfl, rfl⟩ ?_
  rintro ⟨i, junk⟩ hi
  simp only at hi
  by_cases h : (i : Int) < us.length
  · have hi' : i < us.length := by omega
    have hu : us[i]? = some us[i] := List.getElem?_eq_getElem hi'
    have hmem : us[i] ∈ us := List.getElem_mem hi'
    obtain ⟨s1, s2⟩ := take_split us i _ hu
    generalize us[i] = u at *
    have hg := tysV_get hu
    have hcs : cntTs (us.take i) + cntT u ≤ cntTs us := by
      have : cntTs us = cntTs (us.take i ++ u :: us.drop (i + 1)) := by rw [← s2]
      rw [this, cntTs_app2]; simp only [cntTs]; omega
    have hln := col_lens kiData (us.take i) acc
    have hnext : colTs kiData (us.take (i + 1)) acc = colT kiData u (colTs kiData (us.take i) acc) := by rw [s1, colTs_app]; rfl
    have hc := fun σ' => ih u hmem (colTs kiData (us.take i) acc) σ' (hdn u hmem) (by omega)
    generalize colTs kiData (us.take i) acc = A at *
    cases u with
    | mk d2 n2 us2 =>
    simp only [tyV] at hg hc
    (simp only [h, hg, tysV_len, (vmA), Nat.reduceEqDiff, reduceIte, Nat.reduceAdd, Int.reduceToNat, Int.reduceLE, Int.reduceLT, Int.reduceEq, Int.reduceNe, Int.reduceAdd, Int.reduceSub, Int.reduceNeg, Nat.reduceLT, Nat.reduceLeDiff, Nat.reduceBEq, undef, (stA), Nat.reduceMul]; try simp (disch := omega) only [(vmp)])
    refine xWait.go (hc _) ?_
    (simp only [(vmA), Nat.reduceEqDiff, reduceIte, Nat.reduceAdd, Int.reduceToNat, Int.reduceLE, Int.reduceLT, Int.reduceEq, Int.reduceNe, Int.reduceAdd, Int.reduceSub, Int.reduceNeg, Nat.reduceLT, Nat.reduceLeDiff, Nat.reduceBEq, undef, (stA), Nat.reduceMul]; try simp (disch := omega) only [(vmp)])
    refine ⟨(i + 1, junk ++ [.arr 24 [.str d2, .str n2, .sl (tysV us2)] 0 0]), by simp only; omega, by simp only; omega, ?_⟩
    simp only [hnext]
    first | trivial | exact ⟨rfl, rfl⟩
  · have hie : i = us.length := by omega
    subst hie
    (simp only [h, List.take_of_length_le (Nat.le_refl _), (vmA), Nat.reduceEqDiff, reduceIte, Nat.reduceAdd, Int.reduceToNat, Int.reduceLE, Int.reduceLT, Int.reduceEq, Int.reduceNe, Int.reduceAdd, Int.reduceSub, Int.reduceNeg, Nat.reduceLT, Nat.reduceLeDiff, Nat.reduceBEq, undef, (stA), Nat.reduceMul]; try simp (disch := omega) only [(vmp)])
    exact ⟨_, .refl _, by simp only [AV.low]; exact strsV_low _ _, rfl⟩
theorem datas_ok2 : ∀ (m : Nat) (t : Tr), SizeOf.sizeOf t ≤ m → KDatas t
  | 0, .mk d n us, h => by simp at h
  | m + 1, .mk d n us, h => datas_step d n us fun u hu => datas_ok2 m u (by
      have := List.sizeOf_lt_of_mem hu
      simp at h; omega)
theorem DatasR_ok (t : Tr) (hb : bulkT t ≤ 1048576) (σ : List Ent) : ACalls E 30 [tyV t] σ fun r τ => r = (if validT conB t = true then .tup [.sl (strsV (colT kiData t [])), i64 0] else .tup [.sl [], i64 40]) ∧ τ = σ := by
  refine xacalls T0 .freeze [] Tryz.func30 rfl (by kernel_rfl) (by kernel_rfl) (by simp [Tryz.ntmps30]) ?_
  have c1 := fun σ' => ValidTypeR_ok t hb σ'
  have hcb := cnt_bulk t
  have c2 : ∀ σ', okT t → ACalls E 71 [tyV t, .v (.slice none 0 0)] σ' fun r τ => r = .sl (strsV (colT kiData t [])) ∧ τ = σ' := fun σ' ho =>
    ACalls.wk (.cons (.refl _) (.cons .nil .nil)) (datas_ok2 _ t (Nat.le_refl _) [] σ' ho (by simp only [List.length_nil]; omega))
  cases hv : validT conB t
  · simp only [Bool.false_eq_true, if_false]
    rcases t with ⟨d, n, us⟩
    simp only [tyV, hv] at c1
    (simp only [tyV, (vmA), Nat.reduceEqDiff, reduceIte, Nat.reduceAdd, Int.reduceToNat, Int.reduceLE, Int.reduceLT, Int.reduceEq, Int.reduceNe, Int.reduceAdd, Int.reduceSub, Int.reduceNeg, Nat.reduceLT, Nat.reduceLeDiff, Nat.reduceBEq, undef, (stA), Nat.reduceMul]; try simp (disch := omega) only [(vmp)])
    refine xWait.go (c1 _) ?_
    (simp only [(vmA), Nat.reduceEqDiff, reduceIte, Nat.reduceAdd, Int.reduceToNat, Int.reduceLE, Int.reduceLT, Int.reduceEq, Int.reduceNe, Int.reduceAdd, Int.reduceSub, Int.reduceNeg, Nat.reduceLT, Nat.reduceLeDiff, Nat.reduceBEq, undef, (stA), Nat.reduceMul]; try simp (disch := omega) only [(vmp)])
    exact ⟨_, .tup (.cons .none (.cons (.refl _) .nil)), by simp only [AV.low, AV.low.lows, Bool.and_self], rfl⟩
  · have c3 := fun σ' => c2 σ' ⟨bulk_len t hb, valid_typ hv⟩
    generalize colT kiData t [] = L at *
    simp only [if_true]
    rcases t with ⟨d, n, us⟩
    simp only [tyV, hv] at c1 c3
    (simp only [tyV, (vmA), Nat.reduceEqDiff, reduceIte, Nat.reduceAdd, Int.reduceToNat, Int.reduceLE, Int.reduceLT, Int.reduceEq, Int.reduceNe, Int.reduceAdd, Int.reduceSub, Int.reduceNeg, Nat.reduceLT, Nat.reduceLeDiff, Nat.reduceBEq, undef, (stA), Nat.reduceMul]; try simp (disch := omega) only [(vmp)])
    refine xWait.go (c1 _) ?_
    (simp only [(vmA), Nat.reduceEqDiff, reduceIte, Nat.reduceAdd, Int.reduceToNat, Int.reduceLE, Int.reduceLT, Int.reduceEq, Int.reduceNe, Int.reduceAdd, Int.reduceSub, Int.reduceNeg, Nat.reduceLT, Nat.reduceLeDiff, Nat.reduceBEq, undef, (stA), Nat.reduceMul]; try simp (disch := omega) only [(vmp)])
    refine xWait.go (c3 _) ?_
    (simp only [(vmA), Nat.reduceEqDiff, reduceIte, Nat.reduceAdd, Int.reduceToNat, Int.reduceLE, Int.reduceLT, Int.reduceEq, Int.reduceNe, Int.reduceAdd, Int.reduceSub, Int.reduceNeg, Nat.reduceLT, Nat.reduceLeDiff, Nat.reduceBEq, undef, (stA), Nat.reduceMul]; try simp (disch := omega) only [(vmp)])
    exact ⟨_, .refl _, by simp only [AV.low, AV.low.lows, strsV_low, Bool.and_self], rfl⟩
theorem DepthR_ok (t : Tr) (hb : bulkT t ≤ 1048576) (σ : List Ent) : ACalls E 33 [tyV t] σ fun r τ => r = (if validT conB t = true then .tup [i64 (ofT t).2, i64 0] else .tup [i64 0, i64 40]) ∧ τ = σ := by
  refine xacalls T0 .drop [] Tryz.func33 rfl (by kernel_rfl) (by kernel_rfl) (by simp [Tryz.ntmps33]) ?_
  have c1 := fun σ' => ValidTypeR_ok t hb σ'
  have c2 := fun σ' => Measure_ok _ t (Nat.le_refl _) σ' (bulk_len t hb)
  generalize ofT t = z at *
  cases hv : validT conB t
  · simp only [Bool.false_eq_true, if_false]
    rcases t with ⟨d, n, us⟩
    simp only [tyV, hv] at c1
    (simp only [tyV, (vmA), Nat.reduceEqDiff, reduceIte, Nat.reduceAdd, Int.reduceToNat, Int.reduceLE, Int.reduceLT, Int.reduceEq, Int.reduceNe, Int.reduceAdd, Int.reduceSub, Int.reduceNeg, Nat.reduceLT, Nat.reduceLeDiff, Nat.reduceBEq, undef, (stA), Nat.reduceMul]; try simp (disch := omega) only [(vmp)])
    refine xWait.go (c1 _) ?_
    (simp only [(vmA), Nat.reduceEqDiff, reduceIte, Nat.reduceAdd, Int.reduceToNat, Int.reduceLE, Int.reduceLT, Int.reduceEq, Int.reduceNe, Int.reduceAdd, Int.reduceSub, Int.reduceNeg, Nat.reduceLT, Nat.reduceLeDiff, Nat.reduceBEq, undef, (stA), Nat.reduceMul]; try simp (disch := omega) only [(vmp)])
  · simp only [if_true]
    rcases t with ⟨d, n, us⟩
    simp only [tyV, hv] at c1 c2
    (simp only [tyV, (vmA), Nat.reduceEqDiff, reduceIte, Nat.reduceAdd, Int.reduceToNat, Int.reduceLE, Int.reduceLT, Int.reduceEq, Int.reduceNe, Int.reduceAdd, Int.reduceSub, Int.reduceNeg, Nat.reduceLT, Nat.reduceLeDiff, Nat.reduceBEq, undef, (stA), Nat.reduceMul]; try simp (disch := omega) only [(vmp)])
    refine xWait.go (c1 _) ?_
    (simp only [(vmA), Nat.reduceEqDiff, reduceIte, Nat.reduceAdd, Int.reduceToNat, Int.reduceLE, Int.reduceLT, Int.reduceEq, Int.reduceNe, Int.reduceAdd, Int.reduceSub, Int.reduceNeg, Nat.reduceLT, Nat.reduceLeDiff, Nat.reduceBEq, undef, (stA), Nat.reduceMul]; try simp (disch := omega) only [(vmp)])
    refine xWait.go (c2 _) ?_
    (simp only [(vmA), Nat.reduceEqDiff, reduceIte, Nat.reduceAdd, Int.reduceToNat, Int.reduceLE, Int.reduceLT, Int.reduceEq, Int.reduceNe, Int.reduceAdd, Int.reduceSub, Int.reduceNeg, Nat.reduceLT, Nat.reduceLeDiff, Nat.reduceBEq, undef, (stA), Nat.reduceMul]; try simp (disch := omega) only [(vmp)])
mutual
/-- Whether no type in a type is of some kinds. -/
def noneB (ks : List (List UInt8)) : Tr → Bool
  | .mk d _ us => !decide (d ∈ ks) && noneBs ks us
def noneBs (ks : List (List UInt8)) : List Tr → Bool
  | [] => true
  | t :: ts => noneB ks t && noneBs ks ts
end
theorem noneBs_app (ks : List (List UInt8)) : ∀ a b : List Tr, noneBs ks (a ++ b) = (noneBs ks a && noneBs ks b)
  | [], b => rfl
  | t :: a, b => by simp only [List.cons_append, noneBs, noneBs_app ks a b, Bool.and_assoc]
def kPlain : List (List UInt8) := [kiVar, kiFn, kiArray]
def PL (t : Tr) : Prop := ∀ σ : List Ent, lenT t → ACalls E 76 [tyV t] σ fun r τ => r = boolV (noneB kPlain t) ∧ τ = σ
set_option maxHeartbeats 4000000 in
theorem IsPlain_step (d n : List UInt8) (us : List Tr) (ih : ∀ u ∈ us, PL u) : PL (.mk d n us) := by
  intro σ hl
  simp only [lenT] at hl
  refine xacalls T0 .drop [] Tryz.func76 rfl (by kernel_rfl) (by kernel_rfl) (by simp [Tryz.ntmps76]) ?_
  have hq : noneB kPlain (.mk d n us) = ((!decide (d = kiVar) && (!decide (d = kiFn) && !decide (d = kiArray))) && noneBs kPlain us) := by
    simp only [noneB, kPlain, List.mem_cons, List.not_mem_nil, or_false, Bool.decide_or, Bool.not_or]
  rw [hq]
  (simp only [tyV, tysV_len, (vmA), Nat.reduceEqDiff, reduceIte, Nat.reduceAdd, Int.reduceToNat, Int.reduceLE, Int.reduceLT, Int.reduceEq, Int.reduceNe, Int.reduceAdd, Int.reduceSub, Int.reduceNeg, Nat.reduceLT, Nat.reduceLeDiff, Nat.reduceBEq, undef, (stA), Nat.reduceMul]; try simp (disch := omega) only [(vmp)])
  refine xloop (α := Nat × List Ent) T0 (fun x => [(1, .ref σ.length 0 0), (6, .sl (tysV us)), (7, i64 us.length), (8, i64 x.1)]) (fun _ => σ)
    (fun x => .arr 24 [.str d, .str n, .sl (tysV us)] 0 0 :: x.2) (fun x => x.1 ≤ us.length ∧ noneBs kPlain (us.take x.1) = true) (fun x => us.length - x.1) (by kernel_rfl)
    ⟨(0, []), ⟨by simp, rfl⟩, by (simp only [(vmA), Nat.reduceEqDiff, reduceIte, Nat.reduceAdd, Int.reduceToNat, Int.reduceLE, Int.reduceLT, Int.reduceEq, Int.reduceNe, Int.reduceAdd, Int.reduceSub, Int.reduceNeg, Nat.reduceLT, Nat.reduceLeDiff, Nat.reduceBEq, undef, (stA), Nat.reduceMul, Int.natCast_zero]; try simp (disch := omega) only [(vmp)]), rfl, rfl⟩ ?_
  rintro ⟨i, junk⟩ ⟨hi, hall⟩
  simp only at hi hall
  by_cases h : (i : Int) < us.length
  · have hi' : i < us.length := by omega
    have hu : us[i]? = some us[i] := List.getElem?_eq_getElem hi'
    have hmem : us[i] ∈ us := List.getElem_mem hi'
    obtain ⟨s1, s2⟩ := take_split us i _ hu
    generalize us[i] = u at *
    have hg := tysV_get hu
    have hc := fun σ' => ih u hmem σ' (lenTs_mem hl.2.2 hmem)
    have hnext : noneBs kPlain (us.take (i + 1)) = noneB kPlain u := by rw [s1, noneBs_app, hall]; simp [noneBs]
    have hbad : noneB kPlain u = false → noneBs kPlain us = false := fun e => by rw [s2, noneBs_app]; simp only [noneBs, e, Bool.false_and, Bool.and_false]
    cases hb : noneB kPlain u
    · rw [hbad hb, Bool.and_false]
      simp only [hb] at hc
      rcases u with ⟨d2, n2, us2⟩
      simp only [tyV] at hg hc
      (simp only [h, hg, tysV_len, (vmA), Nat.reduceEqDiff, reduceIte, Nat.reduceAdd, Int.reduceToNat, Int.reduceLE, Int.reduceLT, Int.reduceEq, Int.reduceNe, Int.reduceAdd, Int.reduceSub, Int.reduceNeg, Nat.reduceLT, Nat.reduceLeDiff, Nat.reduceBEq, undef, (stA), Nat.reduceMul]; try simp (disch := omega) only [(vmp)])
      refine xWait.go (hc _) ?_
      (simp only [(vmA), Nat.reduceEqDiff, reduceIte, Nat.reduceAdd, Int.reduceToNat, Int.reduceLE, Int.reduceLT, Int.reduceEq, Int.reduceNe, Int.reduceAdd, Int.reduceSub, Int.reduceNeg, Nat.reduceLT, Nat.reduceLeDiff, Nat.reduceBEq, undef, (stA), Nat.reduceMul]; try simp (disch := omega) only [(vmp)])
    · rw [hb] at hnext
      simp only [hb] at hc
      rcases u with ⟨d2, n2, us2⟩
      simp only [tyV] at hg hc
      (simp only [h, hg, tysV_len, (vmA), Nat.reduceEqDiff, reduceIte, Nat.reduceAdd, Int.reduceToNat, Int.reduceLE, Int.reduceLT, Int.reduceEq, Int.reduceNe, Int.reduceAdd, Int.reduceSub, Int.reduceNeg, Nat.reduceLT, Nat.reduceLeDiff, Nat.reduceBEq, undef, (stA), Nat.reduceMul]; try simp (disch := omega) only [(vmp)])
      refine xWait.go (hc _) ?_
      (simp only [(vmA), Nat.reduceEqDiff, reduceIte, Nat.reduceAdd, Int.reduceToNat, Int.reduceLE, Int.reduceLT, Int.reduceEq, Int.reduceNe, Int.reduceAdd, Int.reduceSub, Int.reduceNeg, Nat.reduceLT, Nat.reduceLeDiff, Nat.reduceBEq, undef, (stA), Nat.reduceMul]; try simp (disch := omega) only [(vmp)])
      exact ⟨(i + 1, junk ++ [.arr 24 [.str d2, .str n2, .sl (tysV us2)] 0 0]), ⟨by simp only; omega, hnext⟩, by simp only; omega, rfl, rfl⟩
  · have hie : i = us.length := by omega
    subst hie
    rw [List.take_of_length_le (Nat.le_refl _)] at hall
    rw [hall, Bool.and_true]
    by_cases h1 : d = kiVar
    · have t1 : (d = [118, 97, 114]) = True := eq_true h1
      (simp only [h, t1, (vmA), Nat.reduceEqDiff, reduceIte, Nat.reduceAdd, Int.reduceToNat, Int.reduceLE, Int.reduceLT, Int.reduceEq, Int.reduceNe, Int.reduceAdd, Int.reduceSub, Int.reduceNeg, Nat.reduceLT, Nat.reduceLeDiff, Nat.reduceBEq, undef, (stA), Nat.reduceMul]; try simp (disch := omega) only [(vmp)])
    have n1 : ¬ d = [118, 97, 114] := h1
    by_cases h2 : d = kiFn
    · have t2 : (d = [102, 110]) = True := eq_true h2
      (simp only [h, n1, t2, (vmA), Nat.reduceEqDiff, reduceIte, Nat.reduceAdd, Int.reduceToNat, Int.reduceLE, Int.reduceLT, Int.reduceEq, Int.reduceNe, Int.reduceAdd, Int.reduceSub, Int.reduceNeg, Nat.reduceLT, Nat.reduceLeDiff, Nat.reduceBEq, undef, (stA), Nat.reduceMul]; try simp (disch := omega) only [(vmp)])
    have n2 : ¬ d = [102, 110] := h2
    (simp only [h, n1, n2, (vmA), Nat.reduceEqDiff, reduceIte, Nat.reduceAdd, Int.reduceToNat, Int.reduceLE, Int.reduceLT, Int.reduceEq, Int.reduceNe, Int.reduceAdd, Int.reduceSub, Int.reduceNeg, Nat.reduceLT, Nat.reduceLeDiff, Nat.reduceBEq, undef, (stA), Nat.reduceMul]; try simp (disch := omega) only [(vmp)])
theorem IsPlain_ok : ∀ (m : Nat) (t : Tr), SizeOf.sizeOf t ≤ m → PL t
  | 0, .mk d n us, h => by simp at h
  | m + 1, .mk d n us, h => IsPlain_step d n us fun u hu => IsPlain_ok m u (by
      have := List.sizeOf_lt_of_mem hu
      simp at h; omega)
theorem PlainR_ok (t : Tr) (hb : bulkT t ≤ 1048576) (σ : List Ent) : ACalls E 38 [tyV t] σ fun r τ => r = (if validT conB t = true then .tup [boolV (noneB kPlain t), i64 0] else .tup [boolV false, i64 40]) ∧ τ = σ := by
  refine xacalls T0 .drop [] Tryz.func38 rfl (by kernel_rfl) (by kernel_rfl) (by simp [Tryz.ntmps38]) ?_
  have c1 := fun σ' => ValidTypeR_ok t hb σ'
  have c2 := fun σ' => IsPlain_ok _ t (Nat.le_refl _) σ' (bulk_len t hb)
  generalize noneB kPlain t = z at *
  cases hv : validT conB t
  · simp only [Bool.false_eq_true, if_false]
    rcases t with ⟨d, n, us⟩
    simp only [tyV, hv] at c1
    (simp only [tyV, (vmA), Nat.reduceEqDiff, reduceIte, Nat.reduceAdd, Int.reduceToNat, Int.reduceLE, Int.reduceLT, Int.reduceEq, Int.reduceNe, Int.reduceAdd, Int.reduceSub, Int.reduceNeg, Nat.reduceLT, Nat.reduceLeDiff, Nat.reduceBEq, undef, (stA), Nat.reduceMul]; try simp (disch := omega) only [(vmp)])
    refine xWait.go (c1 _) ?_
    (simp only [(vmA), Nat.reduceEqDiff, reduceIte, Nat.reduceAdd, Int.reduceToNat, Int.reduceLE, Int.reduceLT, Int.reduceEq, Int.reduceNe, Int.reduceAdd, Int.reduceSub, Int.reduceNeg, Nat.reduceLT, Nat.reduceLeDiff, Nat.reduceBEq, undef, (stA), Nat.reduceMul]; try simp (disch := omega) only [(vmp)])
  · simp only [if_true]
    rcases t with ⟨d, n, us⟩
    simp only [tyV, hv] at c1 c2
    (simp only [tyV, (vmA), Nat.reduceEqDiff, reduceIte, Nat.reduceAdd, Int.reduceToNat, Int.reduceLE, Int.reduceLT, Int.reduceEq, Int.reduceNe, Int.reduceAdd, Int.reduceSub, Int.reduceNeg, Nat.reduceLT, Nat.reduceLeDiff, Nat.reduceBEq, undef, (stA), Nat.reduceMul]; try simp (disch := omega) only [(vmp)])
    refine xWait.go (c1 _) ?_
    (simp only [(vmA), Nat.reduceEqDiff, reduceIte, Nat.reduceAdd, Int.reduceToNat, Int.reduceLE, Int.reduceLT, Int.reduceEq, Int.reduceNe, Int.reduceAdd, Int.reduceSub, Int.reduceNeg, Nat.reduceLT, Nat.reduceLeDiff, Nat.reduceBEq, undef, (stA), Nat.reduceMul]; try simp (disch := omega) only [(vmp)])
    refine xWait.go (c2 _) ?_
    (simp only [(vmA), Nat.reduceEqDiff, reduceIte, Nat.reduceAdd, Int.reduceToNat, Int.reduceLE, Int.reduceLT, Int.reduceEq, Int.reduceNe, Int.reduceAdd, Int.reduceSub, Int.reduceNeg, Nat.reduceLT, Nat.reduceLeDiff, Nat.reduceBEq, undef, (stA), Nat.reduceMul]; try simp (disch := omega) only [(vmp)])
mutual
theorem none_var : ∀ t : Tr, typeB conB t = true → (noneB [kiVar] t = true ↔ ∀ x, ¬ hasN kiVar x t)
  | .mk d n us, h => by
    simp only [noneB, hasN, List.mem_singleton]
    by_cases hd : d = kiVar
    · simp only [hd, decide_true, Bool.not_true, Bool.false_and, if_true]
      exact ⟨fun h => (by cases h), fun h => absurd rfl (h n)⟩
    · simp only [typeB, Bool.and_eq_true] at h
      simp only [hd, decide_false, Bool.not_false, Bool.true_and, if_false]
      exact none_vars us h.2.2.2.2
theorem none_vars : ∀ l : List Tr, typeBs conB l = true → (noneBs [kiVar] l = true ↔ ∀ x, ¬ hasNs kiVar x l)
  | [], _ => by simp [noneBs, hasNs]
  | t :: ts, h => by
    simp only [typeBs, Bool.and_eq_true] at h
    simp only [noneBs, hasNs, Bool.and_eq_true, none_var t h.1, none_vars ts h.2, not_or]
    exact ⟨fun h x => ⟨h.1 x, h.2 x⟩, fun h => ⟨fun x => (h x).1, fun x => (h x).2⟩⟩
end
theorem none_col {t : Tr} (h : typeB conB t = true) : noneB [kiVar] t = decide ((colT kiVar t []).length = 0) := by
  rw [Bool.eq_iff_iff, none_var t h, decide_eq_true_eq]
  constructor
  · intro hh
    rcases hc : colT kiVar t [] with _ | ⟨a, r⟩
    · rfl
    · have := (col_mem kiVar a t []).1 (by rw [hc]; simp)
      rcases this with h1 | h1
      · exact absurd h1 (hh a)
      · cases h1
  · intro hh x hx
    have := (col_mem kiVar x t []).2 (.inl hx)
    rw [List.length_eq_zero_iff.1 hh] at this; cases this
theorem ClosedR_ok (t : Tr) (hb : bulkT t ≤ 1048576) (σ : List Ent) : ACalls E 36 [tyV t] σ fun r τ => r = (if validT conB t = true then .tup [boolV (noneB [kiVar] t), i64 0] else .tup [boolV false, i64 40]) ∧ τ = σ := by
  refine xacalls T0 .drop [] Tryz.func36 rfl (by kernel_rfl) (by kernel_rfl) (by simp [Tryz.ntmps36]) ?_
  have c1 := fun σ' => VarsR_ok t hb σ'
  have hln := col_len kiVar t []
  have hcb := cnt_bulk t
  have hnc := fun h => none_col (t := t) h
  simp only [List.length_nil] at hln
  cases hv : validT conB t
  · simp only [hv, Bool.false_eq_true, if_false] at c1
    simp only [Bool.false_eq_true, if_false]
    rcases t with ⟨d, n, us⟩
    simp only [tyV] at c1
    (simp only [tyV, (vmA), Nat.reduceEqDiff, reduceIte, Nat.reduceAdd, Int.reduceToNat, Int.reduceLE, Int.reduceLT, Int.reduceEq, Int.reduceNe, Int.reduceAdd, Int.reduceSub, Int.reduceNeg, Nat.reduceLT, Nat.reduceLeDiff, Nat.reduceBEq, undef, (stA), Nat.reduceMul]; try simp (disch := omega) only [(vmp)])
    refine xWait.go (c1 _) ?_
    (simp only [(vmA), Nat.reduceEqDiff, reduceIte, Nat.reduceAdd, Int.reduceToNat, Int.reduceLE, Int.reduceLT, Int.reduceEq, Int.reduceNe, Int.reduceAdd, Int.reduceSub, Int.reduceNeg, Nat.reduceLT, Nat.reduceLeDiff, Nat.reduceBEq, undef, (stA), Nat.reduceMul]; try simp (disch := omega) only [(vmp)])
  · simp only [hv, if_true] at c1
    simp only [if_true]
    rw [hnc (valid_typ hv)]
    generalize colT kiVar t [] = L at *
    rcases t with ⟨d, n, us⟩
    simp only [tyV] at c1
    (simp only [tyV, (vmA), Nat.reduceEqDiff, reduceIte, Nat.reduceAdd, Int.reduceToNat, Int.reduceLE, Int.reduceLT, Int.reduceEq, Int.reduceNe, Int.reduceAdd, Int.reduceSub, Int.reduceNeg, Nat.reduceLT, Nat.reduceLeDiff, Nat.reduceBEq, undef, (stA), Nat.reduceMul]; try simp (disch := omega) only [(vmp)])
    refine xWait.go (c1 _) ?_
    have : ((L.length : Int) = 0) = (L.length = 0) := propext (by omega)
    (simp only [strsV_len, this, (vmA), Nat.reduceEqDiff, reduceIte, Nat.reduceAdd, Int.reduceToNat, Int.reduceLE, Int.reduceLT, Int.reduceEq, Int.reduceNe, Int.reduceAdd, Int.reduceSub, Int.reduceNeg, Nat.reduceLT, Nat.reduceLeDiff, Nat.reduceBEq, undef, (stA), Nat.reduceMul]; try simp (disch := omega) only [(vmp)])
end Go.D

/- The canonical type. -/
set_option linter.unusedVariables false
set_option linter.unusedSimpArgs false
set_option linter.unnecessarySimpa false
set_option maxRecDepth 100000
namespace Go.D
open Go Go.Vm Go.Proofs Go.RowKit

/-- The first variables in place of others. -/
def letS : Nat → List (List UInt8) → Sub'
  | _, [] => []
  | i, n :: r => (n, .mk kiVar (letA i) []) :: letS (i + 1) r
def mapN (s : Sub') : Ent := .map (mEntsN true 0 s) s.length
def canT (t : Tr) : Tr := putT (letS 0 (ordT t [])) t
def canR (t : Tr) : Tr × Int := if validT conB t = true then (canT t, 0) else (.mk [] [] [], 40)
theorem letS_app : ∀ (i : Nat) (l : List (List UInt8)) (n : List UInt8), letS i (l ++ [n]) = letS i l ++ [(n, .mk kiVar (letA (i + l.length)) [])]
  | i, [], n => by simp [letS]
  | i, a :: l, n => by
    have : i + 1 + l.length = i + (l.length + 1) := by omega
    simp only [List.cons_append, letS, letS_app (i + 1) l n, List.length_cons, this]
theorem letS_look : ∀ (i : Nat) (l : List (List UInt8)) (n : List UInt8), n ∉ l → Sub'.look (letS i l) n = none
  | i, [], n, _ => rfl
  | i, a :: l, n, h => by
    simp only [letS, Sub'.look]
    rw [if_neg (fun hh => h (by simp [hh]))]
    exact letS_look (i + 1) l n (fun hh => h (by simp [hh]))
theorem letS_len : ∀ (i : Nat) (l : List (List UInt8)), (letS i l).length = l.length
  | i, [] => rfl
  | i, a :: l => by simp [letS, letS_len (i + 1) l]
set_option maxHeartbeats 4000000 in
theorem Canonical_ok (t : Tr) (hl : lenT t) (hcl : ∀ σ', okT t → ACalls E 47 [tyV (canT t)] σ' fun r τ => r = tyV (canT t) ∧ τ = σ') (σ : List Ent) :
    ACalls E 22 [tyV t] σ fun r τ => r = .tup [tyV (canR t).1, i64 (canR t).2] ∧ τ = σ := by
  refine xacalls T0 .freeze [] Tryz.func22 rfl (by kernel_rfl) (by kernel_rfl) (by simp [Tryz.ntmps22]) ?_
  have h1 := fun σ' => ValidType_ok t hl σ'
  unfold canR
  cases hv : validT conB t
  · simp only [Bool.false_eq_true, if_false]
    cases t with
    | mk d n us =>
    simp only [tyV, hv] at h1
    (simp only [tyV, tysV, (vmA), Nat.reduceEqDiff, reduceIte, Nat.reduceAdd, Int.reduceToNat, Int.reduceLE, Int.reduceLT, Int.reduceEq, Int.reduceNe, Int.reduceAdd, Int.reduceSub, Int.reduceNeg, Nat.reduceLT, Nat.reduceLeDiff, Nat.reduceBEq, undef, (stA), Nat.reduceMul]; try simp (disch := omega) only [(vmp)])
    refine xWait.go (h1 _) ?_
    (simp only [(vmA), Nat.reduceEqDiff, reduceIte, Nat.reduceAdd, Int.reduceToNat, Int.reduceLE, Int.reduceLT, Int.reduceEq, Int.reduceNe, Int.reduceAdd, Int.reduceSub, Int.reduceNeg, Nat.reduceLT, Nat.reduceLeDiff, Nat.reduceBEq, undef, (stA), Nat.reduceMul]; try simp (disch := omega) only [(vmp)])
    exact ⟨_, .tup (.cons (.agg (.cons (.refl _) (.cons (.refl _) (.cons .none .nil)))) (.cons (.refl _) .nil)), by simp only [AV.low, AV.low.lows, Bool.and_self], rfl⟩
  · have ok : okT t := ⟨hl, by unfold validT at hv; simp only [Bool.and_eq_true] at hv; exact hv.1⟩
    simp only [if_true]
    have h2 := fun σ' => order_ok t ok σ'
    have h3 := fun s σ' m hm => put_ok _ t (Nat.le_refl _) true s σ' m ok hm
    have h4 := fun σ' => hcl σ' ok
    unfold canT at h4 ⊢
    generalize hns : ordT t [] = names at *
    rcases hcn : putT (letS 0 names) t with ⟨d3, n3, us3⟩
    rw [hcn] at h4
    cases t with
    | mk d n us =>
    simp only [tyV, hv] at h1 h2 h4 h3
    (simp only [tyV, (vmA), Nat.reduceEqDiff, reduceIte, Nat.reduceAdd, Int.reduceToNat, Int.reduceLE, Int.reduceLT, Int.reduceEq, Int.reduceNe, Int.reduceAdd, Int.reduceSub, Int.reduceNeg, Nat.reduceLT, Nat.reduceLeDiff, Nat.reduceBEq, undef, (stA), Nat.reduceMul]; try simp (disch := omega) only [(vmp)])
    refine xWait.go (h1 _) ?_
    (simp only [(vmA), Nat.reduceEqDiff, reduceIte, Nat.reduceAdd, Int.reduceToNat, Int.reduceLE, Int.reduceLT, Int.reduceEq, Int.reduceNe, Int.reduceAdd, Int.reduceSub, Int.reduceNeg, Nat.reduceLT, Nat.reduceLeDiff, Nat.reduceBEq, undef, (stA), Nat.reduceMul]; try simp (disch := omega) only [(vmp)])
    refine xWait.of (h2 _) ?_
    rintro r τ ⟨w, L, rfl, rfl, hrow, hnd, hvb⟩
    have hfew := vars_few hnd hvb
    rw [List.append_assoc] at hrow ⊢
    rw [List.take_left, List.drop_left]
    have hlk : ∀ i u, names[i]? = some u → Sub'.look (letS 0 (names.take i)) u = none := fun i u hu => letS_look 0 _ u fun hh => by
      obtain ⟨s1, s2⟩ : names.take (i + 1) = names.take i ++ [u] ∧ True := ⟨by rw [List.take_add_one, hu]; rfl, trivial⟩
      have hsub : (names.take (i + 1)).Nodup := hnd.sublist (List.take_sublist _ _)
      rw [s1, List.nodup_append] at hsub
      exact hsub.2.2 u hh u (by simp) rfl
    have hrow' : names ≠ [] → ∃ w0, w = σ.length + (w0 + 3) ∧ L[w0]? = some (.arr 9 (strsV names) (names.length - 1) 0) := fun hne => by
      obtain ⟨q1, q2⟩ := hrow hne
      simp only [List.length_append, List.length_cons, List.length_nil] at q1
      refine ⟨w - σ.length - 3, by omega, ?_⟩
      rw [List.getElem?_append_right (by omega), List.getElem?_append_right (by simp; omega)] at q2
      simpa using q2
    have hlen : (rowN w names) = rowN w names := rfl
    rcases names with _ | ⟨a0, ar⟩
    · (simp only [rowN, List.cons_append, List.nil_append, (vmA), Nat.reduceEqDiff, reduceIte, Nat.reduceAdd, Int.reduceToNat, Int.reduceLE, Int.reduceLT, Int.reduceEq, Int.reduceNe, Int.reduceAdd, Int.reduceSub, Int.reduceNeg, Nat.reduceLT, Nat.reduceLeDiff, Nat.reduceBEq, undef, (stA), Nat.reduceMul]; try simp (disch := omega) only [(vmp)])
      refine xloop (α := Nat) T0 (fun i => [(1, .ref σ.length 0 0), (2, .ref (σ.length + 1) 0 0), (4, .mp (σ.length + 2)), (14, i64 0), (15, i64 0)]) (fun _ => σ) (fun _ => .arr 24 [.str d, .str n, .sl (tysV us)] 0 0 :: .arr 24 [.str [], .str [], .v (.slice none 0 0)] 0 0 :: .map [] 0 :: L) (fun i => i = 0) (fun i => i) (by kernel_rfl)
        ⟨0, rfl, by (simp only [(vmA), Nat.reduceEqDiff, reduceIte, Nat.reduceAdd, Int.reduceToNat, Int.reduceLE, Int.reduceLT, Int.reduceEq, Int.reduceNe, Int.reduceAdd, Int.reduceSub, Int.reduceNeg, Nat.reduceLT, Nat.reduceLeDiff, Nat.reduceBEq, undef, (stA), Nat.reduceMul]; try simp (disch := omega) only [(vmp)]), rfl, rfl⟩ ?_
      rintro i hi
      (simp only [(vmA), Nat.reduceEqDiff, reduceIte, Nat.reduceAdd, Int.reduceToNat, Int.reduceLE, Int.reduceLT, Int.reduceEq, Int.reduceNe, Int.reduceAdd, Int.reduceSub, Int.reduceNeg, Nat.reduceLT, Nat.reduceLeDiff, Nat.reduceBEq, undef, (stA), Nat.reduceMul]; try simp (disch := omega) only [(vmp)])
      have h5 := h3 [] (σ ++ .arr 24 [.str d, .str n, .sl (tysV us)] 0 0 :: .arr 24 [.str [], .str [], .v (.slice none 0 0)] 0 0 :: .map [] 0 :: L) (σ.length + 2) (by rw [List.getElem?_append_right (by omega), Nat.add_sub_cancel_left]; rfl)
      simp only [letS] at hcn
      rw [hcn] at h5
      simp only [tyV] at h5
      refine xWait.go h5 ?_
      (simp only [(vmA), Nat.reduceEqDiff, reduceIte, Nat.reduceAdd, Int.reduceToNat, Int.reduceLE, Int.reduceLT, Int.reduceEq, Int.reduceNe, Int.reduceAdd, Int.reduceSub, Int.reduceNeg, Nat.reduceLT, Nat.reduceLeDiff, Nat.reduceBEq, undef, (stA), Nat.reduceMul]; try simp (disch := omega) only [(vmp)])
      refine xWait.go (h4 _) ?_
      (simp only [(vmA), Nat.reduceEqDiff, reduceIte, Nat.reduceAdd, Int.reduceToNat, Int.reduceLE, Int.reduceLT, Int.reduceEq, Int.reduceNe, Int.reduceAdd, Int.reduceSub, Int.reduceNeg, Nat.reduceLT, Nat.reduceLeDiff, Nat.reduceBEq, undef, (stA), Nat.reduceMul]; try simp (disch := omega) only [(vmp)])
      exact ⟨_, .refl _, by simp only [AV.low, AV.low.lows, tysV_low, Bool.and_self], rfl⟩
    · obtain ⟨w0, rfl, hw0⟩ := hrow' (by simp)
      (simp only [rowN, List.cons_append, List.nil_append, (vmA), Nat.reduceEqDiff, reduceIte, Nat.reduceAdd, Int.reduceToNat, Int.reduceLE, Int.reduceLT, Int.reduceEq, Int.reduceNe, Int.reduceAdd, Int.reduceSub, Int.reduceNeg, Nat.reduceLT, Nat.reduceLeDiff, Nat.reduceBEq, undef, (stA), Nat.reduceMul]; try simp (disch := omega) only [(vmp)])
      simp only [List.length_cons] at hw0 hfew
      refine xloop (α := Nat) T0 (fun i => [(1, .ref σ.length 0 0), (2, .ref (σ.length + 1) 0 0), (4, .mp (σ.length + 2)), (13, .rsl (σ.length + (w0 + 3)) ar.length 0 (ar.length + 1) 1), (14, i64 (ar.length + 1 : Nat)), (15, i64 i)]) (fun _ => σ) (fun i => .arr 24 [.str d, .str n, .sl (tysV us)] 0 0 :: .arr 24 [.str [], .str [], .v (.slice none 0 0)] 0 0 :: mapN (letS 0 ((a0 :: ar).take i)) :: L) (fun i => i ≤ ar.length + 1) (fun i => ar.length + 1 - i) (by kernel_rfl)
        ⟨0, by omega, by (simp only [(vmA), Nat.reduceEqDiff, reduceIte, Nat.reduceAdd, Int.reduceToNat, Int.reduceLE, Int.reduceLT, Int.reduceEq, Int.reduceNe, Int.reduceAdd, Int.reduceSub, Int.reduceNeg, Nat.reduceLT, Nat.reduceLeDiff, Nat.reduceBEq, undef, (stA), Nat.reduceMul, Int.natCast_zero]; try simp (disch := omega) only [(vmp)]), rfl, rfl⟩ ?_
      rintro i hi
      by_cases h : (i : Int) < (ar.length + 1 : Nat)
      · have hi' : i < (a0 :: ar).length := by simp only [List.length_cons]; omega
        have hu : (a0 :: ar)[i]? = some (a0 :: ar)[i] := List.getElem?_eq_getElem hi'
        have hst : (strsV (a0 :: ar))[i]? = some (.str (a0 :: ar)[i]) := strsV_get hi'
        have hln := hlk i _ hu
        have hnx : letS 0 ((a0 :: ar).take (i + 1)) = letS 0 ((a0 :: ar).take i) ++ [((a0 :: ar)[i], .mk kiVar (letA i) [])] := by
          rw [List.take_add_one, hu]
          show letS 0 ((a0 :: ar).take i ++ [(a0 :: ar)[i]]) = _
          rw [letS_app, List.length_take, Nat.min_eq_left (by omega), Nat.zero_add]
        generalize (a0 :: ar)[i] = u at *
        have hslen : (letS 0 ((a0 :: ar).take i)).length = i := by rw [letS_len, List.length_take]; omega
        generalize hss : letS 0 ((a0 :: ar).take i) = ss at *
        have hput := mputN true u (.mk kiVar (letA i) []) 0 ss hln
        simp only [tyN, argV, if_true, Nat.zero_add] at hput
        have hb : IntKind.u8.wrap (97 + (i : Int)) = ((97 + i).toUInt8.toNat : Int) := by
          have h1 : ((97 + i).toUInt8).toNat = 97 + i := by
            show (UInt8.ofNat (97 + i)).toNat = 97 + i
            rw [UInt8.toNat_ofNat']
            exact Nat.mod_eq_of_lt (by omega)
          rw [h1]; exact (wrapU8 (by omega) (by omega)).trans (by omega)
        have hav : avBytes [.v (.int .u8 (IntKind.u8.wrap (97 + (i : Int))))] = some [(97 + i).toUInt8] := by
          rw [hb]; simp only [avBytes, avByte_of, Option.bind_some, Option.map_some]
        (simp only [mapN, h, hw0, hst, mgetN, hln, Option.map_none, Option.isSome_none, Bool.false_eq_true, if_false, hav, Option.bind_some, Option.map_some, (vmA), Nat.reduceEqDiff, reduceIte, Nat.reduceAdd, Int.reduceToNat, Int.reduceLE, Int.reduceLT, Int.reduceEq, Int.reduceNe, Int.reduceAdd, Int.reduceSub, Int.reduceNeg, Nat.reduceLT, Nat.reduceLeDiff, Nat.reduceBEq, undef, (stA), Nat.reduceMul]; try simp (disch := omega) only [(vmp)])
        refine ⟨by omega, ?_⟩
        rw [hav]
        simp only [letA] at hput hnx
        (simp only [Option.map_some, Option.bind_some, hput, mgetN, hln, Option.map_none, Option.isSome_none, Bool.false_eq_true, if_false, List.cons_append, List.nil_append, (vmA), Nat.reduceEqDiff, reduceIte, Nat.reduceAdd, Int.reduceToNat, Int.reduceLE, Int.reduceLT, Int.reduceEq, Int.reduceNe, Int.reduceAdd, Int.reduceSub, Int.reduceNeg, Nat.reduceLT, Nat.reduceLeDiff, Nat.reduceBEq, undef, (stA), Nat.reduceMul]; try simp (disch := omega) only [(vmp)])
        refine ⟨⟨rfl, fun e he => keysN true tab _ _ 0 ss e he⟩, i + 1, by omega, by omega, rfl, ?_⟩
        rw [hnx, List.length_append]
        rfl
      · have hie : i = ar.length + 1 := by omega
        subst hie
        have htk : (a0 :: ar).take (ar.length + 1) = a0 :: ar := List.take_of_length_le (by simp)
        (simp only [h, htk, (vmA), Nat.reduceEqDiff, reduceIte, Nat.reduceAdd, Int.reduceToNat, Int.reduceLE, Int.reduceLT, Int.reduceEq, Int.reduceNe, Int.reduceAdd, Int.reduceSub, Int.reduceNeg, Nat.reduceLT, Nat.reduceLeDiff, Nat.reduceBEq, undef, (stA), Nat.reduceMul]; try simp (disch := omega) only [(vmp)])
        have h5 := h3 (letS 0 (a0 :: ar)) (σ ++ .arr 24 [.str d, .str n, .sl (tysV us)] 0 0 :: .arr 24 [.str [], .str [], .v (.slice none 0 0)] 0 0 :: mapN (letS 0 (a0 :: ar)) :: L) (σ.length + 2) (by rw [List.getElem?_append_right (by omega), Nat.add_sub_cancel_left]; rfl)
        rw [hcn] at h5
        simp only [tyV] at h5
        refine xWait.go h5 ?_
        (simp only [(vmA), Nat.reduceEqDiff, reduceIte, Nat.reduceAdd, Int.reduceToNat, Int.reduceLE, Int.reduceLT, Int.reduceEq, Int.reduceNe, Int.reduceAdd, Int.reduceSub, Int.reduceNeg, Nat.reduceLT, Nat.reduceLeDiff, Nat.reduceBEq, undef, (stA), Nat.reduceMul]; try simp (disch := omega) only [(vmp)])
        refine xWait.go (h4 _) ?_
        (simp only [(vmA), Nat.reduceEqDiff, reduceIte, Nat.reduceAdd, Int.reduceToNat, Int.reduceLE, Int.reduceLT, Int.reduceEq, Int.reduceNe, Int.reduceAdd, Int.reduceSub, Int.reduceNeg, Nat.reduceLT, Nat.reduceLeDiff, Nat.reduceBEq, undef, (stA), Nat.reduceMul]; try simp (disch := omega) only [(vmp)])
        exact ⟨_, .refl _, by simp only [AV.low, AV.low.lows, tysV_low, Bool.and_self], rfl⟩
end Go.D
