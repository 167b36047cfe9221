/- Whether types are the same, by the document; the canonical type. -/
import Derived.Test.YtoobkfjkohadnaaGreatDoorFnD
import Derived.Test.YtoobkfjkohadnaaGreatDoorFnC
import Derived.Test.YtoobkfjkohadnaaGreatDoorVmF
set_option linter.unusedVariables false
set_option linter.unusedSimpArgs false
set_option linter.unnecessarySimpa false
set_option maxRecDepth 100000
namespace Go.D
open Go Go.Vm Go.Proofs Go.RowKit

def ST2 (t : Tr) : Prop := ∀ (u : Tr) (σ : List Ent), lenT t → lenT u → ACalls E 18 [tyV t, tyV u] σ fun r τ => r = boolV (sameB t u) ∧ τ = σ
set_option maxHeartbeats 4000000 in
theorem sameTypes_ok (us us' : List Tr) (hl : us.length ≤ 9223372036854775807) (hl2 : us'.length ≤ 9223372036854775807) (hf : ∀ (u u' : Tr) (σ : List Ent), u ∈ us → u' ∈ us' → ACalls E 18 [tyV u, tyV u'] σ fun r τ => r = boolV (sameB u u') ∧ τ = σ) (σ : List Ent) :
    ACalls E 50 [.sl (tysV us), .sl (tysV us')] σ fun r τ => r = boolV (decide (us.length = us'.length) && sameBs us us') ∧ τ = σ := by
  refine xacalls T0 .drop [] Tryz.func50 rfl (by kernel_rfl) (by kernel_rfl) (by simp [Tryz.ntmps50]) ?_
  by_cases hn : (us.length : Int) = us'.length
  rotate_left
  · have : ¬ us.length = us'.length := fun h => hn (by omega)
    (simp only [tysV_len, hn, (vmA), Nat.reduceEqDiff, reduceIte, Nat.reduceAdd, Int.reduceToNat, Int.reduceLE, Int.reduceLT, Int.reduceEq, Int.reduceNe, Int.reduceAdd, Int.reduceSub, Int.reduceNeg, Nat.reduceLT, Nat.reduceLeDiff, Nat.reduceBEq, undef, (stA), Nat.reduceMul]; try simp (disch := omega) only [(vmp)])
    simp only [this, decide_false, Bool.false_and]
  have hn' : us.length = us'.length := by omega
  (simp only [tysV_len, hn, (vmA), Nat.reduceEqDiff, reduceIte, Nat.reduceAdd, Int.reduceToNat, Int.reduceLE, Int.reduceLT, Int.reduceEq, Int.reduceNe, Int.reduceAdd, Int.reduceSub, Int.reduceNeg, Nat.reduceLT, Nat.reduceLeDiff, Nat.reduceBEq, undef, (stA), Nat.reduceMul]; try simp (disch := omega) only [(vmp)])
  refine xloop (α := Nat) T0 (fun x => [(0, .sl (tysV us)), (1, .sl (tysV us')), (12, i64 us'.length), (13, i64 x)]) (fun _ => σ) (fun x => [])
    (fun x => x ≤ us.length ∧ sameBs (us.take x) (us'.take x) = true) (fun x => us.length - x) (by kernel_rfl)
    ⟨0, ⟨by simp, by simp only [List.take_zero, sameBs]⟩, by (simp only [(vmA), Nat.reduceEqDiff, reduceIte, Nat.reduceAdd, Int.reduceToNat, Int.reduceLE, Int.reduceLT, Int.reduceEq, Int.reduceNe, Int.reduceAdd, Int.reduceSub, Int.reduceNeg, Nat.reduceLT, Nat.reduceLeDiff, Nat.reduceBEq, undef, (stA), Nat.reduceMul, Int.natCast_zero]; try simp (disch := omega) only [(vmp)]), rfl, rfl⟩ ?_
  rintro i ⟨hi, hs⟩
  by_cases h : (i : Int) < us'.length
  · have hi1 : i < us.length := by omega
    have hi2 : i < us'.length := by omega
    have hu : us[i]? = some us[i] := List.getElem?_eq_getElem hi1
    have hu' : us'[i]? = some us'[i] := List.getElem?_eq_getElem hi2
    obtain ⟨s1, s2⟩ := take_split us i _ hu
    obtain ⟨s3, s4⟩ := take_split us' i _ hu'
    have hm := List.getElem_mem hi1
    have hm' := List.getElem_mem hi2
    generalize us[i] = u at *
    generalize us'[i] = u' at *
    have hlt : (us.take i).length = (us'.take i).length := by simp; omega
    have hg := tysV_get hu
    have hg' := tysV_get hu'
    have hc := fun σ' => hf u u' σ' hm hm'
    cases u with
    | mk a b cs =>
    cases u' with
    | mk a' b' cs' =>
    simp only [tyV] at hg hg' hc
    (simp only [h, hg, hg', tysV_len, hn, (vmA), Nat.reduceEqDiff, reduceIte, Nat.reduceAdd, Int.reduceToNat, Int.reduceLE, Int.reduceLT, Int.reduceEq, Int.reduceNe, Int.reduceAdd, Int.reduceSub, Int.reduceNeg, Nat.reduceLT, Nat.reduceLeDiff, Nat.reduceBEq, undef, (stA), Nat.reduceMul]; try simp (disch := omega) only [(vmp)])
    refine ydraw T0 [] (by kernel_rfl) (by kernel_rfl) (by kernel_rfl) (by kernel_rfl) ?_
    (simp only [h, hg, hg', tysV_len, hn, (vmA), Nat.reduceEqDiff, reduceIte, Nat.reduceAdd, Int.reduceToNat, Int.reduceLE, Int.reduceLT, Int.reduceEq, Int.reduceNe, Int.reduceAdd, Int.reduceSub, Int.reduceNeg, Nat.reduceLT, Nat.reduceLeDiff, Nat.reduceBEq, undef, (stA), Nat.reduceMul]; try simp (disch := omega) only [(vmp)])
    refine yNext.go (by rfl) _ rfl (hc _) ?_
    cases hb : sameB (.mk a b cs) (.mk a' b' cs')
    · (simp only [(vmA), Nat.reduceEqDiff, reduceIte, Nat.reduceAdd, Int.reduceToNat, Int.reduceLE, Int.reduceLT, Int.reduceEq, Int.reduceNe, Int.reduceAdd, Int.reduceSub, Int.reduceNeg, Nat.reduceLT, Nat.reduceLeDiff, Nat.reduceBEq, undef, (stA), Nat.reduceMul]; try simp (disch := omega) only [(vmp)])
      rw [s2, s4, sameBs_app _ _ _ _ hlt]
      simp only [sameBs, hb, Bool.false_and, Bool.and_false]
    · (simp only [(vmA), Nat.reduceEqDiff, reduceIte, Nat.reduceAdd, Int.reduceToNat, Int.reduceLE, Int.reduceLT, Int.reduceEq, Int.reduceNe, Int.reduceAdd, Int.reduceSub, Int.reduceNeg, Nat.reduceLT, Nat.reduceLeDiff, Nat.reduceBEq, undef, (stA), Nat.reduceMul]; try simp (disch := omega) only [(vmp)])
      refine ⟨i + 1, ⟨by omega, ?_⟩, by omega, rfl⟩
      rw [s1, s3, sameBs_app _ _ _ _ hlt, hs]
      simp only [sameBs, hb, Bool.and_self]
  · have hie : i = us.length := by omega
    subst hie
    (simp only [h, (vmA), Nat.reduceEqDiff, reduceIte, Nat.reduceAdd, Int.reduceToNat, Int.reduceLE, Int.reduceLT, Int.reduceEq, Int.reduceNe, Int.reduceAdd, Int.reduceSub, Int.reduceNeg, Nat.reduceLT, Nat.reduceLeDiff, Nat.reduceBEq, undef, (stA), Nat.reduceMul]; try simp (disch := omega) only [(vmp)])
    rw [List.take_of_length_le (Nat.le_refl _), hn', List.take_of_length_le (Nat.le_refl _)] at hs
    rw [hs]; simp [hn']
set_option maxHeartbeats 4000000 in
theorem SameType2_step (d n : List UInt8) (us : List Tr) (ih : ∀ u ∈ us, ST2 u) : ST2 (.mk d n us) := by
  intro u σ hl hl2
  cases u with
  | mk d' n' us' =>
  simp only [lenT] at hl hl2
  refine xacalls T0 .drop [] Tryz.func18 rfl (by kernel_rfl) (by kernel_rfl) (by simp [Tryz.ntmps18]) ?_
  simp only [sameB]
  by_cases hd : d = d'
  rotate_left
  · (simp only [tyV, hd, (vmA), Nat.reduceEqDiff, reduceIte, Nat.reduceAdd, Int.reduceToNat, Int.reduceLE, Int.reduceLT, Int.reduceEq, Int.reduceNe, Int.reduceAdd, Int.reduceSub, Int.reduceNeg, Nat.reduceLT, Nat.reduceLeDiff, Nat.reduceBEq, undef, (stA), Nat.reduceMul]; try simp (disch := omega) only [(vmp)])
  by_cases hn : n = n'
  rotate_left
  · (simp only [tyV, hd, hn, (vmA), Nat.reduceEqDiff, reduceIte, Nat.reduceAdd, Int.reduceToNat, Int.reduceLE, Int.reduceLT, Int.reduceEq, Int.reduceNe, Int.reduceAdd, Int.reduceSub, Int.reduceNeg, Nat.reduceLT, Nat.reduceLeDiff, Nat.reduceBEq, undef, (stA), Nat.reduceMul]; try simp (disch := omega) only [(vmp)])
  · (simp only [tyV, hd, hn, (vmA), Nat.reduceEqDiff, reduceIte, Nat.reduceAdd, Int.reduceToNat, Int.reduceLE, Int.reduceLT, Int.reduceEq, Int.reduceNe, Int.reduceAdd, Int.reduceSub, Int.reduceNeg, Nat.reduceLT, Nat.reduceLeDiff, Nat.reduceBEq, undef, (stA), Nat.reduceMul]; try simp (disch := omega) only [(vmp)])
    refine xWait.go (sameTypes_ok us us' hl.2.1 hl2.2.1 (fun u u' σ' h h' => ih u h u' σ' (lenTs_mem hl.2.2 h) (lenTs_mem hl2.2.2 h')) _) ?_
    (simp only [(vmA), Nat.reduceEqDiff, reduceIte, Nat.reduceAdd, Int.reduceToNat, Int.reduceLE, Int.reduceLT, Int.reduceEq, Int.reduceNe, Int.reduceAdd, Int.reduceSub, Int.reduceNeg, Nat.reduceLT, Nat.reduceLeDiff, Nat.reduceBEq, undef, (stA), Nat.reduceMul]; try simp (disch := omega) only [(vmp)])
    try rfl
theorem SameType2_ok : ∀ (m : Nat) (t : Tr), SizeOf.sizeOf t ≤ m → ST2 t
  | 0, .mk d n us, h => by simp at h
  | m + 1, .mk d n us, h => SameType2_step d n us fun u hu => SameType2_ok m u (by
      have := List.sizeOf_lt_of_mem hu
      simp at h; omega)
end Go.D

/- Substitutions as lists of claims: which are ones, which are the same. -/
set_option linter.unusedVariables false
set_option linter.unusedSimpArgs false
set_option linter.unnecessarySimpa false
set_option maxRecDepth 100000
namespace Go.D
open Go Go.Vm Go.Proofs Go.RowKit

def lenC (l : List Cl) : Prop := l.length ≤ 9223372036854775807 ∧ ∀ c ∈ l, c.1.length ≤ 9223372036854775807 ∧ lenT c.2
def sameC (c c' : Cl) : Bool := decide (c.1 = c'.1) && sameB c.2 c'.2
def sameCs : List Cl → List Cl → Bool
  | c :: l, c' :: l' => sameC c c' && sameCs l l'
  | _, _ => true
theorem sameCs_app : ∀ (a a' b b' : List Cl), a.length = a'.length → sameCs (a ++ b) (a' ++ b') = (sameCs a a' && sameCs b b')
  | [], [], b, b', _ => by simp only [List.nil_append, sameCs, Bool.true_and]
  | t :: a, t' :: a', b, b', h => by simp only [List.cons_append, sameCs, sameCs_app a a' b b' (by simpa using h), Bool.and_assoc]
theorem take_splitC {α : Type} (us : List α) (i : Nat) (u : α) (hu : us[i]? = some u) : us.take (i + 1) = us.take i ++ [u] ∧ us = us.take i ++ u :: us.drop (i + 1) := by
  obtain ⟨hi, rfl⟩ := List.getElem?_eq_some_iff.1 hu
  exact ⟨by rw [List.take_add_one, hu]; rfl, by rw [← List.drop_eq_getElem_cons hi, List.take_append_drop]⟩
theorem clsV_get {l : List Cl} {i : Nat} {c : Cl} (h : l[i]? = some c) : (clsV l).getD i .un = clV c := by simp [clsV, List.getD, h]
set_option maxHeartbeats 4000000 in
theorem SameSubst_ok (l l' : List Cl) (hl : lenC l) (hl' : lenC l') (σ : List Ent) : ACalls E 20 [.sl (clsV l), .sl (clsV l')] σ fun r τ => r = boolV (decide (l.length = l'.length) && sameCs l l') ∧ τ = σ := by
  refine xacalls T0 .drop [] Tryz.func20 rfl (by kernel_rfl) (by kernel_rfl) (by simp [Tryz.ntmps20]) ?_
  by_cases hn : (l.length : Int) = l'.length
  rotate_left
  · have : ¬ l.length = l'.length := fun h => hn (by omega)
    (simp only [clsV_len, hn, (vmA), Nat.reduceEqDiff, reduceIte, Nat.reduceAdd, Int.reduceToNat, Int.reduceLE, Int.reduceLT, Int.reduceEq, Int.reduceNe, Int.reduceAdd, Int.reduceSub, Int.reduceNeg, Nat.reduceLT, Nat.reduceLeDiff, Nat.reduceBEq, undef, (stA), Nat.reduceMul]; try simp (disch := omega) only [(vmp)])
    simp only [this, decide_false, Bool.false_and]
  have hn' : l.length = l'.length := by omega
  have hb := hl.1
  (simp only [clsV_len, hn, (vmA), Nat.reduceEqDiff, reduceIte, Nat.reduceAdd, Int.reduceToNat, Int.reduceLE, Int.reduceLT, Int.reduceEq, Int.reduceNe, Int.reduceAdd, Int.reduceSub, Int.reduceNeg, Nat.reduceLT, Nat.reduceLeDiff, Nat.reduceBEq, undef, (stA), Nat.reduceMul]; try simp (disch := omega) only [(vmp)])
  refine xloop (α := Nat) T0 (fun x => [(0, .sl (clsV l)), (1, .sl (clsV l')), (12, i64 l'.length), (13, i64 x)]) (fun _ => σ) (fun x => [])
    (fun x => x ≤ l.length ∧ sameCs (l.take x) (l'.take x) = true) (fun x => l.length - x) (by kernel_rfl)
    ⟨0, ⟨by simp, by simp only [List.take_zero, sameCs]⟩, by (simp only [(vmA), Nat.reduceEqDiff, reduceIte, Nat.reduceAdd, Int.reduceToNat, Int.reduceLE, Int.reduceLT, Int.reduceEq, Int.reduceNe, Int.reduceAdd, Int.reduceSub, Int.reduceNeg, Nat.reduceLT, Nat.reduceLeDiff, Nat.reduceBEq, undef, (stA), Nat.reduceMul, Int.natCast_zero]; try simp (disch := omega) only [(vmp)]), rfl, rfl⟩ ?_
  rintro i ⟨hi, hs⟩
  by_cases h : (i : Int) < l'.length
  · have hi1 : i < l.length := by omega
    have hi2 : i < l'.length := by omega
    have hu : l[i]? = some l[i] := List.getElem?_eq_getElem hi1
    have hu' : l'[i]? = some l'[i] := List.getElem?_eq_getElem hi2
    obtain ⟨s1, s2⟩ := take_splitC l i _ hu
    obtain ⟨s3, s4⟩ := take_splitC l' i _ hu'
    have hm := hl.2 _ (List.getElem_mem hi1)
    have hm' := hl'.2 _ (List.getElem_mem hi2)
    generalize l[i] = u at *
    generalize l'[i] = u' at *
    have hlt : (l.take i).length = (l'.take i).length := by simp; omega
    have hg := clsV_get hu
    have hg' := clsV_get hu'
    obtain ⟨a, t⟩ := u
    obtain ⟨a', t'⟩ := u'
    have hc := fun σ' => SameType2_ok _ t (Nat.le_refl _) t' σ' hm.2 hm'.2
    cases t with
    | mk b c cs =>
    cases t' with
    | mk b' c' cs' =>
    simp only [clV, clC, tyCells] at hg hg'
    simp only [tyV] at hc
    by_cases ha : a = a'
    · (simp only [h, hg, hg', ha, clsV_len, hn, (vmA), Nat.reduceEqDiff, reduceIte, Nat.reduceAdd, Int.reduceToNat, Int.reduceLE, Int.reduceLT, Int.reduceEq, Int.reduceNe, Int.reduceAdd, Int.reduceSub, Int.reduceNeg, Nat.reduceLT, Nat.reduceLeDiff, Nat.reduceBEq, undef, (stA), Nat.reduceMul]; try simp (disch := omega) only [(vmp)])
      refine ydraw T0 [] (by kernel_rfl) (by kernel_rfl) (by kernel_rfl) (by kernel_rfl) ?_
      (simp only [h, hg, hg', ha, clsV_len, hn, (vmA), Nat.reduceEqDiff, reduceIte, Nat.reduceAdd, Int.reduceToNat, Int.reduceLE, Int.reduceLT, Int.reduceEq, Int.reduceNe, Int.reduceAdd, Int.reduceSub, Int.reduceNeg, Nat.reduceLT, Nat.reduceLeDiff, Nat.reduceBEq, undef, (stA), Nat.reduceMul]; try simp (disch := omega) only [(vmp)])
      refine yNext.go (by rfl) _ rfl (hc _) ?_
      cases hb : sameB (.mk b c cs) (.mk b' c' cs')
      · (simp only [(vmA), Nat.reduceEqDiff, reduceIte, Nat.reduceAdd, Int.reduceToNat, Int.reduceLE, Int.reduceLT, Int.reduceEq, Int.reduceNe, Int.reduceAdd, Int.reduceSub, Int.reduceNeg, Nat.reduceLT, Nat.reduceLeDiff, Nat.reduceBEq, undef, (stA), Nat.reduceMul]; try simp (disch := omega) only [(vmp)])
        rw [s2, s4, sameCs_app _ _ _ _ hlt]
        simp only [sameCs, sameC, hb, Bool.false_and, Bool.and_false]
      · (simp only [(vmA), Nat.reduceEqDiff, reduceIte, Nat.reduceAdd, Int.reduceToNat, Int.reduceLE, Int.reduceLT, Int.reduceEq, Int.reduceNe, Int.reduceAdd, Int.reduceSub, Int.reduceNeg, Nat.reduceLT, Nat.reduceLeDiff, Nat.reduceBEq, undef, (stA), Nat.reduceMul]; try simp (disch := omega) only [(vmp)])
        refine ⟨i + 1, ⟨by omega, ?_⟩, by omega, rfl⟩
        rw [s1, s3, sameCs_app _ _ _ _ hlt, hs]
        simp only [sameCs, sameC, hb, ha, decide_true, Bool.and_self]
    · (simp only [h, hg, hg', ha, clsV_len, hn, (vmA), Nat.reduceEqDiff, reduceIte, Nat.reduceAdd, Int.reduceToNat, Int.reduceLE, Int.reduceLT, Int.reduceEq, Int.reduceNe, Int.reduceAdd, Int.reduceSub, Int.reduceNeg, Nat.reduceLT, Nat.reduceLeDiff, Nat.reduceBEq, undef, (stA), Nat.reduceMul]; try simp (disch := omega) only [(vmp)])
      refine ydraw T0 [] (by kernel_rfl) (by kernel_rfl) (by kernel_rfl) (by kernel_rfl) ?_
      (simp only [h, hg, hg', ha, clsV_len, hn, (vmA), Nat.reduceEqDiff, reduceIte, Nat.reduceAdd, Int.reduceToNat, Int.reduceLE, Int.reduceLT, Int.reduceEq, Int.reduceNe, Int.reduceAdd, Int.reduceSub, Int.reduceNeg, Nat.reduceLT, Nat.reduceLeDiff, Nat.reduceBEq, undef, (stA), Nat.reduceMul]; try simp (disch := omega) only [(vmp)])
      rw [s2, s4, sameCs_app _ _ _ _ hlt]
      simp only [sameCs, sameC, ha, decide_false, Bool.false_and, Bool.and_false]
  · have hie : i = l.length := by omega
    subst hie
    (simp only [h, (vmA), Nat.reduceEqDiff, reduceIte, Nat.reduceAdd, Int.reduceToNat, Int.reduceLE, Int.reduceLT, Int.reduceEq, Int.reduceNe, Int.reduceAdd, Int.reduceSub, Int.reduceNeg, Nat.reduceLT, Nat.reduceLeDiff, Nat.reduceBEq, undef, (stA), Nat.reduceMul]; try simp (disch := omega) only [(vmp)])
    rw [List.take_of_length_le (Nat.le_refl _), hn', List.take_of_length_le (Nat.le_refl _)] at hs
    rw [hs]; simp [hn']
end Go.D

/- Which lists of claims are substitutions; a substitution by names. -/
set_option linter.unusedVariables false
set_option linter.unusedSimpArgs false
set_option linter.unnecessarySimpa false
set_option maxRecDepth 100000
namespace Go.D
open Go Go.Vm Go.Proofs Go.RowKit

/-- Whether a claim may stand behind those of a list. -/
def nextC (l : List Cl) (c : Cl) : Bool := varB c.1 && (validT conB c.2 && (match l.getLast? with | none => true | some p => Op.bytesLess p.1 c.1))
def substAt (l : List Cl) (i : Nat) : Bool := match l[i]? with | none => true | some c => nextC (l.take i) c
def substB (l : List Cl) : Bool := (List.range l.length).all (substAt l)
theorem substB_not {l : List Cl} {i : Nat} (hi : i < l.length) (h : substAt l i = false) : substB l = false := by
  rw [← Bool.not_eq_true]
  intro hh
  have := List.all_eq_true.1 hh i (List.mem_range.2 hi)
  rw [h] at this; cases this
theorem substB_of {l : List Cl} (h : ∀ i, i < l.length → substAt l i = true) : substB l = true := List.all_eq_true.2 fun i hi => h i (List.mem_range.1 hi)
set_option maxHeartbeats 8000000 in
theorem isSubst_ok (l : List Cl) (hl : lenC l) (σ : List Ent) : ACalls E 48 [.sl (clsV l)] σ fun r τ => r = boolV (substB l) ∧ τ = σ := by
  refine xacalls T0 .drop [] Tryz.func48 rfl (by kernel_rfl) (by kernel_rfl) (by simp [Tryz.ntmps48]) ?_
  have hb := hl.1
  (simp only [clsV_len, (vmA), Nat.reduceEqDiff, reduceIte, Nat.reduceAdd, Int.reduceToNat, Int.reduceLE, Int.reduceLT, Int.reduceEq, Int.reduceNe, Int.reduceAdd, Int.reduceSub, Int.reduceNeg, Nat.reduceLT, Nat.reduceLeDiff, Nat.reduceBEq, undef, (stA), Nat.reduceMul]; try simp (disch := omega) only [(vmp)])
  refine xloop (α := Nat × List Ent) T0 (fun x => [(0, .sl (clsV l)), (5, .sl (clsV l)), (6, i64 l.length), (7, i64 x.1)]) (fun _ => σ) (fun x => x.2)
    (fun x => x.1 ≤ l.length ∧ ∀ j, j < x.1 → substAt l j = true) (fun x => l.length - x.1) (by kernel_rfl)
    ⟨(0, []), ⟨by simp, fun j hj => absurd hj (by simp)⟩, by (simp only [(vmA), Nat.reduceEqDiff, reduceIte, Nat.reduceAdd, Int.reduceToNat, Int.reduceLE, Int.reduceLT, Int.reduceEq, Int.reduceNe, Int.reduceAdd, Int.reduceSub, Int.reduceNeg, Nat.reduceLT, Nat.reduceLeDiff, Nat.reduceBEq, undef, (stA), Nat.reduceMul, Int.natCast_zero]; try simp (disch := omega) only [(vmp)]), rfl, rfl⟩ ?_
  rintro ⟨i, junk⟩ ⟨hi, hs⟩
  simp only at hi hs
  by_cases h : (i : Int) < l.length
  · have hi1 : i < l.length := by omega
    have hu : l[i]? = some l[i] := List.getElem?_eq_getElem hi1
    have hm := hl.2 _ (List.getElem_mem hi1)
    have hat : substAt l i = nextC (l.take i) l[i] := by unfold substAt; rw [hu]
    generalize l[i] = u at *
    have hg := clsV_get hu
    obtain ⟨a, t⟩ := u
    have hv := fun σ' => IsVar_ok a hm.1 σ'
    have hty := fun σ' => ValidType_ok t hm.2 σ'
    simp only [nextC] at hat
    cases t with
    | mk b c cs =>
    simp only [clV, clC, tyCells] at hg
    simp only [tyV] at hty
    have next : substAt l i = true → ∀ j, j < i + 1 → substAt l j = true := fun hh j hj => by
      rcases Nat.lt_or_ge j i with h1 | h1
      · exact hs j h1
      · have : j = i := by omega
        subst this; exact hh
    (simp only [h, hg, clsV_len, (vmA), Nat.reduceEqDiff, reduceIte, Nat.reduceAdd, Int.reduceToNat, Int.reduceLE, Int.reduceLT, Int.reduceEq, Int.reduceNe, Int.reduceAdd, Int.reduceSub, Int.reduceNeg, Nat.reduceLT, Nat.reduceLeDiff, Nat.reduceBEq, undef, (stA), Nat.reduceMul]; try simp (disch := omega) only [(vmp)])
    refine ydraw T0 [] (by kernel_rfl) (by kernel_rfl) (by kernel_rfl) (by kernel_rfl) ?_
    (simp only [(vmA), Nat.reduceEqDiff, reduceIte, Nat.reduceAdd, Int.reduceToNat, Int.reduceLE, Int.reduceLT, Int.reduceEq, Int.reduceNe, Int.reduceAdd, Int.reduceSub, Int.reduceNeg, Nat.reduceLT, Nat.reduceLeDiff, Nat.reduceBEq, undef, (stA), Nat.reduceMul]; try simp (disch := omega) only [(vmp)])
    refine yNext.go (by rfl) _ rfl (hv _) ?_
    cases hva : varB a
    · have hat' : substAt l i = false := by rw [hat, hva]; rfl
      (simp only [(vmA), Nat.reduceEqDiff, reduceIte, Nat.reduceAdd, Int.reduceToNat, Int.reduceLE, Int.reduceLT, Int.reduceEq, Int.reduceNe, Int.reduceAdd, Int.reduceSub, Int.reduceNeg, Nat.reduceLT, Nat.reduceLeDiff, Nat.reduceBEq, undef, (stA), Nat.reduceMul]; try simp (disch := omega) only [(vmp)])
      rw [substB_not hi1 hat']
    (simp only [(vmA), Nat.reduceEqDiff, reduceIte, Nat.reduceAdd, Int.reduceToNat, Int.reduceLE, Int.reduceLT, Int.reduceEq, Int.reduceNe, Int.reduceAdd, Int.reduceSub, Int.reduceNeg, Nat.reduceLT, Nat.reduceLeDiff, Nat.reduceBEq, undef, (stA), Nat.reduceMul]; try simp (disch := omega) only [(vmp)])
    refine yNext.go (by rfl) _ rfl (hty _) ?_
    cases hvt : validT conB (.mk b c cs)
    · have hat' : substAt l i = false := by rw [hat, hva, hvt]; rfl
      (simp only [(vmA), Nat.reduceEqDiff, reduceIte, Nat.reduceAdd, Int.reduceToNat, Int.reduceLE, Int.reduceLT, Int.reduceEq, Int.reduceNe, Int.reduceAdd, Int.reduceSub, Int.reduceNeg, Nat.reduceLT, Nat.reduceLeDiff, Nat.reduceBEq, undef, (stA), Nat.reduceMul]; try simp (disch := omega) only [(vmp)])
      rw [substB_not hi1 hat']
    rcases i with _ | k
    · (simp only [(vmA), Nat.reduceEqDiff, reduceIte, Nat.reduceAdd, Int.reduceToNat, Int.reduceLE, Int.reduceLT, Int.reduceEq, Int.reduceNe, Int.reduceAdd, Int.reduceSub, Int.reduceNeg, Nat.reduceLT, Nat.reduceLeDiff, Nat.reduceBEq, undef, (stA), Nat.reduceMul]; try simp (disch := omega) only [(vmp)])
      have hat' : substAt l 0 = true := by rw [hat, hva, hvt]; simp
      exact ⟨(1, _), ⟨by simp only; omega, next hat'⟩, by simp only; omega, rfl, rfl⟩
    · have hk0 : (0 : Int) < ((k + 1 : Nat) : Int) := by omega
      have hp : l[k]? = some l[k] := List.getElem?_eq_getElem (by omega)
      have hlast : (l.take (k + 1)).getLast? = some l[k] := by rw [(take_splitC l k _ hp).1, List.getLast?_concat]
      have hgp := clsV_get hp
      generalize l[k] = p at *
      obtain ⟨a', t'⟩ := p
      cases t' with
      | mk b' c' cs' =>
      simp only [clV, clC, tyCells] at hgp
      simp only [hlast] at hat
      have hsub : (((k + 1 : Nat) : Int) - 1) = (k : Int) := by omega
      cases hlt : Op.bytesLess a' a
      · (simp only [hk0, hsub, hgp, hlt, clsV_len, (vmA), Nat.reduceEqDiff, reduceIte, Nat.reduceAdd, Int.reduceToNat, Int.reduceLE, Int.reduceLT, Int.reduceEq, Int.reduceNe, Int.reduceAdd, Int.reduceSub, Int.reduceNeg, Nat.reduceLT, Nat.reduceLeDiff, Nat.reduceBEq, undef, (stA), Nat.reduceMul]; try simp (disch := omega) only [(vmp)])
        have hat' : substAt l (k + 1) = false := by rw [hat, hva, hvt, hlt]; rfl
        refine ⟨⟨by omega, by omega, by rw [hgp]; rfl⟩, ?_⟩
        (simp only [hgp, hlt, (vmA), Nat.reduceEqDiff, reduceIte, Nat.reduceAdd, Int.reduceToNat, Int.reduceLE, Int.reduceLT, Int.reduceEq, Int.reduceNe, Int.reduceAdd, Int.reduceSub, Int.reduceNeg, Nat.reduceLT, Nat.reduceLeDiff, Nat.reduceBEq, undef, (stA), Nat.reduceMul]; try simp (disch := omega) only [(vmp)])
        rw [substB_not hi1 hat']
      · (simp only [hk0, hsub, hgp, hlt, clsV_len, (vmA), Nat.reduceEqDiff, reduceIte, Nat.reduceAdd, Int.reduceToNat, Int.reduceLE, Int.reduceLT, Int.reduceEq, Int.reduceNe, Int.reduceAdd, Int.reduceSub, Int.reduceNeg, Nat.reduceLT, Nat.reduceLeDiff, Nat.reduceBEq, undef, (stA), Nat.reduceMul]; try simp (disch := omega) only [(vmp)])
        have hat' : substAt l (k + 1) = true := by rw [hat, hva, hvt, hlt]; rfl
        refine ⟨⟨by omega, by omega, by rw [hgp]; rfl⟩, ?_⟩
        (simp only [hgp, hlt, (vmA), Nat.reduceEqDiff, reduceIte, Nat.reduceAdd, Int.reduceToNat, Int.reduceLE, Int.reduceLT, Int.reduceEq, Int.reduceNe, Int.reduceAdd, Int.reduceSub, Int.reduceNeg, Nat.reduceLT, Nat.reduceLeDiff, Nat.reduceBEq, undef, (stA), Nat.reduceMul]; try simp (disch := omega) only [(vmp)])
        exact ⟨(k + 1 + 1, _), ⟨by simp only; omega, next hat'⟩, by simp only; omega, rfl, rfl⟩
  · have hie : i = l.length := by omega
    subst hie
    (simp only [h, (vmA), Nat.reduceEqDiff, reduceIte, Nat.reduceAdd, Int.reduceToNat, Int.reduceLE, Int.reduceLT, Int.reduceEq, Int.reduceNe, Int.reduceAdd, Int.reduceSub, Int.reduceNeg, Nat.reduceLT, Nat.reduceLeDiff, Nat.reduceBEq, undef, (stA), Nat.reduceMul]; try simp (disch := omega) only [(vmp)])
    rw [substB_of hs]
end Go.D

/- A substitution by names; sizes behind one. -/
set_option linter.unusedVariables false
set_option linter.unusedSimpArgs false
set_option linter.unnecessarySimpa false
set_option maxRecDepth 100000
namespace Go.D
open Go Go.Vm Go.Proofs Go.RowKit

theorem mEntsN_len (nl : Bool) : ∀ (k : Nat) (s : Sub'), (mEntsN nl k s).length = s.length
  | k, [] => rfl
  | k, e :: r => by simp [mEntsN, mEntsN_len nl (k + 1) r]
theorem tyN_false (t : Tr) : tyN false t = tyV t := by
  cases t with
  | mk d n us => cases us <;> simp [tyN, argV, tyV, tysV]
def distC (l : List Cl) : Prop := ∀ i c, l[i]? = some c → Sub'.look (l.take i) c.1 = none
def clE (c : Cl) : Ent := .arr 33 (clC c) 0 0
set_option maxHeartbeats 4000000 in
theorem table_ok (l : List Cl) (hl : l.length ≤ 26) (hd : distC l) (σ : List Ent) : ACalls E 51 [.sl (clsV l)] σ fun r τ => r = .mp σ.length ∧ τ = σ ++ .map (mEntsN false 0 l) l.length :: l.map clE := by
  refine xacalls T0 .stay [] Tryz.func51 rfl (by kernel_rfl) (by kernel_rfl) (by simp [Tryz.ntmps51]) ?_
  (simp only [clsV_len, (vmA), Nat.reduceEqDiff, reduceIte, Nat.reduceAdd, Int.reduceToNat, Int.reduceLE, Int.reduceLT, Int.reduceEq, Int.reduceNe, Int.reduceAdd, Int.reduceSub, Int.reduceNeg, Nat.reduceLT, Nat.reduceLeDiff, Nat.reduceBEq, undef, (stA), Nat.reduceMul]; try simp (disch := omega) only [(vmp)])
  refine xloop (α := Nat) T0 (fun x => [(3, .mp σ.length), (7, .sl (clsV l)), (8, i64 l.length), (9, i64 x)]) (fun _ => σ) (fun x => .map (mEntsN false 0 (l.take x)) (l.take x).length :: (l.take x).map clE)
    (fun x => x ≤ l.length) (fun x => l.length - x) (by kernel_rfl)
    ⟨0, by simp, by (simp only [(vmA), Nat.reduceEqDiff, reduceIte, Nat.reduceAdd, Int.reduceToNat, Int.reduceLE, Int.reduceLT, Int.reduceEq, Int.reduceNe, Int.reduceAdd, Int.reduceSub, Int.reduceNeg, Nat.reduceLT, Nat.reduceLeDiff, Nat.reduceBEq, undef, (stA), Nat.reduceMul, Int.natCast_zero]; try simp (disch := omega) only [(vmp)]), rfl, rfl⟩ ?_
  rintro i hi
  by_cases h : (i : Int) < l.length
  · have hi1 : i < l.length := by omega
    have hu : l[i]? = some l[i] := List.getElem?_eq_getElem hi1
    have hlk := hd i _ hu
    have s1 := (take_splitC l i _ hu).1
    have hlen : (l.take i).length = i := by simp; omega
    generalize l[i] = u at *
    have hg := clsV_get hu
    obtain ⟨a, t⟩ := u
    have hput := mputN false a t 0 (l.take i) hlk
    rw [Nat.zero_add, hlen, tyN_false] at hput
    cases t with
    | mk b c cs =>
    simp only [clV, clC, tyCells] at hg
    simp only [tyV] at hput
    generalize hti : l.take i = ti at *
    generalize hjj : ti.map clE = jj
    (simp only [h, hg, clsV_len, hlen, mgetN, hlk, hput, Option.map_none, Option.isSome_none, Bool.false_eq_true, if_false, (vmA), Nat.reduceEqDiff, reduceIte, Nat.reduceAdd, Int.reduceToNat, Int.reduceLE, Int.reduceLT, Int.reduceEq, Int.reduceNe, Int.reduceAdd, Int.reduceSub, Int.reduceNeg, Nat.reduceLT, Nat.reduceLeDiff, Nat.reduceBEq, undef, (stA), Nat.reduceMul]; try simp (disch := omega) only [(vmp)])
    refine ⟨⟨rfl, fun e he => keysN false tab _ _ 0 ti e he⟩, i + 1, by omega, by omega, rfl, ?_⟩
    simp only [s1, List.length_append, List.length_cons, List.length_nil, hlen, List.map_append, List.map_cons, List.map_nil, hjj, clE, clC, tyCells]
  · have hie : i = l.length := by omega
    subst hie
    (simp only [h, List.take_of_length_le (Nat.le_refl _), (vmA), Nat.reduceEqDiff, reduceIte, Nat.reduceAdd, Int.reduceToNat, Int.reduceLE, Int.reduceLT, Int.reduceEq, Int.reduceNe, Int.reduceAdd, Int.reduceSub, Int.reduceNeg, Nat.reduceLT, Nat.reduceLeDiff, Nat.reduceBEq, undef, (stA), Nat.reduceMul]; try simp (disch := omega) only [(vmp)])
end Go.D

/- The variables, as letters. -/
set_option linter.unusedVariables false
set_option maxRecDepth 100000
namespace Go.D
open Go Go.Vm Go.Proofs Go.RowKit

theorem wrapU8 {x : Int} (h0 : 0 ≤ x) (h1 : x ≤ 255) : IntKind.u8.wrap x = x := by
  have hb : IntKind.u8.bits = 8 := rfl
  have hs : IntKind.u8.signed = false := rfl
  simp only [IntKind.wrap, hb, hs, Bool.false_and, Bool.false_eq_true, if_false]
  omega
/-- The i-th variable. -/
def letA (i : Nat) : List UInt8 := [39, (97 + i).toUInt8]
theorem letter_inj {i j : Nat} (hi : i < 26) (hj : j < 26) (h : letA i = letA j) : i = j := by
  simp only [letA, List.cons.injEq, and_true, true_and] at h
  have h2 := congrArg UInt8.toNat h
  have e : ∀ k, k < 26 → ((97 + k).toUInt8).toNat = 97 + k := fun k hk => by
    show (UInt8.ofNat (97 + k)).toNat = 97 + k
    rw [UInt8.toNat_ofNat']
    exact Nat.mod_eq_of_lt (by omega)
  rw [e i hi, e j hj] at h2
  omega
theorem letter_varB {i : Nat} (hi : i < 26) : varB (letA i) = true := by
  have e : ((97 + i).toUInt8).toNat = 97 + i := by
    show (UInt8.ofNat (97 + i)).toNat = 97 + i
    rw [UInt8.toNat_ofNat']
    exact Nat.mod_eq_of_lt (by omega)
  simp only [varB, letA, btw, List.getD_cons_zero, List.getD_cons_succ, e, Bool.and_eq_true, decide_eq_true_eq]
  exact ⟨rfl, rfl, by omega, by omega⟩
theorem varB_letter {n : List UInt8} (h : varB n = true) : ∃ i, i < 26 ∧ n = letA i := by
  obtain ⟨b, rfl, h1, h2⟩ := varB_shape h
  refine ⟨b.toNat - 97, by omega, ?_⟩
  have e : ((97 + (b.toNat - 97)).toUInt8).toNat = b.toNat := by
    show (UInt8.ofNat _).toNat = _
    rw [UInt8.toNat_ofNat']
    have := b.toNat_lt
    omega
  simp only [letA, List.cons.injEq, and_true, true_and]
  exact (UInt8.toNat_inj.1 e).symm
theorem letter_less {i j : Nat} (hi : i < 26) (hj : j < 26) : Op.bytesLess (letA i) (letA j) = decide (i < j) := by
  have e : ∀ k, k < 26 → ((97 + k).toUInt8).toNat = 97 + k := fun k hk => by
    show (UInt8.ofNat (97 + k)).toNat = 97 + k
    rw [UInt8.toNat_ofNat']
    exact Nat.mod_eq_of_lt (by omega)
  have e1 : ((97 + i).toUInt8 < (97 + j).toUInt8) ↔ i < j := by rw [UInt8.lt_iff_toNat_lt, e i hi, e j hj]; omega
  have e2 : ((97 + i).toUInt8 = (97 + j).toUInt8) ↔ i = j := by rw [← UInt8.toNat_inj, e i hi, e j hj]; omega
  simp only [letA, Op.bytesLess]
  have h2 : decide ((97 + i).toUInt8 < (97 + j).toUInt8) = decide (i < j) := decide_eq_decide.2 e1
  rw [h2]
  simp only [Bool.and_false, Bool.or_false, beq_self_eq_true, Bool.true_and]
  rfl
mutual
theorem ord_pre : ∀ (t : Tr) (A : List (List UInt8)), A <+: ordT t A
  | .mk d n us, A => by
    simp only [ordT]
    split
    · exact (List.prefix_append _ _).trans (ords_pre us _)
    · exact ords_pre us A
theorem ords_pre : ∀ (l : List Tr) (A : List (List UInt8)), A <+: ordTs l A
  | [], A => by simp only [ordTs]; exact List.prefix_refl _
  | t :: ts, A => by simp only [ordTs]; exact (ord_pre t A).trans (ords_pre ts _)
end
end Go.D

/- One substitution behind another one. -/
set_option linter.unusedVariables false
set_option maxRecDepth 100000
namespace Go.D
open Go Go.Vm Go.Proofs Go.RowKit

/-- A claim, unless it says nothing. -/
def keepC (n : List UInt8) (u : Tr) : List Cl := if u.d = kiVar ∧ u.n = n then [] else [(n, u)]
def afterL (s t : List Cl) : Nat → Option (List Cl)
  | 0 => some []
  | i + 1 => match afterL s t i with
    | none => none
    | some acc => match Sub'.look s (letA i) with
      | some u => if fitsB (ofT (putT t u)) = true then some (acc ++ keepC (letA i) (putT t u)) else none
      | none => match Sub'.look t (letA i) with
        | some u => some (acc ++ keepC (letA i) u)
        | none => some acc
def afterR (s t : List Cl) : List Cl × Int :=
  if substB s = true ∧ substB t = true then (match afterL s t 26 with | none => ([], 4) | some l => (l, 0)) else ([], 40)
theorem afterL_none (s t : List Cl) : ∀ (i k : Nat), i ≤ k → afterL s t i = none → afterL s t k = none
  | i, 0, h, hn => by have : i = 0 := by omega
                      subst this; exact hn
  | i, k + 1, h, hn => by
    rcases Nat.lt_or_ge k i with h1 | h1
    · have : i = k + 1 := by omega
      subst this; exact hn
    · unfold afterL; rw [afterL_none s t i k h1 hn]
theorem afterL_len (s t : List Cl) : ∀ (i : Nat) (acc : List Cl), afterL s t i = some acc → acc.length ≤ i
  | 0, acc, h => by cases h; simp
  | i + 1, acc, h => by
    have hk : ∀ n u, (keepC n u).length ≤ 1 := fun n u => by unfold keepC; split <;> simp
    unfold afterL at h
    split at h
    · cases h
    · rename_i a ha
      have hl := afterL_len s t i a ha
      split at h
      · split at h
        · cases h; rw [List.length_append]; have := hk (letA i) (putT t ‹Tr›); omega
        · cases h
      · split at h
        · cases h; rw [List.length_append]; have := hk (letA i) ‹Tr›; omega
        · cases h; omega
/-- What a substitution holds. -/
theorem substB_at {l : List Cl} (h : substB l = true) {i : Nat} {c : Cl} (hc : l[i]? = some c) : nextC (l.take i) c = true := by
  have hi := (List.getElem?_eq_some_iff.1 hc).1
  have := List.all_eq_true.1 h i (List.mem_range.2 hi)
  unfold substAt at this
  rw [hc] at this; exact this
theorem substB_mem {l : List Cl} (h : substB l = true) {c : Cl} (hc : c ∈ l) : varB c.1 = true ∧ validT conB c.2 = true := by
  obtain ⟨i, hi⟩ := List.getElem?_of_mem hc
  have := substB_at h hi
  unfold nextC at this
  simp only [Bool.and_eq_true] at this
  exact ⟨this.1, this.2.1⟩
theorem valid_typ {t : Tr} (h : validT conB t = true) : typeB conB t = true := by unfold validT at h; simp only [Bool.and_eq_true] at h; exact h.1
theorem valid_fits {t : Tr} (h : validT conB t = true) : fitsB (ofT t) = true := by unfold validT at h; simp only [Bool.and_eq_true] at h; exact h.2
theorem substB_okV {l : List Cl} (h : substB l = true) (hl : lenC l) : okV l := fun e he => ⟨(hl.2 e he).2, valid_typ (substB_mem h he).2⟩
theorem substB_letter {l : List Cl} (h : substB l = true) {i : Nat} {c : Cl} (hc : l[i]? = some c) : ∃ k, k < 26 ∧ c.1 = letA k :=
  varB_letter (substB_mem h (List.mem_of_getElem? hc)).1
theorem substB_asc {l : List Cl} (h : substB l = true) : ∀ (j i : Nat) (a b : Nat) (c c' : Cl), i < j → l[i]? = some c → l[j]? = some c' → a < 26 → b < 26 → c.1 = letA a → c'.1 = letA b → a < b
  | j + 1, i, a, b, c, c', hij, hc, hc', ha, hb, ea, eb => by
    have hj : j < l.length := by have := (List.getElem?_eq_some_iff.1 hc').1; omega
    have hp : l[j]? = some l[j] := List.getElem?_eq_getElem hj
    obtain ⟨m, hm, em⟩ := substB_letter h hp
    have hn := substB_at h hc'
    unfold nextC at hn
    rw [(take_splitC l j _ hp).1, List.getLast?_concat] at hn
    simp only [Bool.and_eq_true, em, eb, letter_less hm hb, decide_eq_true_eq] at hn
    rcases Nat.lt_or_ge i j with h1 | h1
    · have := substB_asc h j i a m c _ h1 hc hp ha hm ea em
      omega
    · have hij' : i = j := by omega
      subst hij'
      rw [hc] at hp; cases hp
      have := letter_inj ha hm (ea.symm.trans em)
      omega
theorem look_none {l : List Cl} {n : List UInt8} (h : ∀ c ∈ l, ¬ n = c.1) : Sub'.look l n = none := by
  induction l with
  | nil => rfl
  | cons a r ih => unfold Sub'.look; rw [if_neg (h a (by simp))]; exact ih fun c hc => h c (by simp [hc])
theorem substB_dist {l : List Cl} (h : substB l = true) : distC l := fun i c hc => look_none fun c' hc' he => by
  obtain ⟨j, hj⟩ := List.getElem?_of_mem hc'
  have hji : j < i := by
    have := (List.getElem?_eq_some_iff.1 hj).1
    simp at this; omega
  rw [List.getElem?_take_of_lt hji] at hj
  obtain ⟨a, ha, ea⟩ := substB_letter h hj
  obtain ⟨b, hb, eb⟩ := substB_letter h hc
  have := substB_asc h i j a b _ _ hji hj hc ha hb ea eb
  have := letter_inj ha hb (ea.symm.trans (he.symm.trans eb))
  omega
theorem substB_nodup {l : List Cl} (h : substB l = true) : (l.map (·.1)).Nodup := by
  refine List.pairwise_iff_getElem.2 fun i j hi hj hij he => ?_
  simp only [List.length_map] at hi hj
  simp only [List.getElem_map] at he
  have hi' : l[i]? = some l[i] := List.getElem?_eq_getElem hi
  have hj' : l[j]? = some l[j] := List.getElem?_eq_getElem hj
  obtain ⟨a, ha, ea⟩ := substB_letter h hi'
  obtain ⟨b, hb, eb⟩ := substB_letter h hj'
  have := substB_asc h j i a b _ _ hij hi' hj' ha hb ea eb
  have := letter_inj ha hb (ea.symm.trans (he.trans eb))
  omega
theorem substB_few {l : List Cl} (h : substB l = true) : l.length ≤ 26 := by
  have := vars_few (substB_nodup h) (fun n hn => by obtain ⟨c, hc, rfl⟩ := List.mem_map.1 hn; exact (substB_mem h hc).1)
  simpa using this
end Go.D

/- One substitution behind another one does what both do, and that is associative (plain). -/
set_option linter.unusedVariables false
set_option maxRecDepth 100000
namespace Go.D
open Go Go.Vm Go.Proofs Go.RowKit

def vT (n : List UInt8) : Tr := .mk kiVar n []
theorem vT_args {us : List Tr} {n : List UInt8} (h : typeB conB (.mk kiVar n us) = true) : us = [] ∧ varB n = true := by
  simp only [typeB, Bool.and_eq_true, decide_eq_true_eq] at h
  obtain ⟨_, h2, _, h3, _⟩ := h
  have hp : partsI kiVar = 0 := rfl
  rw [hp] at h3
  refine ⟨List.length_eq_zero_iff.1 (by omega), ?_⟩
  simpa using h2
theorem put_vT (s : Sub') (n : List UInt8) : putT s (vT n) = (Sub'.look s n).getD (vT n) := by
  unfold vT putT
  cases h : Sub'.look s n with
  | none => rw [if_neg (by rintro ⟨_, h⟩; cases h)]; rfl
  | some u => rw [if_pos ⟨rfl, rfl⟩]; rfl
/-- What both do to a variable. -/
def two (s t : Sub') (n : List UInt8) : Tr := putT t (putT s (vT n))
def canC (f : List UInt8 → Tr) : Nat → List Cl
  | 0 => []
  | i + 1 => canC f i ++ keepC (letA i) (f (letA i))
theorem canC_congr {f g : List UInt8 → Tr} : ∀ k, (∀ i, i < k → f (letA i) = g (letA i)) → canC f k = canC g k
  | 0, _ => rfl
  | k + 1, h => by rw [canC, canC, canC_congr k (fun i hi => h i (by omega)), h k (by omega)]
theorem keep_var (n : List UInt8) : keepC n (vT n) = [] := if_pos ⟨rfl, rfl⟩
theorem afterL_can {s t : List Cl} : ∀ (k : Nat) (acc : List Cl), afterL s t k = some acc → acc = canC (two s t) k
  | 0, acc, h => by cases h; rfl
  | k + 1, acc, h => by
    unfold afterL at h
    have e : two s t (letA k) = putT t ((Sub'.look s (letA k)).getD (vT (letA k))) := by unfold two; rw [put_vT]
    rw [canC, e]
    clear e
    split at h
    · cases h
    · rename_i a ha
      have := afterL_can k a ha
      rw [← this]
      split at h
      · rename_i u hu
        rw [hu]
        split at h
        · cases h; rfl
        · cases h
      · rename_i hu
        rw [hu, Option.getD_none, put_vT]
        split at h
        · rename_i u hu2
          cases h; rw [hu2]; rfl
        · rename_i hu2
          cases h; rw [hu2, Option.getD_none, keep_var, List.append_nil]
theorem look_keep (n m : List UInt8) (u : Tr) (h : ¬ m = n) : Sub'.look (keepC n u) m = none := by
  unfold keepC; split
  · rfl
  · unfold Sub'.look; rw [if_neg h]; rfl
theorem look_apps : ∀ (a b : Sub') (m : List UInt8), Sub'.look (a ++ b) m = (Sub'.look a m).or (Sub'.look b m)
  | [], b, m => rfl
  | e :: a, b, m => by
    show (if m = e.1 then some e.2 else Sub'.look (a ++ b) m) = (if m = e.1 then some e.2 else Sub'.look a m).or (Sub'.look b m)
    by_cases h : m = e.1
    · rw [if_pos h, if_pos h]; rfl
    · rw [if_neg h, if_neg h]; exact look_apps a b m
theorem look_canC (f : List UInt8 → Tr) {j : Nat} (hj : j < 26) : ∀ k, k ≤ 26 → Sub'.look (canC f k) (letA j) = if j < k then Sub'.look (keepC (letA j) (f (letA j))) (letA j) else none
  | 0, _ => rfl
  | k + 1, hk => by
    rw [canC, look_apps, look_canC f hj k (by omega)]
    by_cases h1 : j < k
    · have hne : ¬ letA j = letA k := fun h => by have := letter_inj hj (by omega) h; omega
      rw [if_pos h1, if_pos (by omega), look_keep _ _ _ hne, Option.or_none]
    · rw [if_neg h1, Option.none_or]
      by_cases h2 : j = k
      · subst h2; rw [if_pos (by omega)]
      · have hne : ¬ letA j = letA k := fun h => h2 (letter_inj hj (by omega) h)
        rw [if_neg (by omega), look_keep _ _ _ hne]
theorem put_canC (f : List UInt8 → Tr) {j : Nat} (hj : j < 26) (hf : typeB conB (f (letA j)) = true) : putT (canC f 26) (vT (letA j)) = f (letA j) := by
  rw [put_vT, look_canC f hj 26 (by omega), if_pos hj]
  rcases h : f (letA j) with ⟨d, n, us⟩
  rw [h] at hf
  unfold keepC
  split
  · rename_i hc
    obtain ⟨hd, hn⟩ := hc
    simp only [Tr.d, Tr.n] at hd hn
    subst hd hn
    rw [(vT_args hf).1]
    rfl
  · unfold Sub'.look; rw [if_pos rfl]; rfl
mutual
/-- .. and to any type. -/
theorem put_two (f : List UInt8 → Tr) (s t : Sub') (hf : ∀ i, i < 26 → typeB conB (f (letA i)) = true) (h2 : ∀ i, i < 26 → f (letA i) = two s t (letA i)) :
    ∀ x, typeB conB x = true → putT (canC f 26) x = putT t (putT s x)
  | .mk d n us, h => by
    by_cases hd : d = kiVar
    · subst hd
      obtain ⟨rfl, hv⟩ := vT_args h
      obtain ⟨i, hi, rfl⟩ := varB_letter hv
      show putT (canC f 26) (vT (letA i)) = putT t (putT s (vT (letA i)))
      rw [put_canC f hi (hf i hi), h2 i hi, two]
    · have e : ∀ S us, putT S (.mk d n us) = .mk d n (putTs S us) := fun S us => by unfold putT; rw [if_neg (fun h => hd h.1)]
      simp only [typeB, Bool.and_eq_true] at h
      rw [e, e, e, put_twos f s t hf h2 us h.2.2.2.2]
theorem put_twos (f : List UInt8 → Tr) (s t : Sub') (hf : ∀ i, i < 26 → typeB conB (f (letA i)) = true) (h2 : ∀ i, i < 26 → f (letA i) = two s t (letA i)) :
    ∀ l, typeBs conB l = true → putTs (canC f 26) l = putTs t (putTs s l)
  | [], _ => by simp only [putTs]
  | x :: l, h => by
    simp only [typeBs, Bool.and_eq_true] at h
    simp only [putTs, put_two f s t hf h2 x h.1, put_twos f s t hf h2 l h.2]
end
theorem substB_snoc {l : List Cl} {c : Cl} (h : substB l = true) (hc : nextC l c = true) : substB (l ++ [c]) = true := substB_of fun i hi => by
  unfold substAt
  rw [List.length_append, List.length_cons, List.length_nil] at hi
  rcases Nat.lt_or_ge i l.length with h1 | h1
  · rw [List.getElem?_append_left h1, List.take_append_of_le_length (by omega), List.getElem?_eq_getElem h1]
    exact substB_at h (List.getElem?_eq_getElem h1)
  · have : i = l.length := by omega
    subst this
    rw [List.getElem?_append_right (Nat.le_refl _), Nat.sub_self, List.take_left]
    exact hc
theorem canC_mem {f : List UInt8 → Tr} : ∀ {k : Nat} {c : Cl}, c ∈ canC f k → ∃ i, i < k ∧ c = (letA i, f (letA i))
  | 0, c, h => by cases h
  | k + 1, c, h => by
    rw [canC, List.mem_append] at h
    rcases h with h | h
    · obtain ⟨i, hi, e⟩ := canC_mem h; exact ⟨i, by omega, e⟩
    · unfold keepC at h
      split at h
      · cases h
      · exact ⟨k, by omega, by simpa using h⟩
/-- What is found is a substitution, if its types are valid. -/
theorem canC_subst {f : List UInt8 → Tr} : ∀ (k : Nat), k ≤ 26 → (∀ c ∈ canC f k, validT conB c.2 = true) → substB (canC f k) = true
  | 0, _, _ => rfl
  | k + 1, hk, h => by
    have ih := canC_subst k (by omega) (fun c hc => h c (by rw [canC]; exact List.mem_append_left _ hc))
    by_cases hkp : keepC (letA k) (f (letA k)) = []
    · rw [canC, hkp, List.append_nil]; exact ih
    · have e : keepC (letA k) (f (letA k)) = [(letA k, f (letA k))] := by unfold keepC at hkp ⊢; split at hkp; exact absurd rfl hkp; rw [if_neg ‹_›]
      have hv := h (letA k, f (letA k)) (by rw [canC, e]; simp)
      rw [canC, e]
      refine substB_snoc ih ?_
      unfold nextC
      rw [letter_varB (by omega), hv]
      cases hl : (canC f k).getLast? with
      | none => rfl
      | some p =>
        obtain ⟨i, hi, rfl⟩ := canC_mem (List.mem_of_getLast? hl)
        simp only [letter_less (by omega : i < 26) (by omega : k < 26), hi, decide_true, Bool.and_self]
end Go.D

/- The size that a type has behind a substitution. -/
set_option linter.unusedVariables false
set_option linter.unusedSimpArgs false
set_option linter.unnecessarySimpa false
set_option maxRecDepth 100000
namespace Go.D
open Go Go.Vm Go.Proofs Go.RowKit

/-- A map of the sizes of what is known. -/
def sEnts : Nat → Sub' → List (AV × AV × Nat)
  | _, [] => []
  | k, e :: r => (.str e.1, szV (ofT e.2), k) :: sEnts (k + 1) r
theorem sEnts_len : ∀ (k : Nat) (s : Sub'), (sEnts k s).length = s.length
  | k, [] => rfl
  | k, e :: r => by simp [sEnts, sEnts_len (k + 1) r]
theorem mgetS (n : List UInt8) : ∀ (k : Nat) (s : Sub'), mget (.str n) (sEnts k s) = (s.look n).map fun t => szV (ofT t)
  | k, [] => rfl
  | k, e :: r => by
    unfold sEnts mget Sub'.look
    by_cases h : n = e.1
    · simp [h, keq]
    · simp only [keq, h, decide_false, Bool.false_eq_true, if_false]
      exact mgetS n (k + 1) r
theorem mputS (n : List UInt8) (t : Tr) : ∀ (k : Nat) (s : Sub'), s.look n = none → mput (.str n) (szV (ofT t)) (k + s.length) (sEnts k s) = sEnts k (s ++ [(n, t)])
  | k, [], _ => by simp [sEnts, mput]
  | k, e :: r, h => by
    unfold Sub'.look at h
    by_cases hh : n = e.1
    · simp [hh] at h
    · simp only [hh, if_false] at h
      have := mputS n t (k + 1) r h
      unfold sEnts mput
      simp only [keq, hh, decide_false, Bool.false_eq_true, if_false, List.cons_append, sEnts, List.length_cons]
      rw [← this]
      congr 2
      omega
theorem keysS (T : Nat → TI) (g l : List Ent) : ∀ (k : Nat) (s : Sub'), ∀ e ∈ sEnts k s, kOK T g l .string e.1
  | k, [], e, h => by simp [sEnts] at h
  | k, a :: r, e, h => by
    simp only [sEnts] at h
    rcases List.mem_cons.1 h with rfl | h
    · simp [kOK]
    · exact keysS T g l (k + 1) r e h
theorem ofTs_app (a b : List Tr) : ofTs (a ++ b) = ofTs a ++ ofTs b := by simp [ofTs_map]
def ZT (t : Tr) : Prop := ∀ (s : Sub') (σ : List Ent) (m : Nat), okT t → σ[m]? = some (.map (sEnts 0 s) s.length) → ACalls E 88 [.mp m, tyV t] σ fun r τ => r = szV (ofT (putT s t)) ∧ τ = σ
set_option maxHeartbeats 4000000 in
theorem size_step (d n : List UInt8) (us : List Tr) (ih : ∀ u ∈ us, ZT u) : ZT (.mk d n us) := by
  intro s σ m hl hm
  obtain ⟨hfew, hdn⟩ := okT_down d n us hl
  have gk := sget_of2 hm
  refine xacalls T0 .drop [] Tryz.func88 rfl (by kernel_rfl) (by kernel_rfl) (by simp [Tryz.ntmps88]) ?_
  have hs := keysS tab
  obtain ⟨z, hz⟩ : ∃ z : Int × Int, (∃ t, Sub'.look s n = some t ∧ ¬ d = kiVar ∧ z = ofT t) ∨ (Sub'.look s n = none ∧ z = (0, 0)) ∨ (∃ t, Sub'.look s n = some t ∧ d = kiVar) := by
    cases hlk : Sub'.look s n with
    | none => exact ⟨_, .inr (.inl ⟨rfl, rfl⟩)⟩
    | some t =>
      by_cases hd : d = kiVar
      · exact ⟨(0, 0), .inr (.inr ⟨t, rfl, hd⟩)⟩
      · exact ⟨_, .inl ⟨t, rfl, hd, rfl⟩⟩
  rw [← or_assoc] at hz
  rcases hz with hz | ⟨t, hlk, hd⟩
  rotate_left
  · have t1 : (d = [118, 97, 114]) = True := eq_true hd
    have heq : putT s (.mk d n us) = t := by unfold putT; rw [if_pos ⟨hd, by rw [hlk]; rfl⟩, hlk]; rfl
    rw [heq]
    (simp only [tyV, szV, tysV_len, gk, mgetS, hlk, t1, Option.map_some, (vmA), Nat.reduceEqDiff, reduceIte, Nat.reduceAdd, Int.reduceToNat, Int.reduceLE, Int.reduceLT, Int.reduceEq, Int.reduceNe, Int.reduceAdd, Int.reduceSub, Int.reduceNeg, Nat.reduceLT, Nat.reduceLeDiff, Nat.reduceBEq, undef, (stA), Nat.reduceMul]; try simp (disch := omega) only [(vmp)])
    exact ⟨rfl, fun e he => keysS tab _ _ 0 s e he⟩
  have heq : putT s (.mk d n us) = .mk d n (putTs s us) := by
    unfold putT
    rcases hz with ⟨t, hlk, n1, _⟩ | ⟨hlk, _⟩
    · rw [if_neg (fun h => n1 h.1)]
    · rw [if_neg (fun h => by rw [hlk] at h; cases h.2)]
  rw [heq]
  rcases hz with ⟨t, hlk, n1, hz⟩ | ⟨hlk, hz⟩
  rotate_left
  (simp only [tyV, szV, tysV_len, gk, mgetS, hlk, Option.map_none, (vmA), Nat.reduceEqDiff, reduceIte, Nat.reduceAdd, Int.reduceToNat, Int.reduceLE, Int.reduceLT, Int.reduceEq, Int.reduceNe, Int.reduceAdd, Int.reduceSub, Int.reduceNeg, Nat.reduceLT, Nat.reduceLeDiff, Nat.reduceBEq, undef, (stA), Nat.reduceMul]; try simp (disch := omega) only [(vmp)])
  refine ⟨⟨rfl, fun e he => keysS tab _ _ 0 s e he⟩, ?_⟩
  rotate_left
  have n1 : ¬ d = [118, 97, 114] := n1
  (simp only [tyV, szV, tysV_len, gk, mgetS, hlk, n1, Option.map_some, (vmA), Nat.reduceEqDiff, reduceIte, Nat.reduceAdd, Int.reduceToNat, Int.reduceLE, Int.reduceLT, Int.reduceEq, Int.reduceNe, Int.reduceAdd, Int.reduceSub, Int.reduceNeg, Nat.reduceLT, Nat.reduceLeDiff, Nat.reduceBEq, undef, (stA), Nat.reduceMul]; try simp (disch := omega) only [(vmp)])
  refine ⟨⟨rfl, fun e he => keysS tab _ _ 0 s e he⟩, ?_⟩
  all_goals
    refine xloop (α := Nat × List Ent) T0 (fun x => [(0, .mp m), (4, .ref (σ.length + 1) 0 0), (7, .ref (σ.length + 3) 0 0), (27, .sl (tysV us)), (28, i64 us.length), (29, i64 x.1)]) (fun _ => σ)
      (fun x => .arr 24 [.str d, .str n, .sl (tysV us)] 0 0 :: .arr 89 [i64 0, i64 0] 0 0 :: .arr 89 [i64 z.1, i64 z.2] 0 0 :: .arr 89 [i64 (aboveS (1, 1) (ofTs (putTs s (us.take x.1)))).1, i64 (aboveS (1, 1) (ofTs (putTs s (us.take x.1)))).2] 0 0 :: x.2)
      (fun x => x.1 ≤ us.length) (fun x => us.length - x.1) (by kernel_rfl)
      ⟨(0, []), by simp, by (simp only [(vmA), Nat.reduceEqDiff, reduceIte, Nat.reduceAdd, Int.reduceToNat, Int.reduceLE, Int.reduceLT, Int.reduceEq, Int.reduceNe, Int.reduceAdd, Int.reduceSub, Int.reduceNeg, Nat.reduceLT, Nat.reduceLeDiff, Nat.reduceBEq, undef, (stA), Nat.reduceMul, Int.natCast_zero]; try simp (disch := omega) only [(vmp)]), rfl, by subst hz; rfl⟩ ?_
    rintro ⟨i, junk⟩ hi
    simp only at hi
    by_cases h : (i : Int) < us.length
    · have hi' : i < us.length := by omega
      have hu : us[i]? = some us[i] := List.getElem?_eq_getElem hi'
      obtain ⟨s1, s2⟩ := take_split us i _ hu
      have hmem : us[i] ∈ us := List.getElem_mem hi'
      generalize us[i] = u at *
      have hg := tysV_get hu
      have hc := fun l => ih u hmem s (σ ++ l) m (hdn u hmem) (get_olds hm l)
      have hnext : aboveS (1, 1) (ofTs (putTs s (us.take (i + 1)))) = (wr ((aboveS (1, 1) (ofTs (putTs s (us.take i)))).1 + (ofT (putT s u)).1), max (aboveS (1, 1) (ofTs (putTs s (us.take i)))).2 (wr ((ofT (putT s u)).2 + 1))) := by
        have e1 : putTs s (us.take (i + 1)) = putTs s (us.take i) ++ [putT s u] := by rw [s1, putTs_map, putTs_map]; simp
        rw [e1, ofTs_app]
        exact aboveS_app _ _ _
      generalize ofT (putT s u) = zz at *
      cases u with
      | mk d4 n4 us4 =>
      simp only [tyV, szV] at hg hc
      (simp only [h, hg, tysV_len, (vmA), Nat.reduceEqDiff, reduceIte, Nat.reduceAdd, Int.reduceToNat, Int.reduceLE, Int.reduceLT, Int.reduceEq, Int.reduceNe, Int.reduceAdd, Int.reduceSub, Int.reduceNeg, Nat.reduceLT, Nat.reduceLeDiff, Nat.reduceBEq, undef, (stA), Nat.reduceMul]; try simp (disch := omega) only [(vmp)])
      refine xWait.go (hc _) ?_
      (simp only [(vmA), Nat.reduceEqDiff, reduceIte, Nat.reduceAdd, Int.reduceToNat, Int.reduceLE, Int.reduceLT, Int.reduceEq, Int.reduceNe, Int.reduceAdd, Int.reduceSub, Int.reduceNeg, Nat.reduceLT, Nat.reduceLeDiff, Nat.reduceBEq, undef, (stA), Nat.reduceMul]; try simp (disch := omega) only [(vmp)])
      exact ⟨(i + 1, junk ++ [.arr 24 [.str d4, .str n4, .sl (tysV us4)] 0 0, .arr 89 [i64 zz.1, i64 zz.2] 0 0]), by simp only; omega, by simp only; omega, rfl, by simp only [hnext, wr]⟩
    · have hie : i = us.length := by omega
      subst hie
      (simp only [h, List.take_of_length_le (Nat.le_refl _), (vmA), Nat.reduceEqDiff, reduceIte, Nat.reduceAdd, Int.reduceToNat, Int.reduceLE, Int.reduceLT, Int.reduceEq, Int.reduceNe, Int.reduceAdd, Int.reduceSub, Int.reduceNeg, Nat.reduceLT, Nat.reduceLeDiff, Nat.reduceBEq, undef, (stA), Nat.reduceMul]; try simp (disch := omega) only [(vmp)])
      simp only [ofT]
      try rfl
theorem size_ok : ∀ (m : Nat) (t : Tr), SizeOf.sizeOf t ≤ m → ZT t
  | 0, .mk d n us, h => by simp at h
  | m + 1, .mk d n us, h => size_step d n us fun u hu => size_ok m u (by
      have := List.sizeOf_lt_of_mem hu
      simp at h; omega)
end Go.D

/- A substitution applied to a type. -/
set_option linter.unusedVariables false
set_option linter.unusedSimpArgs false
set_option linter.unnecessarySimpa false
set_option maxRecDepth 100000
namespace Go.D
open Go Go.Vm Go.Proofs Go.RowKit

set_option maxHeartbeats 8000000 in
theorem apply_ok (l : List Cl) (hl : l.length ≤ 26) (hd : distC l) (hk : okV l) (t : Tr) (ht : okT t) (σ : List Ent) :
    ACalls E 49 [.sl (clsV l), tyV t] σ fun r τ => r = .tup [tyV (applyR l t).1, i64 (applyR l t).2] ∧ τ = σ := by
  refine xacalls T0 .freeze [] Tryz.func49 rfl (by kernel_rfl) (by kernel_rfl) (by simp [Tryz.ntmps49]) ?_
  have hp := putT_ok hk ht
  have c1 := fun σ' m hm => size_ok _ t (Nat.le_refl _) l σ' m ht hm
  have c2 := fun σ' m hm => put_ok _ t (Nat.le_refl _) false l σ' m ht hm
  have c3 := fun σ' => clone_ok _ _ (Nat.le_refl _) σ' hp
  have c4 : ∀ A, ACalls E 51 [.sl (clsV l)] (σ ++ A) fun r τ => r = .mp (σ.length + A.length) ∧ τ = σ ++ (A ++ .map (mEntsN false 0 l) l.length :: l.map clE) := fun A => by
    have := table_ok l hl hd (σ ++ A)
    rw [List.append_assoc, List.length_append] at this
    exact this
  have c5 := fun σ' => Fits_ok (ofT (putT l t)) σ'
  unfold applyR
  cases t with
  | mk d n us =>
  simp only [tyV] at c1 c2
  (simp only [tyV, clsV_len, (vmA), Nat.reduceEqDiff, reduceIte, Nat.reduceAdd, Int.reduceToNat, Int.reduceLE, Int.reduceLT, Int.reduceEq, Int.reduceNe, Int.reduceAdd, Int.reduceSub, Int.reduceNeg, Nat.reduceLT, Nat.reduceLeDiff, Nat.reduceBEq, undef, (stA), Nat.reduceMul]; try simp (disch := omega) only [(vmp)])
  refine xloop (α := Nat × List Ent) T0 (fun x => [(0, .sl (clsV l)), (3, .ref σ.length 0 0), (4, .ref (σ.length + 1) 0 0), (6, .mp (σ.length + 2)), (10, .sl (clsV l)), (11, i64 l.length), (12, i64 x.1)]) (fun _ => σ)
    (fun x => .arr 24 [.str d, .str n, .sl (tysV us)] 0 0 :: .arr 24 [.str [], .str [], .v (.slice none 0 0)] 0 0 :: .map (sEnts 0 (l.take x.1)) (l.take x.1).length :: x.2)
    (fun x => x.1 ≤ l.length) (fun x => l.length - x.1) (by kernel_rfl)
    ⟨(0, []), by simp, by (simp only [(vmA), Nat.reduceEqDiff, reduceIte, Nat.reduceAdd, Int.reduceToNat, Int.reduceLE, Int.reduceLT, Int.reduceEq, Int.reduceNe, Int.reduceAdd, Int.reduceSub, Int.reduceNeg, Nat.reduceLT, Nat.reduceLeDiff, Nat.reduceBEq, undef, (stA), Nat.reduceMul, Int.natCast_zero]; try simp (disch := omega) only [(vmp)]), rfl, rfl⟩ ?_
  rintro ⟨i, junk⟩ hi
  simp only at hi
  by_cases h : (i : Int) < l.length
  · have hi1 : i < l.length := by omega
    have hu : l[i]? = some l[i] := List.getElem?_eq_getElem hi1
    have hm := hk _ (List.getElem_mem hi1)
    have hlk := hd i _ hu
    have s1 := (take_splitC l i _ hu).1
    have hlen : (l.take i).length = i := by simp; omega
    generalize l[i] = u at *
    have hg := clsV_get hu
    obtain ⟨a, t2⟩ := u
    have hput := mputS a t2 0 (l.take i) hlk
    have hc := fun σ' => OfType_ok _ t2 (Nat.le_refl _) σ' hm
    rw [Nat.zero_add, hlen] at hput
    rcases hof : ofT t2 with ⟨z1, z2⟩
    simp only [hof, szV] at hc hput
    cases t2 with
    | mk b c cs =>
    simp only [clV, clC, tyCells] at hg
    simp only [tyV] at hc
    generalize hti : l.take i = ti at *
    (simp only [h, hg, clsV_len, (vmA), Nat.reduceEqDiff, reduceIte, Nat.reduceAdd, Int.reduceToNat, Int.reduceLE, Int.reduceLT, Int.reduceEq, Int.reduceNe, Int.reduceAdd, Int.reduceSub, Int.reduceNeg, Nat.reduceLT, Nat.reduceLeDiff, Nat.reduceBEq, undef, (stA), Nat.reduceMul]; try simp (disch := omega) only [(vmp)])
    refine ydraw T0 [6] (by kernel_rfl) (by kernel_rfl) (by kernel_rfl) (by kernel_rfl) ?_
    (simp only [(vmA), Nat.reduceEqDiff, reduceIte, Nat.reduceAdd, Int.reduceToNat, Int.reduceLE, Int.reduceLT, Int.reduceEq, Int.reduceNe, Int.reduceAdd, Int.reduceSub, Int.reduceNeg, Nat.reduceLT, Nat.reduceLeDiff, Nat.reduceBEq, undef, (stA), Nat.reduceMul]; try simp (disch := omega) only [(vmp)])
    refine yNext.go (by rfl) _ rfl (hc _) ?_
    (simp only [hlen, mgetS, hlk, hput, Option.map_none, Option.isSome_none, Bool.false_eq_true, if_false, (vmA), Nat.reduceEqDiff, reduceIte, Nat.reduceAdd, Int.reduceToNat, Int.reduceLE, Int.reduceLT, Int.reduceEq, Int.reduceNe, Int.reduceAdd, Int.reduceSub, Int.reduceNeg, Nat.reduceLT, Nat.reduceLeDiff, Nat.reduceBEq, undef, (stA), Nat.reduceMul]; try simp (disch := omega) only [(vmp)])
    refine ⟨⟨rfl, fun e he => keysS tab _ _ 0 ti e he⟩, (i + 1, junk ++ [Ent.arr 33 [AV.str a, AV.str b, AV.str c, AV.sl (tysV cs)] 0 0]), by simp only; omega, by simp only; omega, rfl, ?_⟩
    simp only [s1, List.length_append, List.length_cons, List.length_nil, hlen]
  · have hie : i = l.length := by omega
    subst hie
    (simp only [h, List.take_of_length_le (Nat.le_refl _), (vmA), Nat.reduceEqDiff, reduceIte, Nat.reduceAdd, Int.reduceToNat, Int.reduceLE, Int.reduceLT, Int.reduceEq, Int.reduceNe, Int.reduceAdd, Int.reduceSub, Int.reduceNeg, Nat.reduceLT, Nat.reduceLeDiff, Nat.reduceBEq, undef, (stA), Nat.reduceMul]; try simp (disch := omega) only [(vmp)])
    refine xWait.go (c1 _ _ (by rw [List.getElem?_append_right (by omega), Nat.add_sub_cancel_left]; rfl)) ?_
    rcases hof : ofT (putT l (.mk d n us)) with ⟨z1, z2⟩
    simp only [hof, szV] at c5
    (simp only [szV, (vmA), Nat.reduceEqDiff, reduceIte, Nat.reduceAdd, Int.reduceToNat, Int.reduceLE, Int.reduceLT, Int.reduceEq, Int.reduceNe, Int.reduceAdd, Int.reduceSub, Int.reduceNeg, Nat.reduceLT, Nat.reduceLeDiff, Nat.reduceBEq, undef, (stA), Nat.reduceMul]; try simp (disch := omega) only [(vmp)])
    refine xWait.go (c5 _) ?_
    cases hf : fitsB (z1, z2)
    · (simp only [Bool.false_eq_true, if_false, tysV, (vmA), Nat.reduceEqDiff, reduceIte, Nat.reduceAdd, Int.reduceToNat, Int.reduceLE, Int.reduceLT, Int.reduceEq, Int.reduceNe, Int.reduceAdd, Int.reduceSub, Int.reduceNeg, Nat.reduceLT, Nat.reduceLeDiff, Nat.reduceBEq, undef, (stA), Nat.reduceMul]; try simp (disch := omega) only [(vmp)])
      exact ⟨_, .tup (.cons (.agg (.cons (.refl _) (.cons (.refl _) (.cons .none .nil)))) (.cons (.refl _) .nil)), by simp only [AV.low, AV.low.lows, Bool.and_self], rfl⟩
    · (simp only [if_true, (vmA), Nat.reduceEqDiff, reduceIte, Nat.reduceAdd, Int.reduceToNat, Int.reduceLE, Int.reduceLT, Int.reduceEq, Int.reduceNe, Int.reduceAdd, Int.reduceSub, Int.reduceNeg, Nat.reduceLT, Nat.reduceLeDiff, Nat.reduceBEq, undef, (stA), Nat.reduceMul]; try simp (disch := omega) only [(vmp)])
      refine zdraw T0 ⟨[5], [1], [2], some [0], false⟩ (by kernel_rfl) (by kernel_rfl) (by kernel_rfl) (by kernel_rfl) ?_
      (simp only [zDraw_nil,zDraw_go,zDraw_if,zSlot_some,zGuard_tt,zGuard_ff,zGuard_tf,zGuard_ft,zGuard_un,zOut_some,zOut_pure,zOut_cond,zNext_move,zNext_assign,zNext_pick,zNext_buildSlice,zNext_build,zNext_load,zNext_store,zNext_builtin,zNext_fieldAddr,zNext_nilCheck,zNext_indexAddr,zNext_unOp,zNext_binOp, (vmA), Nat.reduceEqDiff, reduceIte, Nat.reduceAdd, Int.reduceToNat, Int.reduceLE, Int.reduceLT, Int.reduceEq, Int.reduceNe, Int.reduceAdd, Int.reduceSub, Int.reduceNeg, Nat.reduceLT, Nat.reduceLeDiff, Nat.reduceBEq, undef, (stA), Nat.reduceMul]; try simp (disch := omega) only [(vmp)])
      refine zNext.softC (by rfl) (by rfl) _ rfl (c4 _) rfl (by intro n hn; simp at hn; subst hn; rfl) ?_
      (simp only [zDraw_nil,zDraw_go,zDraw_if,zSlot_some,zGuard_tt,zGuard_ff,zGuard_tf,zGuard_ft,zGuard_un,zOut_some,zOut_pure,zOut_cond,zNext_move,zNext_assign,zNext_pick,zNext_buildSlice,zNext_build,zNext_load,zNext_store,zNext_builtin,zNext_fieldAddr,zNext_nilCheck,zNext_indexAddr,zNext_unOp,zNext_binOp, (vmA), Nat.reduceEqDiff, reduceIte, Nat.reduceAdd, Int.reduceToNat, Int.reduceLE, Int.reduceLT, Int.reduceEq, Int.reduceNe, Int.reduceAdd, Int.reduceSub, Int.reduceNeg, Nat.reduceLT, Nat.reduceLeDiff, Nat.reduceBEq, undef, (stA), Nat.reduceMul]; try simp (disch := omega) only [(vmp)])
      refine zNext.looseS (r := .agg [.str d, .str n, .sl (tysV us)]) rfl rfl rfl rfl (fun g' l' hg' hl' => ⟨True, trivial, ?_⟩) ?_
      · have q1 := hl' 0 (by simp)
        have s1 : sget g' l' σ.length = some (.arr 24 [.str d, .str n, .sl (tysV us)] 0 0) := by unfold sget; rw [hg', if_neg (by omega), Nat.sub_self, q1]; rfl
        (simp only [s1, (vmA), Nat.reduceEqDiff, reduceIte, Nat.reduceAdd, Int.reduceToNat, Int.reduceLE, Int.reduceLT, Int.reduceEq, Int.reduceNe, Int.reduceAdd, Int.reduceSub, Int.reduceNeg, Nat.reduceLT, Nat.reduceLeDiff, Nat.reduceBEq, undef, (stA), Nat.reduceMul]; try simp (disch := omega) only [(vmp)])
      (simp only [zDraw_nil,zDraw_go,zDraw_if,zSlot_some,zGuard_tt,zGuard_ff,zGuard_tf,zGuard_ft,zGuard_un,zOut_some,zOut_pure,zOut_cond,zNext_move,zNext_assign,zNext_pick,zNext_buildSlice,zNext_build,zNext_load,zNext_store,zNext_builtin,zNext_fieldAddr,zNext_nilCheck,zNext_indexAddr,zNext_unOp,zNext_binOp, (vmA), Nat.reduceEqDiff, reduceIte, Nat.reduceAdd, Int.reduceToNat, Int.reduceLE, Int.reduceLT, Int.reduceEq, Int.reduceNe, Int.reduceAdd, Int.reduceSub, Int.reduceNeg, Nat.reduceLT, Nat.reduceLeDiff, Nat.reduceBEq, undef, (stA), Nat.reduceMul]; try simp (disch := omega) only [(vmp)])
      refine zNext.go (by rfl) (by rfl) (by rfl) _ rfl (c2 _ _ ?_) ?_
      · rw [List.getElem?_append_right (by omega), Nat.add_sub_cancel_left]
        show (junk ++ Ent.map (mEntsN false 0 l) l.length :: List.map clE l)[junk.length]? = _
        rw [List.getElem?_append_right (Nat.le_refl _), Nat.sub_self]
        rfl
      (simp only [zDraw_nil,zDraw_go,zDraw_if,zSlot_some,zGuard_tt,zGuard_ff,zGuard_tf,zGuard_ft,zGuard_un,zOut_some,zOut_pure,zOut_cond,zNext_move,zNext_assign,zNext_pick,zNext_buildSlice,zNext_build,zNext_load,zNext_store,zNext_builtin,zNext_fieldAddr,zNext_nilCheck,zNext_indexAddr,zNext_unOp,zNext_binOp, (vmA), Nat.reduceEqDiff, reduceIte, Nat.reduceAdd, Int.reduceToNat, Int.reduceLE, Int.reduceLT, Int.reduceEq, Int.reduceNe, Int.reduceAdd, Int.reduceSub, Int.reduceNeg, Nat.reduceLT, Nat.reduceLeDiff, Nat.reduceBEq, undef, (stA), Nat.reduceMul]; try simp (disch := omega) only [(vmp)])
      refine zNext.go (by rfl) (by rfl) (by rfl) _ rfl (c3 _) ?_
      rcases hq : putT l (.mk d n us) with ⟨q1, q2, q3⟩
      (simp only [tyV, zDraw_nil,zDraw_go,zDraw_if,zSlot_some,zGuard_tt,zGuard_ff,zGuard_tf,zGuard_ft,zGuard_un,zOut_some,zOut_pure,zOut_cond,zNext_move,zNext_assign,zNext_pick,zNext_buildSlice,zNext_build,zNext_load,zNext_store,zNext_builtin,zNext_fieldAddr,zNext_nilCheck,zNext_indexAddr,zNext_unOp,zNext_binOp, (vmA), Nat.reduceEqDiff, reduceIte, Nat.reduceAdd, Int.reduceToNat, Int.reduceLE, Int.reduceLT, Int.reduceEq, Int.reduceNe, Int.reduceAdd, Int.reduceSub, Int.reduceNeg, Nat.reduceLT, Nat.reduceLeDiff, Nat.reduceBEq, undef, (stA), Nat.reduceMul]; try simp (disch := omega) only [(vmp)])
      exact ⟨_, .refl _, by simp only [AV.low, AV.low.lows, tysV_low, Bool.and_self], rfl⟩
end Go.D

/- A substitution applied; one behind another one. -/
set_option linter.unusedVariables false
set_option linter.unusedSimpArgs false
set_option linter.unnecessarySimpa false
set_option maxRecDepth 100000
namespace Go.D
open Go Go.Vm Go.Proofs Go.RowKit

def appR (l : List Cl) (t : Tr) : Tr × Int := if substB l = true ∧ validT conB t = true then applyR l t else (.mk [] [] [], 40)
set_option maxHeartbeats 8000000 in
theorem Apply_ok (l : List Cl) (hl : lenC l) (t : Tr) (ht : lenT t) (σ : List Ent) :
    ACalls E 17 [.sl (clsV l), tyV t] σ fun r τ => r = .tup [tyV (appR l t).1, i64 (appR l t).2] ∧ τ = σ := by
  refine xacalls T0 .freeze [] Tryz.func17 rfl (by kernel_rfl) (by kernel_rfl) (by simp [Tryz.ntmps17]) ?_
  have c1 := fun σ' => isSubst_ok l hl σ'
  have c2 := fun σ' => ValidType_ok t ht σ'
  unfold appR
  cases h1 : substB l
  · simp only [h1] at c1
    cases t with
    | mk d n us =>
    simp only [tyV] at c2
    (simp only [tyV, tysV, Bool.false_eq_true, false_and, if_false, (vmA), Nat.reduceEqDiff, reduceIte, Nat.reduceAdd, Int.reduceToNat, Int.reduceLE, Int.reduceLT, Int.reduceEq, Int.reduceNe, Int.reduceAdd, Int.reduceSub, Int.reduceNeg, Nat.reduceLT, Nat.reduceLeDiff, Nat.reduceBEq, undef, (stA), Nat.reduceMul]; try simp (disch := omega) only [(vmp)])
    refine xWait.go (c1 _) ?_
    (simp only [(vmA), Nat.reduceEqDiff, reduceIte, Nat.reduceAdd, Int.reduceToNat, Int.reduceLE, Int.reduceLT, Int.reduceEq, Int.reduceNe, Int.reduceAdd, Int.reduceSub, Int.reduceNeg, Nat.reduceLT, Nat.reduceLeDiff, Nat.reduceBEq, undef, (stA), Nat.reduceMul]; try simp (disch := omega) only [(vmp)])
    exact ⟨_, .tup (.cons (.agg (.cons (.refl _) (.cons (.refl _) (.cons .none .nil)))) (.cons (.refl _) .nil)), by simp only [AV.low, AV.low.lows, Bool.and_self], rfl⟩
  cases h2 : validT conB t
  · simp only [h1, h2] at c1 c2
    cases t with
    | mk d n us =>
    simp only [tyV] at c2
    (simp only [tyV, tysV, Bool.false_eq_true, and_false, if_false, (vmA), Nat.reduceEqDiff, reduceIte, Nat.reduceAdd, Int.reduceToNat, Int.reduceLE, Int.reduceLT, Int.reduceEq, Int.reduceNe, Int.reduceAdd, Int.reduceSub, Int.reduceNeg, Nat.reduceLT, Nat.reduceLeDiff, Nat.reduceBEq, undef, (stA), Nat.reduceMul]; try simp (disch := omega) only [(vmp)])
    refine xWait.go (c1 _) ?_
    (simp only [(vmA), Nat.reduceEqDiff, reduceIte, Nat.reduceAdd, Int.reduceToNat, Int.reduceLE, Int.reduceLT, Int.reduceEq, Int.reduceNe, Int.reduceAdd, Int.reduceSub, Int.reduceNeg, Nat.reduceLT, Nat.reduceLeDiff, Nat.reduceBEq, undef, (stA), Nat.reduceMul]; try simp (disch := omega) only [(vmp)])
    refine xWait.go (c2 _) ?_
    (simp only [(vmA), Nat.reduceEqDiff, reduceIte, Nat.reduceAdd, Int.reduceToNat, Int.reduceLE, Int.reduceLT, Int.reduceEq, Int.reduceNe, Int.reduceAdd, Int.reduceSub, Int.reduceNeg, Nat.reduceLT, Nat.reduceLeDiff, Nat.reduceBEq, undef, (stA), Nat.reduceMul]; try simp (disch := omega) only [(vmp)])
    exact ⟨_, .tup (.cons (.agg (.cons (.refl _) (.cons (.refl _) (.cons .none .nil)))) (.cons (.refl _) .nil)), by simp only [AV.low, AV.low.lows, Bool.and_self], rfl⟩
  have c3 := fun σ' => apply_ok l (substB_few h1) (substB_dist h1) (substB_okV h1 hl) t ⟨ht, valid_typ h2⟩ σ'
  simp only [h1, h2] at c1 c2
  rw [if_pos ⟨rfl, rfl⟩]
  rcases hr : applyR l t with ⟨⟨a, b, cs⟩, z⟩
  simp only [hr] at c3
  cases t with
  | mk d n us =>
  simp only [tyV] at c2 c3
  (simp only [tyV, (vmA), Nat.reduceEqDiff, reduceIte, Nat.reduceAdd, Int.reduceToNat, Int.reduceLE, Int.reduceLT, Int.reduceEq, Int.reduceNe, Int.reduceAdd, Int.reduceSub, Int.reduceNeg, Nat.reduceLT, Nat.reduceLeDiff, Nat.reduceBEq, undef, (stA), Nat.reduceMul]; try simp (disch := omega) only [(vmp)])
  refine xWait.go (c1 _) ?_
  (simp only [(vmA), Nat.reduceEqDiff, reduceIte, Nat.reduceAdd, Int.reduceToNat, Int.reduceLE, Int.reduceLT, Int.reduceEq, Int.reduceNe, Int.reduceAdd, Int.reduceSub, Int.reduceNeg, Nat.reduceLT, Nat.reduceLeDiff, Nat.reduceBEq, undef, (stA), Nat.reduceMul]; try simp (disch := omega) only [(vmp)])
  refine xWait.go (c2 _) ?_
  (simp only [(vmA), Nat.reduceEqDiff, reduceIte, Nat.reduceAdd, Int.reduceToNat, Int.reduceLE, Int.reduceLT, Int.reduceEq, Int.reduceNe, Int.reduceAdd, Int.reduceSub, Int.reduceNeg, Nat.reduceLT, Nat.reduceLeDiff, Nat.reduceBEq, undef, (stA), Nat.reduceMul]; try simp (disch := omega) only [(vmp)])
  refine xWait.go (c3 _) ?_
  (simp only [(vmA), Nat.reduceEqDiff, reduceIte, Nat.reduceAdd, Int.reduceToNat, Int.reduceLE, Int.reduceLT, Int.reduceEq, Int.reduceNe, Int.reduceAdd, Int.reduceSub, Int.reduceNeg, Nat.reduceLT, Nat.reduceLeDiff, Nat.reduceBEq, undef, (stA), Nat.reduceMul]; try simp (disch := omega) only [(vmp)])
  exact ⟨_, .refl _, by simp only [AV.low, AV.low.lows, tysV_low, Bool.and_self], rfl⟩

theorem u8_next {i : Nat} (h : i < 26) : IntKind.u8.wrap (97 + (i : Int) + 1) = 97 + ((i + 1 : Nat) : Int) := by
  rw [wrapU8 (by omega) (by omega)]; omega
theorem u8_byte {i : Nat} (h : i < 26) : avBytes [.v (.int .u8 (97 + (i : Int)))] = some [(97 + i).toUInt8] := by
  have h1 : ((97 + i).toUInt8).toNat = 97 + i := by
    show (UInt8.ofNat (97 + i)).toNat = 97 + i
    rw [UInt8.toNat_ofNat']
    exact Nat.mod_eq_of_lt (by omega)
  have hb : 97 + (i : Int) = ((97 + i).toUInt8.toNat : Int) := by rw [h1]; omega
  rw [hb]; simp only [avBytes, avByte_of, Option.bind_some, Option.map_some]
set_option maxHeartbeats 8000000 in
theorem After_ok (s t : List Cl) (hs : lenC s) (ht : lenC t) (σ : List Ent) :
    ACalls E 19 [.sl (clsV s), .sl (clsV t)] σ fun r τ => r = .tup [.sl (clsV (afterR s t).1), i64 (afterR s t).2] ∧ τ = σ := by
  refine xacalls T0 .freeze [] Tryz.func19 rfl (by kernel_rfl) (by kernel_rfl) (by simp [Tryz.ntmps19]) ?_
  have c1 := fun σ' => isSubst_ok s hs σ'
  have c2 := fun σ' => isSubst_ok t ht σ'
  unfold afterR
  cases h1 : substB s
  · simp only [h1] at c1
    (simp only [Bool.false_eq_true, false_and, if_false, (vmA), Nat.reduceEqDiff, reduceIte, Nat.reduceAdd, Int.reduceToNat, Int.reduceLE, Int.reduceLT, Int.reduceEq, Int.reduceNe, Int.reduceAdd, Int.reduceSub, Int.reduceNeg, Nat.reduceLT, Nat.reduceLeDiff, Nat.reduceBEq, undef, (stA), Nat.reduceMul]; try simp (disch := omega) only [(vmp)])
    refine xWait.go (c1 _) ?_
    (simp only [(vmA), Nat.reduceEqDiff, reduceIte, Nat.reduceAdd, Int.reduceToNat, Int.reduceLE, Int.reduceLT, Int.reduceEq, Int.reduceNe, Int.reduceAdd, Int.reduceSub, Int.reduceNeg, Nat.reduceLT, Nat.reduceLeDiff, Nat.reduceBEq, undef, (stA), Nat.reduceMul]; try simp (disch := omega) only [(vmp)])
    exact ⟨_, .tup (.cons .none (.cons (.refl _) .nil)), by simp only [AV.low, AV.low.lows, Bool.and_self], rfl⟩
  cases h2 : substB t
  · simp only [h1, h2] at c1 c2
    (simp only [Bool.false_eq_true, and_false, if_false, (vmA), Nat.reduceEqDiff, reduceIte, Nat.reduceAdd, Int.reduceToNat, Int.reduceLE, Int.reduceLT, Int.reduceEq, Int.reduceNe, Int.reduceAdd, Int.reduceSub, Int.reduceNeg, Nat.reduceLT, Nat.reduceLeDiff, Nat.reduceBEq, undef, (stA), Nat.reduceMul]; try simp (disch := omega) only [(vmp)])
    refine xWait.go (c1 _) ?_
    (simp only [(vmA), Nat.reduceEqDiff, reduceIte, Nat.reduceAdd, Int.reduceToNat, Int.reduceLE, Int.reduceLT, Int.reduceEq, Int.reduceNe, Int.reduceAdd, Int.reduceSub, Int.reduceNeg, Nat.reduceLT, Nat.reduceLeDiff, Nat.reduceBEq, undef, (stA), Nat.reduceMul]; try simp (disch := omega) only [(vmp)])
    refine xWait.go (c2 _) ?_
    (simp only [(vmA), Nat.reduceEqDiff, reduceIte, Nat.reduceAdd, Int.reduceToNat, Int.reduceLE, Int.reduceLT, Int.reduceEq, Int.reduceNe, Int.reduceAdd, Int.reduceSub, Int.reduceNeg, Nat.reduceLT, Nat.reduceLeDiff, Nat.reduceBEq, undef, (stA), Nat.reduceMul]; try simp (disch := omega) only [(vmp)])
    exact ⟨_, .tup (.cons .none (.cons (.refl _) .nil)), by simp only [AV.low, AV.low.lows, Bool.and_self], rfl⟩
  have os := substB_okV h1 hs
  have ot := substB_okV h2 ht
  have fs := substB_few h1
  have c3 := fun u hu σ' => apply_ok t (substB_few h2) (substB_dist h2) ot u hu σ'
  have c4 := fun σ' => table_ok s fs (substB_dist h1) σ'
  have c5 : ∀ A, ACalls E 51 [.sl (clsV t)] (σ ++ A) fun r τ => r = .mp (σ.length + A.length) ∧ τ = σ ++ (A ++ .map (mEntsN false 0 t) t.length :: t.map clE) := fun A => by
    have := table_ok t (substB_few h2) (substB_dist h2) (σ ++ A)
    rw [List.append_assoc, List.length_append] at this
    exact this
  simp only [h1, h2] at c1 c2
  rw [if_pos ⟨rfl, rfl⟩]
  generalize hkk : s.map clE = J0 at *
  (simp only [(vmA), Nat.reduceEqDiff, reduceIte, Nat.reduceAdd, Int.reduceToNat, Int.reduceLE, Int.reduceLT, Int.reduceEq, Int.reduceNe, Int.reduceAdd, Int.reduceSub, Int.reduceNeg, Nat.reduceLT, Nat.reduceLeDiff, Nat.reduceBEq, undef, (stA), Nat.reduceMul]; try simp (disch := omega) only [(vmp)])
  refine xWait.go (c1 _) ?_
  (simp only [(vmA), Nat.reduceEqDiff, reduceIte, Nat.reduceAdd, Int.reduceToNat, Int.reduceLE, Int.reduceLT, Int.reduceEq, Int.reduceNe, Int.reduceAdd, Int.reduceSub, Int.reduceNeg, Nat.reduceLT, Nat.reduceLeDiff, Nat.reduceBEq, undef, (stA), Nat.reduceMul]; try simp (disch := omega) only [(vmp)])
  refine xWait.go (c2 _) ?_
  (simp only [(vmA), Nat.reduceEqDiff, reduceIte, Nat.reduceAdd, Int.reduceToNat, Int.reduceLE, Int.reduceLT, Int.reduceEq, Int.reduceNe, Int.reduceAdd, Int.reduceSub, Int.reduceNeg, Nat.reduceLT, Nat.reduceLeDiff, Nat.reduceBEq, undef, (stA), Nat.reduceMul]; try simp (disch := omega) only [(vmp)])
  refine xWait.go (c4 _) ?_
  (simp only [(vmA), Nat.reduceEqDiff, reduceIte, Nat.reduceAdd, Int.reduceToNat, Int.reduceLE, Int.reduceLT, Int.reduceEq, Int.reduceNe, Int.reduceAdd, Int.reduceSub, Int.reduceNeg, Nat.reduceLT, Nat.reduceLeDiff, Nat.reduceBEq, undef, (stA), Nat.reduceMul]; try simp (disch := omega) only [(vmp)])
  refine xWait.go (c5 _) ?_
  (simp only [(vmA), Nat.reduceEqDiff, reduceIte, Nat.reduceAdd, Int.reduceToNat, Int.reduceLE, Int.reduceLT, Int.reduceEq, Int.reduceNe, Int.reduceAdd, Int.reduceSub, Int.reduceNeg, Nat.reduceLT, Nat.reduceLeDiff, Nat.reduceBEq, undef, (stA), Nat.reduceMul]; try simp (disch := omega) only [(vmp)])
  have hJ0 : ∀ x y, (J0 ++ x :: y)[J0.length]? = some x := fun x y => by rw [List.getElem?_append_right (Nat.le_refl _), Nat.sub_self]; rfl
  generalize hq0 : J0.length = k at *
  have hlook : ∀ {l : List Cl} {n : List UInt8} {u : Tr}, okV l → Sub'.look l n = some u → okT u := fun hl h => by
    obtain ⟨e, he, rfl⟩ := look_mem h
    exact hl e he
  refine xloop (α := Nat × List Cl × List Ent × Nat) T0 (fun x => [(1, .sl (clsV t)), (6, .mp σ.length), (7, .mp (σ.length + (k + 1))), (8, rowC (σ.length + (x.2.2.2 + 1)) x.2.1), (9, .v (.int .u8 (97 + (x.1 : Int))))]) (fun _ => σ)
    (fun x => .map (mEntsN false 0 s) s.length :: x.2.2.1)
    (fun x => x.1 ≤ 26 ∧ afterL s t x.1 = some x.2.1 ∧ x.2.2.1[k]? = some (.map (mEntsN false 0 t) t.length) ∧ (x.2.1 ≠ [] → x.2.2.1[x.2.2.2]? = some (.arr 33 (x.2.1.flatMap clC) (x.2.1.length - 1) 0))) (fun x => 26 - x.1) (by kernel_rfl)
    ⟨(0, [], J0 ++ .map (mEntsN false 0 t) t.length :: t.map clE, 0), ⟨by simp, rfl, hJ0 _ _, by simp⟩, by (simp only [rowC, (vmA), Nat.reduceEqDiff, reduceIte, Nat.reduceAdd, Int.reduceToNat, Int.reduceLE, Int.reduceLT, Int.reduceEq, Int.reduceNe, Int.reduceAdd, Int.reduceSub, Int.reduceNeg, Nat.reduceLT, Nat.reduceLeDiff, Nat.reduceBEq, undef, (stA), Nat.reduceMul, Int.natCast_zero, Int.add_zero]; try simp (disch := omega) only [(vmp)]), rfl, rfl⟩ ?_
  rintro ⟨i, acc, J, rid⟩ ⟨hi, hacc, hJk, hrow⟩
  simp only at hi hacc hJk hrow
  have hal := afterL_len s t i acc hacc
  by_cases h : 97 + (i : Int) ≤ 122
  · have hi' : i < 26 := by omega
    have hav := u8_byte hi'
    have hnx := u8_next hi'
    have hJ1 : ∀ x, (J ++ x)[k]? = some (.map (mEntsN false 0 t) t.length) := fun x => get_olds hJk x
    have hcase : (Sub'.look s (letA i) = none ∧ Sub'.look t (letA i) = none) ∨ (∃ d n us, Sub'.look s (letA i) = none ∧ Sub'.look t (letA i) = some (.mk d n us)) ∨
        (∃ d n us, Sub'.look s (letA i) = some (.mk d n us) ∧ fitsB (ofT (putT t (.mk d n us))) = false) ∨ (∃ d0 n0 us0 d n us, Sub'.look s (letA i) = some (.mk d0 n0 us0) ∧ putT t (.mk d0 n0 us0) = .mk d n us ∧ fitsB (ofT (putT t (.mk d0 n0 us0))) = true) := by
      rcases hlk : Sub'.look s (letA i) with _ | ⟨d, n, us⟩
      · rcases hlk2 : Sub'.look t (letA i) with _ | ⟨d, n, us⟩
        · exact .inl ⟨rfl, rfl⟩
        · exact .inr (.inl ⟨d, n, us, rfl, rfl⟩)
      · rcases hp : putT t (.mk d n us) with ⟨d1, n1, us1⟩
        cases hf : fitsB (ofT (putT t (.mk d n us)))
        · exact .inr (.inr (.inl ⟨d, n, us, rfl, hf⟩))
        · exact .inr (.inr (.inr ⟨d, n, us, d1, n1, us1, rfl, hp, hf⟩))
    rcases hcase with ⟨hlk, hlk2⟩ | ⟨d, n, us, hlk, hlk2⟩ | ⟨d, n, us, hlk, hf⟩ | ⟨d0, n0, us0, d, n, us, hlk, hpt, hf⟩
    · have haft : afterL s t (i + 1) = some acc := by simp only [afterL, hacc, hlk, hlk2]
      simp only [letA] at hlk hlk2
      (simp only [h, hav, hJ1, mgetN, hlk, hlk2, Option.map_none, Option.bind_some, Option.map_some, List.cons_append, List.nil_append, (vmA), Nat.reduceEqDiff, reduceIte, Nat.reduceAdd, Int.reduceToNat, Int.reduceLE, Int.reduceLT, Int.reduceEq, Int.reduceNe, Int.reduceAdd, Int.reduceSub, Int.reduceNeg, Nat.reduceLT, Nat.reduceLeDiff, Nat.reduceBEq, undef, (stA), Nat.reduceMul]; try simp (disch := omega) only [(vmp)])
      exact ⟨⟨rfl, fun e he => keysN false tab _ _ 0 s e he⟩, ⟨rfl, fun e he => keysN false tab _ _ 0 t e he⟩, (i + 1, acc, _, rid), ⟨by simp only; omega, haft, hJ1 _, fun hne => get_old (hrow hne)⟩, by simp only; omega, ⟨rfl, by rw [hnx]⟩, rfl⟩
    have haft : afterL s t (i + 1) = some (acc ++ keepC (letA i) (.mk d n us)) := by simp only [afterL, hacc, hlk, hlk2]
    have hou := hlook ot hlk2
    simp only [letA] at hlk hlk2
    (simp only [h, hav, hJ1, mgetN, hlk, hlk2, Option.map_none, Option.bind_some, Option.map_some, List.cons_append, List.nil_append, tyN_false, tyV, (vmA), Nat.reduceEqDiff, reduceIte, Nat.reduceAdd, Int.reduceToNat, Int.reduceLE, Int.reduceLT, Int.reduceEq, Int.reduceNe, Int.reduceAdd, Int.reduceSub, Int.reduceNeg, Nat.reduceLT, Nat.reduceLeDiff, Nat.reduceBEq, undef, (stA), Nat.reduceMul]; try simp (disch := omega) only [(vmp)])
    refine ⟨⟨rfl, fun e he => keysN false tab _ _ 0 s e he⟩, ⟨rfl, fun e he => keysN false tab _ _ 0 t e he⟩, ?_⟩
    have hA := hJ1 [Ent.arr 24 [.str d, .str n, .sl (tysV us)] 0 0]
    have hB := fun hne => get_olds (hrow hne) [Ent.arr 24 [.str d, .str n, .sl (tysV us)] 0 0]
    have hC : (J ++ [Ent.arr 24 [.str d, .str n, .sl (tysV us)] 0 0])[J.length]? = some (Ent.arr 24 [.str d, .str n, .sl (tysV us)] 0 0) := by simp
    generalize J ++ [Ent.arr 24 [.str d, .str n, .sl (tysV us)] 0 0] = J' at hA hB hC ⊢
    rotate_left
    · have haft : afterL s t (i + 1) = none := by simp only [afterL, hacc, hlk]; rw [if_neg (by rw [hf]; simp)]
      have hall := afterL_none s t (i + 1) 26 (by omega) haft
      have c6 := fun σ' => c3 _ (hlook os hlk) σ'
      have hr : applyR t (.mk d n us) = (.mk [] [] [], 4) := by unfold applyR; rw [if_neg (by rw [hf]; simp)]
      simp only [letA] at hlk
      simp only [hr, tyV, tysV] at c6
      (simp only [h, hav, hJ1, mgetN, hlk, Option.map_none, Option.bind_some, Option.map_some, List.cons_append, List.nil_append, tyN_false, tyV, (vmA), Nat.reduceEqDiff, reduceIte, Nat.reduceAdd, Int.reduceToNat, Int.reduceLE, Int.reduceLT, Int.reduceEq, Int.reduceNe, Int.reduceAdd, Int.reduceSub, Int.reduceNeg, Nat.reduceLT, Nat.reduceLeDiff, Nat.reduceBEq, undef, (stA), Nat.reduceMul]; try simp (disch := omega) only [(vmp)])
      refine ⟨⟨rfl, fun e he => keysN false tab _ _ 0 s e he⟩, ?_⟩
      refine xWait.go (c6 _) ?_
      (simp only [hall, (vmA), Nat.reduceEqDiff, reduceIte, Nat.reduceAdd, Int.reduceToNat, Int.reduceLE, Int.reduceLT, Int.reduceEq, Int.reduceNe, Int.reduceAdd, Int.reduceSub, Int.reduceNeg, Nat.reduceLT, Nat.reduceLeDiff, Nat.reduceBEq, undef, (stA), Nat.reduceMul]; try simp (disch := omega) only [(vmp)])
      exact ⟨_, .tup (.cons .none (.cons (.refl _) .nil)), by simp only [AV.low, AV.low.lows, Bool.and_self], rfl⟩
    have haft : afterL s t (i + 1) = some (acc ++ keepC (letA i) (.mk d n us)) := by simp only [afterL, hacc, hlk]; rw [if_pos hf, hpt]
    have c6 := fun σ' => c3 _ (hlook os hlk) σ'
    have hou := putT_ok ot (hlook os hlk)
    have hr : applyR t (.mk d0 n0 us0) = (.mk d n us, 0) := by unfold applyR; rw [if_pos hf, hpt]
    rw [hpt] at hou
    simp only [letA] at hlk
    simp only [hr, tyV] at c6
    (simp only [h, hav, hJ1, mgetN, hlk, Option.map_none, Option.bind_some, Option.map_some, List.cons_append, List.nil_append, tyN_false, tyV, (vmA), Nat.reduceEqDiff, reduceIte, Nat.reduceAdd, Int.reduceToNat, Int.reduceLE, Int.reduceLT, Int.reduceEq, Int.reduceNe, Int.reduceAdd, Int.reduceSub, Int.reduceNeg, Nat.reduceLT, Nat.reduceLeDiff, Nat.reduceBEq, undef, (stA), Nat.reduceMul]; try simp (disch := omega) only [(vmp)])
    refine ⟨⟨rfl, fun e he => keysN false tab _ _ 0 s e he⟩, ?_⟩
    refine xWait.go (c6 _) ?_
    (simp only [(vmA), Nat.reduceEqDiff, reduceIte, Nat.reduceAdd, Int.reduceToNat, Int.reduceLE, Int.reduceLT, Int.reduceEq, Int.reduceNe, Int.reduceAdd, Int.reduceSub, Int.reduceNeg, Nat.reduceLT, Nat.reduceLeDiff, Nat.reduceBEq, undef, (stA), Nat.reduceMul]; try simp (disch := omega) only [(vmp)])
    have hA := hJ1 [Ent.arr 24 [.str d, .str n, .sl (tysV us)] 0 0, Ent.arr 24 [.str d, .str n, .sl (tysV us)] 0 0]
    have hB := fun hne => get_olds (hrow hne) [Ent.arr 24 [.str d, .str n, .sl (tysV us)] 0 0, Ent.arr 24 [.str d, .str n, .sl (tysV us)] 0 0]
    have hC : (J ++ [Ent.arr 24 [.str d, .str n, .sl (tysV us)] 0 0, Ent.arr 24 [.str d, .str n, .sl (tysV us)] 0 0])[J.length]? = some (Ent.arr 24 [.str d, .str n, .sl (tysV us)] 0 0) := by simp
    generalize J ++ [Ent.arr 24 [.str d, .str n, .sl (tysV us)] 0 0, Ent.arr 24 [.str d, .str n, .sl (tysV us)] 0 0] = J' at hA hB hC ⊢
    all_goals
      have c7 := fun σ' => clone_ok _ (.mk d n us) (Nat.le_refl _) σ' hou
      simp only [tyV] at c7
      by_cases hkp : d = kiVar ∧ n = letA i
      · have hk0 : keepC (letA i) (.mk d n us) = [] := if_pos hkp
        rw [hk0, List.append_nil] at haft
        have t1 : (d = [118, 97, 114]) = True := eq_true hkp.1
        have t2 : (n = [39, (97 + i).toUInt8]) = True := eq_true hkp.2
        (simp only [t1, t2, hC, (vmA), Nat.reduceEqDiff, reduceIte, Nat.reduceAdd, Int.reduceToNat, Int.reduceLE, Int.reduceLT, Int.reduceEq, Int.reduceNe, Int.reduceAdd, Int.reduceSub, Int.reduceNeg, Nat.reduceLT, Nat.reduceLeDiff, Nat.reduceBEq, undef, (stA), Nat.reduceMul]; try simp (disch := omega) only [(vmp)])
        exact ⟨(i + 1, acc, J', rid), ⟨by simp only; omega, haft, hA, hB⟩, by simp only; omega, ⟨rfl, by rw [hnx]⟩, rfl⟩
      have hk1 : keepC (letA i) (.mk d n us) = [(letA i, .mk d n us)] := if_neg hkp
      rw [hk1] at haft
      have hor : (d = kiVar ∧ ¬ n = letA i) ∨ ¬ d = kiVar := by
        by_cases hd : d = kiVar
        · exact .inl ⟨hd, fun hn => hkp ⟨hd, hn⟩⟩
        · exact .inr hd
      rcases hor with ⟨hd, hn⟩ | hd
      rotate_left
      have hd : ¬ d = [118, 97, 114] := hd
      (simp only [hd, hC, (vmA), Nat.reduceEqDiff, reduceIte, Nat.reduceAdd, Int.reduceToNat, Int.reduceLE, Int.reduceLT, Int.reduceEq, Int.reduceNe, Int.reduceAdd, Int.reduceSub, Int.reduceNeg, Nat.reduceLT, Nat.reduceLeDiff, Nat.reduceBEq, undef, (stA), Nat.reduceMul]; try simp (disch := omega) only [(vmp)])
      rotate_left
      have t1 : (d = [118, 97, 114]) = True := eq_true hd
      have hn : ¬ n = [39, (97 + i).toUInt8] := hn
      (simp only [t1, hn, hC, (vmA), Nat.reduceEqDiff, reduceIte, Nat.reduceAdd, Int.reduceToNat, Int.reduceLE, Int.reduceLT, Int.reduceEq, Int.reduceNe, Int.reduceAdd, Int.reduceSub, Int.reduceNeg, Nat.reduceLT, Nat.reduceLeDiff, Nat.reduceBEq, undef, (stA), Nat.reduceMul]; try simp (disch := omega) only [(vmp)])
      all_goals
        refine xWait.go (c7 _) ?_
        rcases acc with _ | ⟨b0, r0⟩
        · (simp only [rowC, (vmA), Nat.reduceEqDiff, reduceIte, Nat.reduceAdd, Int.reduceToNat, Int.reduceLE, Int.reduceLT, Int.reduceEq, Int.reduceNe, Int.reduceAdd, Int.reduceSub, Int.reduceNeg, Nat.reduceLT, Nat.reduceLeDiff, Nat.reduceBEq, undef, (stA), Nat.reduceMul]; try simp (disch := omega) only [(vmp)])
          refine ⟨by unfold maxRoom; omega, (i + 1, [(letA i, .mk d n us)], J' ++ [Ent.arr 33 [AV.str (letA i), AV.str d, AV.str n, AV.sl (tysV us)] 0 0], J'.length), ⟨by simp only; omega, haft, get_old hA, fun _ => by simp [clC, tyCells]⟩, by simp only; omega, ⟨rfl, by rw [hnx]⟩, rfl⟩
        · have h5 := hB (by simp)
          have e0 : (clC b0).length = 4 := clC_len b0
          have hf0 : (List.flatMap clC r0).length = r0.length * 4 := clCs_len r0
          simp only [List.length_cons] at hal
          (simp only [rowC, h5, (vmA), Nat.reduceEqDiff, reduceIte, Nat.reduceAdd, Int.reduceToNat, Int.reduceLE, Int.reduceLT, Int.reduceEq, Int.reduceNe, Int.reduceAdd, Int.reduceSub, Int.reduceNeg, Nat.reduceLT, Nat.reduceLeDiff, Nat.reduceBEq, undef, (stA), Nat.reduceMul]; try simp (disch := omega) only [(vmp)])
          have hne : ¬ rid = k := fun hh => by rw [hh, hA] at h5; cases h5
          refine ⟨⟨by omega, by omega, by omega, by unfold maxRoom; omega, by unfold maxRoom; omega⟩, ?_⟩
          refine ⟨(i + 1, b0 :: r0 ++ [(letA i, .mk d n us)], J'.set rid (Ent.arr 33 (clC b0 ++ (List.flatMap clC r0 ++ [AV.str (letA i), AV.str d, AV.str n, AV.sl (tysV us)])) (r0.length + 1 - 1 + 1) 0), rid), ⟨by simp only; omega, haft, by rw [get_set_ne hne]; exact hA, fun _ => ?_⟩, by simp only; omega, ⟨?_, by rw [hnx]⟩, rfl⟩
          · simp only
            rw [get_set_self h5]
            simp [clC, tyCells]
          · simp only [List.cons_append, List.length_append, List.length_cons, List.length_nil]
  · have hie : i = 26 := by omega
    subst hie
    (simp only [h, hacc, (vmA), Nat.reduceEqDiff, reduceIte, Nat.reduceAdd, Int.reduceToNat, Int.reduceLE, Int.reduceLT, Int.reduceEq, Int.reduceNe, Int.reduceAdd, Int.reduceSub, Int.reduceNeg, Nat.reduceLT, Nat.reduceLeDiff, Nat.reduceBEq, undef, (stA), Nat.reduceMul]; try simp (disch := omega) only [(vmp)])
    rcases acc with _ | ⟨b0, r0⟩
    · exact ⟨_, .tup (.cons .none (.cons (.refl _) .nil)), by simp only [AV.low, AV.low.lows, Bool.and_self], rfl⟩
    · have h5 := hrow (by simp)
      have hf0 := clCs_len (b0 :: r0)
      simp only [List.length_cons] at hal
      simp only [rowC]
      refine ⟨_, .tup (.cons (.rsl (ty := 33) (ver := r0.length) (imm := 0) (ag := true) (cells := (b0 :: r0).flatMap clC) (es := clsV (b0 :: r0)) (es' := clsV (b0 :: r0)) (by omega) ?_ (by rw [List.drop_zero, clsV_cells]) (by omega) (by rw [clsV_len]; rfl) (by omega) (fun e he => by obtain ⟨x, _, rfl⟩ := List.mem_map.1 he; exact clV_el x) FrzL.refl) (.cons (.refl _) .nil)), by simp only [AV.low, AV.low.lows, clsV_low, Bool.and_self], rfl⟩
      rw [Nat.add_sub_cancel_left]
      simpa using h5
end Go.D

/- One substitution behind another one: what the law asks (plain). -/
set_option linter.unusedVariables false
set_option maxRecDepth 100000
namespace Go.D
open Go Go.Vm Go.Proofs Go.RowKit

theorem vT_typ {i : Nat} (h : i < 26) : typeB conB (vT (letA i)) = true := by
  have := letter_varB h
  simp only [vT, typeB, typeBs, this, List.length_nil, Bool.and_true, Bool.or_true, decide_true, Bool.true_or, Bool.true_and]
  rfl
theorem afterL_okV {s t : List Cl} (hs : okV s) (ht : okV t) : ∀ (k : Nat) (acc : List Cl), afterL s t k = some acc → okV acc
  | 0, acc, h => by cases h; intro e he; cases he
  | k + 1, acc, h => by
    have kk : ∀ n u, okT u → okV (keepC n u) := fun n u hu e he => by
      unfold keepC at he; split at he
      · cases he
      · have : e = (n, u) := by simpa using he
        subst this; exact hu
    have lk : ∀ {l : List Cl} {n : List UInt8} {u : Tr}, okV l → Sub'.look l n = some u → okT u := fun hl h => by
      obtain ⟨e, he, rfl⟩ := look_mem h
      exact hl e he
    have ap : ∀ {a b : List Cl}, okV a → okV b → okV (a ++ b) := fun ha hb e he => by
      rcases List.mem_append.1 he with h | h
      · exact ha e h
      · exact hb e h
    unfold afterL at h
    split at h
    · cases h
    · rename_i a ha
      have ih := afterL_okV hs ht k a ha
      split at h
      · rename_i u hu
        split at h
        · cases h; exact ap ih (kk _ _ (putT_ok ht (lk hs hu)))
        · cases h
      · split at h
        · rename_i u hu
          cases h; exact ap ih (kk _ _ (lk ht hu))
        · cases h; exact ih
theorem afterL_fits {s t : List Cl} (ht : substB t = true) : ∀ (k : Nat) (acc : List Cl), afterL s t k = some acc → ∀ c ∈ acc, fitsB (ofT c.2) = true
  | 0, acc, h => by cases h; intro e he; cases he
  | k + 1, acc, h => by
    have kk : ∀ n u, fitsB (ofT u) = true → ∀ c ∈ keepC n u, fitsB (ofT c.2) = true := fun n u hu e he => by
      unfold keepC at he; split at he
      · cases he
      · have : e = (n, u) := by simpa using he
        subst this; exact hu
    have ap : ∀ {a b : List Cl}, (∀ c ∈ a, fitsB (ofT c.2) = true) → (∀ c ∈ b, fitsB (ofT c.2) = true) → ∀ c ∈ a ++ b, fitsB (ofT c.2) = true := fun ha hb e he => by
      rcases List.mem_append.1 he with h | h
      · exact ha e h
      · exact hb e h
    unfold afterL at h
    split at h
    · cases h
    · rename_i a ha
      have ih := afterL_fits ht k a ha
      split at h
      · split at h
        · rename_i hf
          cases h; exact ap ih (kk _ _ hf)
        · cases h
      · split at h
        · rename_i u hu
          cases h
          obtain ⟨e, he, rfl⟩ := look_mem hu
          exact ap ih (kk _ _ (valid_fits (substB_mem ht he).2))
        · cases h; exact ih
theorem afterR_cases (s t : List Cl) : (∃ l, afterR s t = (l, 0)) ∨ ∃ e, afterR s t = ([], e) ∧ ¬ e = 0 := by
  unfold afterR
  split
  · split
    · exact .inr ⟨4, rfl, by decide⟩
    · exact .inl ⟨_, rfl⟩
  · exact .inr ⟨40, rfl, by decide⟩
theorem appR_cases (s : List Cl) (x : Tr) : (substB s = true ∧ validT conB x = true ∧ fitsB (ofT (putT s x)) = true ∧ appR s x = (putT s x, 0)) ∨ ∃ e, appR s x = (.mk [] [] [], e) ∧ ¬ e = 0 := by
  unfold appR applyR
  split
  · rename_i h
    split
    · rename_i h2
      exact .inl ⟨h.1, h.2, h2, rfl⟩
    · exact .inr ⟨4, rfl, by decide⟩
  · exact .inr ⟨40, rfl, by decide⟩
theorem afterR_ok {s t l : List Cl} (hs : lenC s) (ht : lenC t) (h : afterR s t = (l, 0)) : substB s = true ∧ substB t = true ∧ l = canC (two s t) 26 ∧ substB l = true ∧ lenC l ∧ ∀ x, typeB conB x = true → putT l x = putT t (putT s x) := by
  unfold afterR at h
  split at h
  · rename_i hb
    obtain ⟨h1, h2⟩ := hb
    cases ha : afterL s t 26 with
    | none => rw [ha] at h; cases h
    | some l' =>
      rw [ha] at h
      simp only [Prod.mk.injEq, and_true] at h
      subst h
      have o1 := substB_okV h1 hs
      have o2 := substB_okV h2 ht
      have hc := afterL_can 26 _ ha
      have ho := afterL_okV o1 o2 26 _ ha
      have hf := afterL_fits h2 26 _ ha
      have hlen := afterL_len s t 26 _ ha
      have htw : ∀ i, i < 26 → typeB conB (two s t (letA i)) = true := fun i hi => putT_typ t (fun e he => (o2 e he).2) _ (putT_typ s (fun e he => (o1 e he).2) _ (vT_typ hi))
      refine ⟨h1, h2, hc, ?_, ⟨by omega, fun c hcm => ⟨?_, (ho c hcm).1⟩⟩, fun x hx => ?_⟩
      · rw [hc]
        refine canC_subst 26 (by omega) fun c hcm => ?_
        rw [← hc] at hcm
        unfold validT
        rw [(ho c hcm).2, hf c hcm]; rfl
      · rw [hc] at hcm
        obtain ⟨i, hi, rfl⟩ := canC_mem hcm
        simp [letA]
      · rw [hc]
        exact put_two (two s t) s t htw (fun i _ => rfl) x hx
  · cases h
theorem sameCs_refl : ∀ l : List Cl, sameCs l l = true
  | [] => rfl
  | c :: l => by simp only [sameCs, sameC, sameB_refl, sameCs_refl l, decide_true, Bool.and_self]
/-- Associative. -/
theorem after_assoc {s t u st tu one tw : List Cl} (hs : lenC s) (ht : lenC t) (hu : lenC u) (h1 : afterR s t = (st, 0)) (h2 : afterR t u = (tu, 0)) (h3 : afterR st u = (one, 0)) (h4 : afterR s tu = (tw, 0)) : one = tw := by
  obtain ⟨s1, t1, e1, b1, l1, p1⟩ := afterR_ok hs ht h1
  obtain ⟨_, u1, e2, b2, l2, p2⟩ := afterR_ok ht hu h2
  obtain ⟨_, _, e3, _, _, p3⟩ := afterR_ok l1 hu h3
  obtain ⟨_, _, e4, _, _, p4⟩ := afterR_ok hs l2 h4
  have o1 := substB_okV s1 hs
  rw [e3, e4]
  refine canC_congr 26 fun i hi => ?_
  show putT u (putT st (vT (letA i))) = putT tu (putT s (vT (letA i)))
  rw [p1 _ (vT_typ hi), p2 _ (putT_typ s (fun e he => (o1 e he).2) _ (vT_typ hi))]
/-- Behind nothing. -/
theorem after_nil {s : List Cl} (hs : lenC s) (h : substB s = true) : ∃ l, afterR s [] = (l, 0) := by
  have hl : ∀ k, ∃ acc, afterL s [] k = some acc := by
    intro k
    induction k with
    | zero => exact ⟨_, rfl⟩
    | succ k ih =>
      obtain ⟨acc, ha⟩ := ih
      unfold afterL
      rw [ha]
      simp only
      cases hu : Sub'.look s (letA k) with
      | none => exact ⟨_, rfl⟩
      | some u =>
        obtain ⟨e, he, rfl⟩ := look_mem hu
        simp only
        rw [putT_nil, if_pos (valid_fits (substB_mem h he).2)]
        exact ⟨_, rfl⟩
  obtain ⟨acc, ha⟩ := hl 26
  exact ⟨acc, by unfold afterR; rw [if_pos ⟨h, rfl⟩, ha]⟩
end Go.D

/- How large types are in earnest (plain). -/
set_option linter.unusedVariables false
set_option maxRecDepth 100000
namespace Go.D
open Go Go.Vm Go.Proofs Go.RowKit

mutual
/-- How many values and letters a type holds. -/
def bulkT : Tr → Nat
  | .mk d n us => d.length + n.length + 4 + bulkTs us
def bulkTs : List Tr → Nat
  | [] => 0
  | t :: ts => bulkT t + bulkTs ts
end
mutual
/-- How many nodes. -/
def cntT : Tr → Nat
  | .mk _ _ us => 1 + cntTs us
def cntTs : List Tr → Nat
  | [] => 0
  | t :: ts => cntT t + cntTs ts
end
mutual
/-- How many on the longest way. -/
def deepT : Tr → Nat
  | .mk _ _ us => 1 + deepTs us
def deepTs : List Tr → Nat
  | [] => 0
  | t :: ts => max (deepT t) (deepTs ts)
end
mutual
theorem cnt_pos : ∀ t, 1 ≤ cntT t
  | .mk _ _ us => by simp only [cntT]; omega
theorem deep_cnt : ∀ t, deepT t ≤ cntT t
  | .mk _ _ us => by simp only [deepT, cntT]; have := deep_cnts us; omega
theorem deep_cnts : ∀ l, deepTs l ≤ cntTs l
  | [] => by simp [deepTs]
  | t :: ts => by simp only [deepTs, cntTs]; have := deep_cnt t; have := deep_cnts ts; omega
end
mutual
theorem cnt_bulk : ∀ t, 4 * cntT t ≤ bulkT t
  | .mk _ _ us => by simp only [cntT, bulkT]; have := cnt_bulks us; omega
theorem cnt_bulks : ∀ l, 4 * cntTs l ≤ bulkTs l
  | [] => by simp [cntTs]
  | t :: ts => by simp only [cntTs, bulkTs]; have := cnt_bulk t; have := cnt_bulks ts; omega
end
theorem len_cnts : ∀ l, l.length ≤ cntTs l
  | [] => by simp
  | t :: ts => by simp only [cntTs, List.length_cons]; have := cnt_pos t; have := len_cnts ts; omega
theorem wr_id {x : Int} (h0 : -9223372036854775808 ≤ x) (h1 : x ≤ 9223372036854775807) : wr x = x := wrapI64 h0 h1
/-- Sums that do not wrap. -/
theorem above_real : ∀ (l : List Tr) (a b : Nat), a + cntTs l ≤ 4611686018427387904 → (∀ t ∈ l, ofT t = ((cntT t : Int), (deepT t : Int))) → 1 ≤ b → aboveS ((a : Int), (b : Int)) (ofTs l) = (((a + cntTs l : Nat) : Int), ((if l = [] then b else max b (deepTs l + 1) : Nat) : Int))
  | [], a, b, _, _, _ => by simp [ofTs, aboveS, cntTs]
  | t :: ts, a, b, h, hk, hb => by
    have h0 := hk t (by simp)
    have hd := deep_cnt t
    have hp := cnt_pos t
    simp only [cntTs] at h
    simp only [ofTs, aboveS, h0]
    rw [wr_id (by omega) (by omega), wr_id (by omega) (by omega)]
    have e1 : (a : Int) + (cntT t : Int) = ((a + cntT t : Nat) : Int) := by omega
    have e2 : max (b : Int) ((deepT t : Int) + 1) = ((max b (deepT t + 1) : Nat) : Int) := by omega
    rw [e1, e2, above_real ts (a + cntT t) (max b (deepT t + 1)) (by omega) (fun x hx => hk x (by simp [hx])) (by omega)]
    simp only [cntTs, deepTs, Prod.mk.injEq]
    refine ⟨by omega, ?_⟩
    by_cases he : ts = []
    · subst he; simp [deepTs]
    · simp only [he, if_false]
      simp only [reduceCtorEq, if_false]
      omega
mutual
theorem of_real : ∀ t, cntT t ≤ 4611686018427387904 → ofT t = ((cntT t : Int), (deepT t : Int))
  | .mk d n us, h => by
    simp only [cntT] at h
    have := above_real us 1 1 (by omega) (of_reals us (by omega)) (by omega)
    simp only [ofT, cntT, deepT]
    rw [show ((1 : Int), (1 : Int)) = (((1 : Nat) : Int), ((1 : Nat) : Int)) from rfl, this]
    by_cases he : us = []
    · subst he; simp [deepTs]
    · simp only [he, if_false, Prod.mk.injEq, true_and]; omega
theorem of_reals : ∀ l, cntTs l ≤ 4611686018427387904 → ∀ t ∈ l, ofT t = ((cntT t : Int), (deepT t : Int))
  | [], _, t, ht => by cases ht
  | u :: us, h, t, ht => by
    simp only [cntTs] at h
    rcases List.mem_cons.1 ht with h1 | h1
    · rw [h1]; exact of_real u (by omega)
    · exact of_reals us (by omega) t h1
end
mutual
theorem bulk_len : ∀ t, bulkT t ≤ 1048576 → lenT t
  | .mk d n us, h => by
    simp only [bulkT] at h
    have := len_cnts us
    have := cnt_bulks us
    simp only [lenT]
    exact ⟨by omega, by omega, bulk_lens us (by omega)⟩
theorem bulk_lens : ∀ l, bulkTs l ≤ 1048576 → lenTs l
  | [], _ => trivial
  | t :: ts, h => by
    simp only [bulkTs] at h
    exact ⟨bulk_len t (by omega), bulk_lens ts (by omega)⟩
end
theorem bulk_mem : ∀ {l : List Tr} {t : Tr}, t ∈ l → bulkT t ≤ bulkTs l
  | u :: us, t, h => by
    simp only [bulkTs]
    rcases List.mem_cons.1 h with rfl | h
    · omega
    · have := bulk_mem h; omega
/-- A substitution's claims together. -/
def bulkC : List Cl → Nat
  | [] => 0
  | c :: r => c.1.length + bulkT c.2 + 2 + bulkC r
theorem bulkC_mem : ∀ {l : List Cl} {c : Cl}, c ∈ l → c.1.length + bulkT c.2 ≤ bulkC l
  | u :: us, c, h => by
    simp only [bulkC]
    rcases List.mem_cons.1 h with rfl | h
    · omega
    · have := bulkC_mem h; omega
theorem bulkC_length : ∀ l : List Cl, l.length ≤ bulkC l
  | [] => by simp
  | c :: r => by simp only [bulkC, List.length_cons]; have := bulkC_length r; omega
theorem bulkC_len {l : List Cl} (h : bulkC l ≤ 1048576) : lenC l := by
  have := bulkC_length l
  refine ⟨by omega, fun c hc => ?_⟩
  have := bulkC_mem hc
  exact ⟨by omega, bulk_len c.2 (by omega)⟩
end Go.D
