/- The size that a type grows to, by the document (plain). -/
import Derived.Test.YtoobkfjkohadnaaGreatDoorFnF
import Derived.Test.YtoobkfjkohadnaaGreatDoorFnE
import Derived.Test.YtoobkfjkohadnaaGreatDoorFnG
set_option linter.unusedVariables false
set_option maxRecDepth 100000
namespace Go.D
open Go Go.Vm Go.Proofs Go.RowKit

def growS : Int × Int → List (Int × Int) → Int × Int
  | o, [] => o
  | o, z :: r => growS (min (wr (o.1 + z.1)) 2001, max o.2 (wr (z.2 + 1))) r
mutual
def growT (s : List Cl) : Tr → Int × Int
  | .mk d n us => if d = kiVar ∧ (Sub'.look s n).isSome = true then ofT ((Sub'.look s n).getD (.mk [] [] [])) else growS (1, 1) (growTs s us)
def growTs (s : List Cl) : List Tr → List (Int × Int)
  | [] => []
  | t :: ts => growT s t :: growTs s ts
end
theorem growTs_map (s : List Cl) : ∀ l : List Tr, growTs s l = l.map (growT s)
  | [] => rfl
  | t :: ts => by rw [growTs, growTs_map s ts]; rfl
theorem growS_app : ∀ (o : Int × Int) (l : List (Int × Int)) (z : Int × Int), growS o (l ++ [z]) = (min (wr ((growS o l).1 + z.1)) 2001, max (growS o l).2 (wr (z.2 + 1)))
  | o, [], z => rfl
  | o, a :: l, z => by simp only [List.cons_append, growS]; exact growS_app _ l z
/-- What is put in is small. -/
def smallC (s : List Cl) : Prop := ∀ c ∈ s, cntT c.2 ≤ 2000
mutual
theorem put_cnt (s : List Cl) (hs : smallC s) : ∀ t, cntT (putT s t) ≤ 2000 * cntT t
  | .mk d n us => by
    unfold putT
    split
    · rename_i h
      obtain ⟨x, hx⟩ := Option.isSome_iff_exists.1 h.2
      have := hs _ (look_some_mem hx)
      have := cnt_pos (.mk d n us)
      rw [hx]; simp only [Option.getD_some] at *; omega
    · simp only [cntT]; have := put_cnts s hs us; omega
theorem put_cnts (s : List Cl) (hs : smallC s) : ∀ l, cntTs (putTs s l) ≤ 2000 * cntTs l
  | [] => by simp [putTs, cntTs]
  | t :: ts => by simp only [putTs, cntTs]; have := put_cnt s hs t; have := put_cnts s hs ts; omega
end
theorem growS_real (s : List Cl) : ∀ (l : List Tr) (a b : Nat), a + cntTs (putTs s l) ≤ 4611686018427387904 → (∀ t ∈ l, growT s t = (((min (cntT (putT s t)) 2001 : Nat) : Int), (deepT (putT s t) : Int))) → 1 ≤ b → growS (((min a 2001 : Nat) : Int), (b : Int)) (growTs s l) = (((min (a + cntTs (putTs s l)) 2001 : Nat) : Int), ((if l = [] then b else max b (deepTs (putTs s l) + 1) : Nat) : Int))
  | [], a, b, _, _, _ => by simp [growTs, growS, cntTs, putTs]
  | t :: ts, a, b, h, hk, hb => by
    have h0 := hk t (by simp)
    have hd := deep_cnt (putT s t)
    have hp := cnt_pos (putT s t)
    simp only [cntTs, putTs] at h
    simp only [growTs, growS, h0]
    rw [wr_id (by omega) (by omega), wr_id (by omega) (by omega)]
    have e1 : min (((min a 2001 : Nat) : Int) + ((min (cntT (putT s t)) 2001 : Nat) : Int)) 2001 = ((min (a + cntT (putT s t)) 2001 : Nat) : Int) := by omega
    have e2 : max (b : Int) ((deepT (putT s t) : Int) + 1) = ((max b (deepT (putT s t) + 1) : Nat) : Int) := by omega
    rw [e1, e2, growS_real s ts (a + cntT (putT s t)) (max b (deepT (putT s t) + 1)) (by omega) (fun x hx => hk x (by simp [hx])) (by omega)]
    simp only [cntTs, deepTs, putTs, Prod.mk.injEq]
    refine ⟨by omega, ?_⟩
    by_cases he : ts = []
    · subst he; simp [deepTs, putTs]
    · simp only [he, if_false]
      simp only [reduceCtorEq, if_false]
      omega
mutual
theorem grow_real (s : List Cl) (hs : smallC s) : ∀ t, cntT (putT s t) ≤ 4611686018427387904 → growT s t = (((min (cntT (putT s t)) 2001 : Nat) : Int), (deepT (putT s t) : Int))
  | .mk d n us, h => by
    unfold growT
    unfold putT at h ⊢
    split
    · rename_i hc
      obtain ⟨x, hx⟩ := Option.isSome_iff_exists.1 hc.2
      have hsm := hs _ (look_some_mem hx)
      simp only [hx, Option.getD_some] at hsm ⊢
      rw [of_real x (by omega)]
      simp only [Prod.mk.injEq, and_true]; omega
    · rename_i hc
      rw [if_neg hc] at h
      simp only [cntT] at h
      have := growS_real s us 1 1 (by omega) (grow_reals s hs us (by omega)) (by omega)
      rw [show ((1 : Int), (1 : Int)) = (((min 1 2001 : Nat) : Int), ((1 : Nat) : Int)) from rfl, this]
      simp only [cntT, deepT]
      by_cases he : us = []
      · subst he; simp [deepTs, putTs]
      · simp only [he, if_false, Prod.mk.injEq, true_and]; omega
theorem grow_reals (s : List Cl) (hs : smallC s) : ∀ l, cntTs (putTs s l) ≤ 4611686018427387904 → ∀ t ∈ l, growT s t = (((min (cntT (putT s t)) 2001 : Nat) : Int), (deepT (putT s t) : Int))
  | [], _, t, ht => by cases ht
  | u :: us, h, t, ht => by
    simp only [cntTs, putTs] at h
    rcases List.mem_cons.1 ht with h1 | h1
    · rw [h1]; exact grow_real s hs u (by omega)
    · exact grow_reals s hs us (by omega) t h1
end
/-- Small or too large alike. -/
theorem grow_fits {s : List Cl} (hs : smallC s) {t : Tr} (ht : cntT t ≤ 1048576) : fitsB (growT s t) = fitsB (ofT (putT s t)) := by
  have h := put_cnt s hs t
  have e := of_real (putT s t) (by omega)
  rw [grow_real s hs t (by omega), e]
  unfold fitsB
  have : (((min (cntT (putT s t)) 2001 : Nat) : Int) ≤ 2000) = (((cntT (putT s t) : Nat) : Int) ≤ 2000) := propext (by omega)
  simp only [this]
/-- A substitution's types are small, if all is. -/
theorem subst_small {l : List Cl} (h : substB l = true) (hb : bulkC l ≤ 1048576) : smallC l := fun c hc => by
  have hv := (substB_mem h hc).2
  have := bulkC_mem hc
  have := cnt_bulk c.2
  exact ((fits_real (by omega)).1 (valid_fits hv)).1
/-- Put, if that is not too large. -/
def putR (s : List Cl) (t : Tr) : Tr × Int := if fitsB (growT s t) = true then (putT s t, 0) else (.mk [] [] [], 4)
theorem putR_apply {s : List Cl} (hs : smallC s) {t : Tr} (ht : cntT t ≤ 1048576) : putR s t = applyR s t := by
  unfold putR applyR; rw [grow_fits hs ht]
end Go.D

/- A substitution applied, and one behind another one, by the document. -/
set_option linter.unusedVariables false
set_option linter.unusedSimpArgs false
set_option linter.unnecessarySimpa false
set_option maxRecDepth 100000
namespace Go.D
open Go Go.Vm Go.Proofs Go.RowKit

def MS (t : Tr) : Prop := ∀ σ : List Ent, lenT t → ACalls E 73 [tyV t] σ fun r τ => r = .tup [i64 (ofT t).1, i64 (ofT t).2] ∧ τ = σ
set_option maxHeartbeats 4000000 in
theorem Measure_step (d n : List UInt8) (us : List Tr) (ih : ∀ u ∈ us, MS u) : MS (.mk d n us) := by
  intro σ hl
  simp only [lenT] at hl
  refine xacalls T0 .drop [] Tryz.func73 rfl (by kernel_rfl) (by kernel_rfl) (by simp [Tryz.ntmps73]) ?_
  (simp only [tyV, tysV_len, (vmA), Nat.reduceEqDiff, reduceIte, Nat.reduceAdd, Int.reduceToNat, Int.reduceLE, Int.reduceLT, Int.reduceEq, Int.reduceNe, Int.reduceAdd, Int.reduceSub, Int.reduceNeg, Nat.reduceLT, Nat.reduceLeDiff, Nat.reduceBEq, undef, (stA), Nat.reduceMul]; try simp (disch := omega) only [(vmp)])
  refine xloop (α := Nat × List Ent) T0 (fun x => [(2, i64 (aboveS (1, 1) (ofTs (us.take x.1))).1), (3, i64 (aboveS (1, 1) (ofTs (us.take x.1))).2), (9, .sl (tysV us)), (10, i64 us.length), (11, i64 x.1)]) (fun _ => σ)
    (fun x => .arr 24 [.str d, .str n, .sl (tysV us)] 0 0 :: x.2) (fun x => x.1 ≤ us.length) (fun x => us.length - x.1) (by kernel_rfl)
    ⟨(0, []), by simp, by (simp only [List.take_zero, ofTs, aboveS, (vmA), Nat.reduceEqDiff, reduceIte, Nat.reduceAdd, Int.reduceToNat, Int.reduceLE, Int.reduceLT, Int.reduceEq, Int.reduceNe, Int.reduceAdd, Int.reduceSub, Int.reduceNeg, Nat.reduceLT, Nat.reduceLeDiff, Nat.reduceBEq, undef, (stA), Nat.reduceMul, Int.natCast_zero]; try simp (disch := omega) only [(vmp)]), rfl, rfl⟩ ?_
  rintro ⟨i, junk⟩ hi
  simp only at hi
  by_cases h : (i : Int) < us.length
  · have hi' : i < us.length := by omega
    have hu : us[i]? = some us[i] := List.getElem?_eq_getElem hi'
    have hmem : us[i] ∈ us := List.getElem_mem hi'
    obtain ⟨s1, s2⟩ := take_split us i _ hu
    generalize us[i] = u at *
    have hg := tysV_get hu
    have hc := fun σ' => ih u hmem σ' (lenTs_mem hl.2.2 hmem)
    have hnext : aboveS (1, 1) (ofTs (us.take (i + 1))) = (wr ((aboveS (1, 1) (ofTs (us.take i))).1 + (ofT u).1), max (aboveS (1, 1) (ofTs (us.take i))).2 (wr ((ofT u).2 + 1))) := by
      rw [s1, ofTs_map, ofTs_map, List.map_append]; exact aboveS_app _ _ _
    rcases hr : ofT u with ⟨a, b⟩
    rw [hr] at hnext
    simp only [hr] at hc
    generalize aboveS (1, 1) (ofTs (us.take i)) = A at *
    cases u with
    | mk d2 n2 us2 =>
    simp only [tyV] at hg hc
    (simp only [h, hg, tysV_len, (vmA), Nat.reduceEqDiff, reduceIte, Nat.reduceAdd, Int.reduceToNat, Int.reduceLE, Int.reduceLT, Int.reduceEq, Int.reduceNe, Int.reduceAdd, Int.reduceSub, Int.reduceNeg, Nat.reduceLT, Nat.reduceLeDiff, Nat.reduceBEq, undef, (stA), Nat.reduceMul]; try simp (disch := omega) only [(vmp)])
    refine xWait.go (hc _) ?_
    (simp only [(vmA), Nat.reduceEqDiff, reduceIte, Nat.reduceAdd, Int.reduceToNat, Int.reduceLE, Int.reduceLT, Int.reduceEq, Int.reduceNe, Int.reduceAdd, Int.reduceSub, Int.reduceNeg, Nat.reduceLT, Nat.reduceLeDiff, Nat.reduceBEq, undef, (stA), Nat.reduceMul]; try simp (disch := omega) only [(vmp)])
    refine ⟨(i + 1, junk ++ [.arr 24 [.str d2, .str n2, .sl (tysV us2)] 0 0]), by simp only; omega, by simp only; omega, ?_⟩
    simp only [hnext, wr]
    first | trivial | exact ⟨rfl, rfl⟩
  · have hie : i = us.length := by omega
    subst hie
    (simp only [h, List.take_of_length_le (Nat.le_refl _), (vmA), Nat.reduceEqDiff, reduceIte, Nat.reduceAdd, Int.reduceToNat, Int.reduceLE, Int.reduceLT, Int.reduceEq, Int.reduceNe, Int.reduceAdd, Int.reduceSub, Int.reduceNeg, Nat.reduceLT, Nat.reduceLeDiff, Nat.reduceBEq, undef, (stA), Nat.reduceMul]; try simp (disch := omega) only [(vmp)])
    simp only [ofT]
theorem Measure_ok : ∀ (m : Nat) (t : Tr), SizeOf.sizeOf t ≤ m → MS t
  | 0, .mk d n us, h => by simp at h
  | m + 1, .mk d n us, h => Measure_step d n us fun u hu => Measure_ok m u (by
      have := List.sizeOf_lt_of_mem hu
      simp at h; omega)
def GS (t : Tr) : Prop := ∀ (s : List Cl) (σ : List Ent), lenC s → okT t → ACalls E 99 [.sl (clsV s), tyV t] σ fun r τ => r = .tup [i64 (growT s t).1, i64 (growT s t).2] ∧ τ = σ
set_option maxHeartbeats 8000000 in
theorem grown_step (d n : List UInt8) (us : List Tr) (ih : ∀ u ∈ us, GS u) : GS (.mk d n us) := by
  intro s σ hs hl
  obtain ⟨hfew, hdn⟩ := okT_down d n us hl
  have hof := fun σ' => of_ok s hs n σ'
  refine xacalls T0 .drop [] Tryz.func99 rfl (by kernel_rfl) (by kernel_rfl) (by simp [Tryz.ntmps99]) ?_
  unfold ofV at hof
  obtain ⟨EE, hEE⟩ : ∃ EE, (∃ d2 n2 us2, Sub'.look s n = some (.mk d2 n2 us2) ∧ ¬ d = kiVar ∧ EE = Ent.arr 24 [.str d2, .str n2, .sl (tysV us2)] 0 0) ∨ (Sub'.look s n = none ∧ EE = Ent.arr 24 [.str [], .str [], .v (.slice none 0 0)] 0 0) ∨ (∃ d2 n2 us2, Sub'.look s n = some (.mk d2 n2 us2) ∧ d = kiVar) := by
    rcases hlk : Sub'.look s n with _ | ⟨d2, n2, us2⟩
    · exact ⟨_, .inr (.inl ⟨rfl, rfl⟩)⟩
    · by_cases hd : d = kiVar
      · exact ⟨.arr 0 [] 0 0, .inr (.inr ⟨d2, n2, us2, rfl, hd⟩)⟩
      · exact ⟨_, .inl ⟨d2, n2, us2, rfl, hd, rfl⟩⟩
  rw [← or_assoc] at hEE
  rcases hEE with hEE | ⟨d2, n2, us2, hlk, hd⟩
  rotate_left
  · have t1 : (d = [118, 97, 114]) = True := eq_true hd
    have heq : growT s (.mk d n us) = ofT (.mk d2 n2 us2) := by unfold growT; rw [if_pos ⟨hd, by rw [hlk]; rfl⟩, hlk]; rfl
    have hl2 : lenT (.mk d2 n2 us2) := (hs.2 _ (look_some_mem hlk)).2
    have hme := fun σ' => Measure_ok _ (.mk d2 n2 us2) (Nat.le_refl _) σ' hl2
    rw [heq]
    simp only [tyV] at hme
    simp only [hlk, tyV] at hof
    (simp only [tyV, tysV_len, (vmA), Nat.reduceEqDiff, reduceIte, Nat.reduceAdd, Int.reduceToNat, Int.reduceLE, Int.reduceLT, Int.reduceEq, Int.reduceNe, Int.reduceAdd, Int.reduceSub, Int.reduceNeg, Nat.reduceLT, Nat.reduceLeDiff, Nat.reduceBEq, undef, (stA), Nat.reduceMul]; try simp (disch := omega) only [(vmp)])
    refine xWait.go (hof _) ?_
    (simp only [t1, (vmA), Nat.reduceEqDiff, reduceIte, Nat.reduceAdd, Int.reduceToNat, Int.reduceLE, Int.reduceLT, Int.reduceEq, Int.reduceNe, Int.reduceAdd, Int.reduceSub, Int.reduceNeg, Nat.reduceLT, Nat.reduceLeDiff, Nat.reduceBEq, undef, (stA), Nat.reduceMul]; try simp (disch := omega) only [(vmp)])
    refine xWait.go (hme _) ?_
    (simp only [(vmA), Nat.reduceEqDiff, reduceIte, Nat.reduceAdd, Int.reduceToNat, Int.reduceLE, Int.reduceLT, Int.reduceEq, Int.reduceNe, Int.reduceAdd, Int.reduceSub, Int.reduceNeg, Nat.reduceLT, Nat.reduceLeDiff, Nat.reduceBEq, undef, (stA), Nat.reduceMul]; try simp (disch := omega) only [(vmp)])
  have heq : growT s (.mk d n us) = growS (1, 1) (growTs s us) := by
    unfold growT
    rcases hEE with ⟨d2, n2, us2, hlk, n1, _⟩ | ⟨hlk, _⟩
    · rw [if_neg (fun h => n1 h.1)]
    · rw [if_neg (fun h => by rw [hlk] at h; cases h.2)]
  rw [heq]
  rcases hEE with ⟨d2, n2, us2, hlk, n1, hEE⟩ | ⟨hlk, hEE⟩
  rotate_left
  simp only [hlk] at hof
  (simp only [tyV, tysV_len, (vmA), Nat.reduceEqDiff, reduceIte, Nat.reduceAdd, Int.reduceToNat, Int.reduceLE, Int.reduceLT, Int.reduceEq, Int.reduceNe, Int.reduceAdd, Int.reduceSub, Int.reduceNeg, Nat.reduceLT, Nat.reduceLeDiff, Nat.reduceBEq, undef, (stA), Nat.reduceMul]; try simp (disch := omega) only [(vmp)])
  refine xWait.go (hof _) ?_
  (simp only [tysV_len, (vmA), Nat.reduceEqDiff, reduceIte, Nat.reduceAdd, Int.reduceToNat, Int.reduceLE, Int.reduceLT, Int.reduceEq, Int.reduceNe, Int.reduceAdd, Int.reduceSub, Int.reduceNeg, Nat.reduceLT, Nat.reduceLeDiff, Nat.reduceBEq, undef, (stA), Nat.reduceMul]; try simp (disch := omega) only [(vmp)])
  rotate_left
  have n1 : ¬ d = [118, 97, 114] := n1
  simp only [hlk, tyV] at hof
  (simp only [tyV, tysV_len, (vmA), Nat.reduceEqDiff, reduceIte, Nat.reduceAdd, Int.reduceToNat, Int.reduceLE, Int.reduceLT, Int.reduceEq, Int.reduceNe, Int.reduceAdd, Int.reduceSub, Int.reduceNeg, Nat.reduceLT, Nat.reduceLeDiff, Nat.reduceBEq, undef, (stA), Nat.reduceMul]; try simp (disch := omega) only [(vmp)])
  refine xWait.go (hof _) ?_
  (simp only [n1, tysV_len, (vmA), Nat.reduceEqDiff, reduceIte, Nat.reduceAdd, Int.reduceToNat, Int.reduceLE, Int.reduceLT, Int.reduceEq, Int.reduceNe, Int.reduceAdd, Int.reduceSub, Int.reduceNeg, Nat.reduceLT, Nat.reduceLeDiff, Nat.reduceBEq, undef, (stA), Nat.reduceMul]; try simp (disch := omega) only [(vmp)])
  all_goals
    refine xloop (α := Nat × List Ent) T0 (fun x => [(0, .sl (clsV s)), (4, i64 (growS (1, 1) (growTs s (us.take x.1))).1), (5, i64 (growS (1, 1) (growTs s (us.take x.1))).2), (30, .sl (tysV us)), (31, i64 us.length), (32, i64 x.1)]) (fun _ => σ)
      (fun x => .arr 24 [.str d, .str n, .sl (tysV us)] 0 0 :: EE :: x.2)
      (fun x => x.1 ≤ us.length) (fun x => us.length - x.1) (by kernel_rfl)
      ⟨(0, []), by simp, by (simp only [List.take_zero, growTs, growS, (vmA), Nat.reduceEqDiff, reduceIte, Nat.reduceAdd, Int.reduceToNat, Int.reduceLE, Int.reduceLT, Int.reduceEq, Int.reduceNe, Int.reduceAdd, Int.reduceSub, Int.reduceNeg, Nat.reduceLT, Nat.reduceLeDiff, Nat.reduceBEq, undef, (stA), Nat.reduceMul, Int.natCast_zero]; try simp (disch := omega) only [(vmp)]), rfl, by subst hEE; rfl⟩ ?_
    rintro ⟨i, junk⟩ hi
    simp only at hi
    by_cases h : (i : Int) < us.length
    · have hi' : i < us.length := by omega
      have hu : us[i]? = some us[i] := List.getElem?_eq_getElem hi'
      obtain ⟨s1, s2⟩ := take_split us i _ hu
      have hmem : us[i] ∈ us := List.getElem_mem hi'
      generalize us[i] = u at *
      have hg := tysV_get hu
      have hc := fun σ' => ih u hmem s σ' hs (hdn u hmem)
      have hnext : growS (1, 1) (growTs s (us.take (i + 1))) = (min (wr ((growS (1, 1) (growTs s (us.take i))).1 + (growT s u).1)) 2001, max (growS (1, 1) (growTs s (us.take i))).2 (wr ((growT s u).2 + 1))) := by
        rw [s1, growTs_map, growTs_map, List.map_append]; exact growS_app _ _ _
      rcases hr : growT s u with ⟨a, b⟩
      rw [hr] at hnext
      simp only [hr] at hc
      generalize growS (1, 1) (growTs s (us.take i)) = A at *
      cases u with
      | mk d4 n4 us4 =>
      simp only [tyV] at hg hc
      (simp only [h, hg, tysV_len, (vmA), Nat.reduceEqDiff, reduceIte, Nat.reduceAdd, Int.reduceToNat, Int.reduceLE, Int.reduceLT, Int.reduceEq, Int.reduceNe, Int.reduceAdd, Int.reduceSub, Int.reduceNeg, Nat.reduceLT, Nat.reduceLeDiff, Nat.reduceBEq, undef, (stA), Nat.reduceMul]; try simp (disch := omega) only [(vmp)])
      refine xWait.go (hc _) ?_
      (simp only [(vmA), Nat.reduceEqDiff, reduceIte, Nat.reduceAdd, Int.reduceToNat, Int.reduceLE, Int.reduceLT, Int.reduceEq, Int.reduceNe, Int.reduceAdd, Int.reduceSub, Int.reduceNeg, Nat.reduceLT, Nat.reduceLeDiff, Nat.reduceBEq, undef, (stA), Nat.reduceMul]; try simp (disch := omega) only [(vmp)])
      refine ⟨(i + 1, junk ++ [.arr 24 [.str d4, .str n4, .sl (tysV us4)] 0 0]), by simp only; omega, by simp only; omega, ?_⟩
      simp only [hnext, wr]
      first | trivial | exact ⟨rfl, rfl⟩
    · have hie : i = us.length := by omega
      subst hie
      (simp only [h, List.take_of_length_le (Nat.le_refl _), (vmA), Nat.reduceEqDiff, reduceIte, Nat.reduceAdd, Int.reduceToNat, Int.reduceLE, Int.reduceLT, Int.reduceEq, Int.reduceNe, Int.reduceAdd, Int.reduceSub, Int.reduceNeg, Nat.reduceLT, Nat.reduceLeDiff, Nat.reduceBEq, undef, (stA), Nat.reduceMul]; try simp (disch := omega) only [(vmp)])
theorem grown_ok2 : ∀ (m : Nat) (t : Tr), SizeOf.sizeOf t ≤ m → GS t
  | 0, .mk d n us, h => by simp at h
  | m + 1, .mk d n us, h => grown_step d n us fun u hu => grown_ok2 m u (by
      have := List.sizeOf_lt_of_mem hu
      simp at h; omega)
end Go.D

/- A substitution applied, and one behind another one, by the document: the calls. -/
set_option linter.unusedVariables false
set_option linter.unusedSimpArgs false
set_option linter.unnecessarySimpa false
set_option maxRecDepth 100000
namespace Go.D
open Go Go.Vm Go.Proofs Go.RowKit

set_option maxHeartbeats 8000000 in
theorem IsSubstR_ok (l : List Cl) (hbl : bulkC l ≤ 1048576) (σ : List Ent) : ACalls E 62 [.sl (clsV l)] σ fun r τ => r = boolV (substB l) ∧ τ = σ := by
  have hl := bulkC_len hbl
  refine xacalls T0 .drop [] Tryz.func62 rfl (by kernel_rfl) (by kernel_rfl) (by simp [Tryz.ntmps62]) ?_
  have hb := hl.1
  (simp only [clsV_len, (vmA), Nat.reduceEqDiff, reduceIte, Nat.reduceAdd, Int.reduceToNat, Int.reduceLE, Int.reduceLT, Int.reduceEq, Int.reduceNe, Int.reduceAdd, Int.reduceSub, Int.reduceNeg, Nat.reduceLT, Nat.reduceLeDiff, Nat.reduceBEq, undef, (stA), Nat.reduceMul]; try simp (disch := omega) only [(vmp)])
  refine xloop (α := Nat × List Ent) T0 (fun x => [(0, .sl (clsV l)), (5, .sl (clsV l)), (6, i64 l.length), (7, i64 x.1)]) (fun _ => σ) (fun x => x.2)
    (fun x => x.1 ≤ l.length ∧ ∀ j, j < x.1 → substAt l j = true) (fun x => l.length - x.1) (by kernel_rfl)
    ⟨(0, []), ⟨by simp, fun j hj => absurd hj (by simp)⟩, by (simp only [(vmA), Nat.reduceEqDiff, reduceIte, Nat.reduceAdd, Int.reduceToNat, Int.reduceLE, Int.reduceLT, Int.reduceEq, Int.reduceNe, Int.reduceAdd, Int.reduceSub, Int.reduceNeg, Nat.reduceLT, Nat.reduceLeDiff, Nat.reduceBEq, undef, (stA), Nat.reduceMul, Int.natCast_zero]; try simp (disch := omega) only [(vmp)]), rfl, rfl⟩ ?_
  rintro ⟨i, junk⟩ ⟨hi, hs⟩
  simp only at hi hs
  by_cases h : (i : Int) < l.length
  · have hi1 : i < l.length := by omega
    have hu : l[i]? = some l[i] := List.getElem?_eq_getElem hi1
    have hmb := bulkC_mem (List.getElem_mem hi1)
    have hat : substAt l i = nextC (l.take i) l[i] := by unfold substAt; rw [hu]
    generalize l[i] = u at *
    have hg := clsV_get hu
    obtain ⟨a, t⟩ := u
    have hv := fun σ' => IsVarR_ok a σ'
    have hty := fun σ' => ValidTypeR_ok t (by simp only at hmb; omega) σ'
    simp only [nextC] at hat
    cases t with
    | mk b c cs =>
    simp only [clV, clC, tyCells] at hg
    simp only [tyV] at hty
    have next : substAt l i = true → ∀ j, j < i + 1 → substAt l j = true := fun hh j hj => by
      rcases Nat.lt_or_ge j i with h1 | h1
      · exact hs j h1
      · have : j = i := by omega
        subst this; exact hh
    (simp only [h, hg, clsV_len, (vmA), Nat.reduceEqDiff, reduceIte, Nat.reduceAdd, Int.reduceToNat, Int.reduceLE, Int.reduceLT, Int.reduceEq, Int.reduceNe, Int.reduceAdd, Int.reduceSub, Int.reduceNeg, Nat.reduceLT, Nat.reduceLeDiff, Nat.reduceBEq, undef, (stA), Nat.reduceMul]; try simp (disch := omega) only [(vmp)])
    refine ydraw T0 [] (by kernel_rfl) (by kernel_rfl) (by kernel_rfl) (by kernel_rfl) ?_
    (simp only [(vmA), Nat.reduceEqDiff, reduceIte, Nat.reduceAdd, Int.reduceToNat, Int.reduceLE, Int.reduceLT, Int.reduceEq, Int.reduceNe, Int.reduceAdd, Int.reduceSub, Int.reduceNeg, Nat.reduceLT, Nat.reduceLeDiff, Nat.reduceBEq, undef, (stA), Nat.reduceMul]; try simp (disch := omega) only [(vmp)])
    refine yNext.go (by rfl) _ rfl (hv _) ?_
    cases hva : varB a
    · have hat' : substAt l i = false := by rw [hat, hva]; rfl
      (simp only [(vmA), Nat.reduceEqDiff, reduceIte, Nat.reduceAdd, Int.reduceToNat, Int.reduceLE, Int.reduceLT, Int.reduceEq, Int.reduceNe, Int.reduceAdd, Int.reduceSub, Int.reduceNeg, Nat.reduceLT, Nat.reduceLeDiff, Nat.reduceBEq, undef, (stA), Nat.reduceMul]; try simp (disch := omega) only [(vmp)])
      rw [substB_not hi1 hat']
    (simp only [(vmA), Nat.reduceEqDiff, reduceIte, Nat.reduceAdd, Int.reduceToNat, Int.reduceLE, Int.reduceLT, Int.reduceEq, Int.reduceNe, Int.reduceAdd, Int.reduceSub, Int.reduceNeg, Nat.reduceLT, Nat.reduceLeDiff, Nat.reduceBEq, undef, (stA), Nat.reduceMul]; try simp (disch := omega) only [(vmp)])
    rcases i with _ | k
    · (simp only [(vmA), Nat.reduceEqDiff, reduceIte, Nat.reduceAdd, Int.reduceToNat, Int.reduceLE, Int.reduceLT, Int.reduceEq, Int.reduceNe, Int.reduceAdd, Int.reduceSub, Int.reduceNeg, Nat.reduceLT, Nat.reduceLeDiff, Nat.reduceBEq, undef, (stA), Nat.reduceMul]; try simp (disch := omega) only [(vmp)])
      refine yNext.go (by rfl) _ rfl (hty _) ?_
      cases hvt : validT conB (.mk b c cs)
      · have hat' : substAt l 0 = false := by rw [hat, hva, hvt]; rfl
        (simp only [(vmA), Nat.reduceEqDiff, reduceIte, Nat.reduceAdd, Int.reduceToNat, Int.reduceLE, Int.reduceLT, Int.reduceEq, Int.reduceNe, Int.reduceAdd, Int.reduceSub, Int.reduceNeg, Nat.reduceLT, Nat.reduceLeDiff, Nat.reduceBEq, undef, (stA), Nat.reduceMul]; try simp (disch := omega) only [(vmp)])
        rw [substB_not hi1 hat']
      · (simp only [(vmA), Nat.reduceEqDiff, reduceIte, Nat.reduceAdd, Int.reduceToNat, Int.reduceLE, Int.reduceLT, Int.reduceEq, Int.reduceNe, Int.reduceAdd, Int.reduceSub, Int.reduceNeg, Nat.reduceLT, Nat.reduceLeDiff, Nat.reduceBEq, undef, (stA), Nat.reduceMul]; try simp (disch := omega) only [(vmp)])
        have hat' : substAt l 0 = true := by rw [hat, hva, hvt]; simp
        exact ⟨(1, _), ⟨by simp only; omega, next hat'⟩, by simp only; omega, rfl, rfl⟩
    · have hk0 : (0 : Int) < ((k + 1 : Nat) : Int) := by omega
      have hp : l[k]? = some l[k] := List.getElem?_eq_getElem (by omega)
      have hlast : (l.take (k + 1)).getLast? = some l[k] := by rw [(take_splitC l k _ hp).1, List.getLast?_concat]
      have hgp := clsV_get hp
      generalize l[k] = p at *
      obtain ⟨a', t'⟩ := p
      cases t' with
      | mk b' c' cs' =>
      simp only [clV, clC, tyCells] at hgp
      simp only [hlast] at hat
      have hsub : (((k + 1 : Nat) : Int) - 1) = (k : Int) := by omega
      cases hlt : Op.bytesLess a' a
      · (simp only [hk0, hsub, hgp, hlt, clsV_len, (vmA), Nat.reduceEqDiff, reduceIte, Nat.reduceAdd, Int.reduceToNat, Int.reduceLE, Int.reduceLT, Int.reduceEq, Int.reduceNe, Int.reduceAdd, Int.reduceSub, Int.reduceNeg, Nat.reduceLT, Nat.reduceLeDiff, Nat.reduceBEq, undef, (stA), Nat.reduceMul]; try simp (disch := omega) only [(vmp)])
        have hat' : substAt l (k + 1) = false := by rw [hat, hlt]; simp
        refine ⟨⟨by omega, by omega, by rw [hgp]; rfl⟩, ?_⟩
        (simp only [hgp, hlt, (vmA), Nat.reduceEqDiff, reduceIte, Nat.reduceAdd, Int.reduceToNat, Int.reduceLE, Int.reduceLT, Int.reduceEq, Int.reduceNe, Int.reduceAdd, Int.reduceSub, Int.reduceNeg, Nat.reduceLT, Nat.reduceLeDiff, Nat.reduceBEq, undef, (stA), Nat.reduceMul]; try simp (disch := omega) only [(vmp)])
        rw [substB_not hi1 hat']
      · (simp only [hk0, hsub, hgp, hlt, clsV_len, (vmA), Nat.reduceEqDiff, reduceIte, Nat.reduceAdd, Int.reduceToNat, Int.reduceLE, Int.reduceLT, Int.reduceEq, Int.reduceNe, Int.reduceAdd, Int.reduceSub, Int.reduceNeg, Nat.reduceLT, Nat.reduceLeDiff, Nat.reduceBEq, undef, (stA), Nat.reduceMul]; try simp (disch := omega) only [(vmp)])
        refine ⟨⟨by omega, by omega, by rw [hgp]; rfl⟩, ?_⟩
        (simp only [hgp, hlt, (vmA), Nat.reduceEqDiff, reduceIte, Nat.reduceAdd, Int.reduceToNat, Int.reduceLE, Int.reduceLT, Int.reduceEq, Int.reduceNe, Int.reduceAdd, Int.reduceSub, Int.reduceNeg, Nat.reduceLT, Nat.reduceLeDiff, Nat.reduceBEq, undef, (stA), Nat.reduceMul]; try simp (disch := omega) only [(vmp)])
        refine yNext.go (by rfl) _ rfl (hty _) ?_
        cases hvt : validT conB (.mk b c cs)
        · have hat' : substAt l (k + 1) = false := by rw [hat, hva, hvt]; rfl
          (simp only [(vmA), Nat.reduceEqDiff, reduceIte, Nat.reduceAdd, Int.reduceToNat, Int.reduceLE, Int.reduceLT, Int.reduceEq, Int.reduceNe, Int.reduceAdd, Int.reduceSub, Int.reduceNeg, Nat.reduceLT, Nat.reduceLeDiff, Nat.reduceBEq, undef, (stA), Nat.reduceMul]; try simp (disch := omega) only [(vmp)])
          rw [substB_not hi1 hat']
        · have hat' : substAt l (k + 1) = true := by rw [hat, hva, hvt, hlt]; rfl
          (simp only [(vmA), Nat.reduceEqDiff, reduceIte, Nat.reduceAdd, Int.reduceToNat, Int.reduceLE, Int.reduceLT, Int.reduceEq, Int.reduceNe, Int.reduceAdd, Int.reduceSub, Int.reduceNeg, Nat.reduceLT, Nat.reduceLeDiff, Nat.reduceBEq, undef, (stA), Nat.reduceMul]; try simp (disch := omega) only [(vmp)])
          exact ⟨(k + 1 + 1, _), ⟨by simp only; omega, next hat'⟩, by simp only; omega, rfl, rfl⟩
  · have hie : i = l.length := by omega
    subst hie
    (simp only [h, (vmA), Nat.reduceEqDiff, reduceIte, Nat.reduceAdd, Int.reduceToNat, Int.reduceLE, Int.reduceLT, Int.reduceEq, Int.reduceNe, Int.reduceAdd, Int.reduceSub, Int.reduceNeg, Nat.reduceLT, Nat.reduceLeDiff, Nat.reduceBEq, undef, (stA), Nat.reduceMul]; try simp (disch := omega) only [(vmp)])
    rw [substB_of hs]
set_option maxHeartbeats 4000000 in
theorem putR_ok (s : List Cl) (hs : lenC s) (t : Tr) (ht : okT t) (σ : List Ent) : ACalls E 63 [.sl (clsV s), tyV t] σ fun r τ => r = .tup [tyV (putR s t).1, i64 (putR s t).2] ∧ τ = σ := by
  refine xacalls T0 .freeze [] Tryz.func63 rfl (by kernel_rfl) (by kernel_rfl) (by simp [Tryz.ntmps63]) ?_
  have c1 := fun σ' => grown_ok2 _ t (Nat.le_refl _) s σ' hs ht
  have c2 := fun σ' => Put_ok _ t (Nat.le_refl _) s σ' hs ht
  unfold putR
  generalize growT s t = G at *
  generalize putT s t = P at *
  rcases G with ⟨a, b⟩
  rcases P with ⟨d2, n2, us2⟩
  cases t with
  | mk d n us =>
  have hf : fitsB (a, b) = (decide (a ≤ 2000) && decide (b ≤ 200)) := rfl
  simp only [tyV] at c1 c2
  by_cases h1 : 2000 < a
  · have : ¬ fitsB (a, b) = true := by rw [hf]; simp; omega
    rw [if_neg this]
    (simp only [tyV, tysV, (vmA), Nat.reduceEqDiff, reduceIte, Nat.reduceAdd, Int.reduceToNat, Int.reduceLE, Int.reduceLT, Int.reduceEq, Int.reduceNe, Int.reduceAdd, Int.reduceSub, Int.reduceNeg, Nat.reduceLT, Nat.reduceLeDiff, Nat.reduceBEq, undef, (stA), Nat.reduceMul]; try simp (disch := omega) only [(vmp)])
    refine xWait.go (c1 _) ?_
    (simp only [h1, (vmA), Nat.reduceEqDiff, reduceIte, Nat.reduceAdd, Int.reduceToNat, Int.reduceLE, Int.reduceLT, Int.reduceEq, Int.reduceNe, Int.reduceAdd, Int.reduceSub, Int.reduceNeg, Nat.reduceLT, Nat.reduceLeDiff, Nat.reduceBEq, undef, (stA), Nat.reduceMul]; try simp (disch := omega) only [(vmp)])
    exact ⟨_, .tup (.cons (.agg (.cons (.refl _) (.cons (.refl _) (.cons .none .nil)))) (.cons (.refl _) .nil)), by simp only [AV.low, AV.low.lows, Bool.and_self], rfl⟩
  by_cases h2 : 200 < b
  · have : ¬ fitsB (a, b) = true := by rw [hf]; simp; omega
    rw [if_neg this]
    (simp only [tyV, tysV, (vmA), Nat.reduceEqDiff, reduceIte, Nat.reduceAdd, Int.reduceToNat, Int.reduceLE, Int.reduceLT, Int.reduceEq, Int.reduceNe, Int.reduceAdd, Int.reduceSub, Int.reduceNeg, Nat.reduceLT, Nat.reduceLeDiff, Nat.reduceBEq, undef, (stA), Nat.reduceMul]; try simp (disch := omega) only [(vmp)])
    refine xWait.go (c1 _) ?_
    (simp only [h1, h2, (vmA), Nat.reduceEqDiff, reduceIte, Nat.reduceAdd, Int.reduceToNat, Int.reduceLE, Int.reduceLT, Int.reduceEq, Int.reduceNe, Int.reduceAdd, Int.reduceSub, Int.reduceNeg, Nat.reduceLT, Nat.reduceLeDiff, Nat.reduceBEq, undef, (stA), Nat.reduceMul]; try simp (disch := omega) only [(vmp)])
    exact ⟨_, .tup (.cons (.agg (.cons (.refl _) (.cons (.refl _) (.cons .none .nil)))) (.cons (.refl _) .nil)), by simp only [AV.low, AV.low.lows, Bool.and_self], rfl⟩
  · have : fitsB (a, b) = true := by rw [hf]; simp; omega
    rw [if_pos this]
    (simp only [tyV, (vmA), Nat.reduceEqDiff, reduceIte, Nat.reduceAdd, Int.reduceToNat, Int.reduceLE, Int.reduceLT, Int.reduceEq, Int.reduceNe, Int.reduceAdd, Int.reduceSub, Int.reduceNeg, Nat.reduceLT, Nat.reduceLeDiff, Nat.reduceBEq, undef, (stA), Nat.reduceMul]; try simp (disch := omega) only [(vmp)])
    refine xWait.go (c1 _) ?_
    (simp only [h1, h2, (vmA), Nat.reduceEqDiff, reduceIte, Nat.reduceAdd, Int.reduceToNat, Int.reduceLE, Int.reduceLT, Int.reduceEq, Int.reduceNe, Int.reduceAdd, Int.reduceSub, Int.reduceNeg, Nat.reduceLT, Nat.reduceLeDiff, Nat.reduceBEq, undef, (stA), Nat.reduceMul]; try simp (disch := omega) only [(vmp)])
    refine xWait.go (c2 _) ?_
    (simp only [(vmA), Nat.reduceEqDiff, reduceIte, Nat.reduceAdd, Int.reduceToNat, Int.reduceLE, Int.reduceLT, Int.reduceEq, Int.reduceNe, Int.reduceAdd, Int.reduceSub, Int.reduceNeg, Nat.reduceLT, Nat.reduceLeDiff, Nat.reduceBEq, undef, (stA), Nat.reduceMul]; try simp (disch := omega) only [(vmp)])
    exact ⟨_, .refl _, by simp only [AV.low, AV.low.lows, tysV_low, Bool.and_self], rfl⟩
set_option maxHeartbeats 8000000 in
theorem ApplyR_ok (l : List Cl) (hbl : bulkC l ≤ 1048576) (t : Tr) (hbt : bulkT t ≤ 1048576) (σ : List Ent) :
    ACalls E 26 [.sl (clsV l), tyV t] σ fun r τ => r = .tup [tyV (appR l t).1, i64 (appR l t).2] ∧ τ = σ := by
  refine xacalls T0 .freeze [] Tryz.func26 rfl (by kernel_rfl) (by kernel_rfl) (by simp [Tryz.ntmps26]) ?_
  have hl := bulkC_len hbl
  have ht := bulk_len t hbt
  have c1 := fun σ' => IsSubstR_ok l hbl σ'
  have c2 := fun σ' => ValidTypeR_ok t hbt σ'
  unfold appR
  cases h1 : substB l
  · simp only [h1] at c1
    cases t with
    | mk d n us =>
    simp only [tyV] at c2
    (simp only [tyV, tysV, Bool.false_eq_true, false_and, if_false, (vmA), Nat.reduceEqDiff, reduceIte, Nat.reduceAdd, Int.reduceToNat, Int.reduceLE, Int.reduceLT, Int.reduceEq, Int.reduceNe, Int.reduceAdd, Int.reduceSub, Int.reduceNeg, Nat.reduceLT, Nat.reduceLeDiff, Nat.reduceBEq, undef, (stA), Nat.reduceMul]; try simp (disch := omega) only [(vmp)])
    refine xWait.go (c1 _) ?_
    (simp only [(vmA), Nat.reduceEqDiff, reduceIte, Nat.reduceAdd, Int.reduceToNat, Int.reduceLE, Int.reduceLT, Int.reduceEq, Int.reduceNe, Int.reduceAdd, Int.reduceSub, Int.reduceNeg, Nat.reduceLT, Nat.reduceLeDiff, Nat.reduceBEq, undef, (stA), Nat.reduceMul]; try simp (disch := omega) only [(vmp)])
    exact ⟨_, .tup (.cons (.agg (.cons (.refl _) (.cons (.refl _) (.cons .none .nil)))) (.cons (.refl _) .nil)), by simp only [AV.low, AV.low.lows, Bool.and_self], rfl⟩
  cases h2 : validT conB t
  · simp only [h1, h2] at c1 c2
    cases t with
    | mk d n us =>
    simp only [tyV] at c2
    (simp only [tyV, tysV, Bool.false_eq_true, and_false, if_false, (vmA), Nat.reduceEqDiff, reduceIte, Nat.reduceAdd, Int.reduceToNat, Int.reduceLE, Int.reduceLT, Int.reduceEq, Int.reduceNe, Int.reduceAdd, Int.reduceSub, Int.reduceNeg, Nat.reduceLT, Nat.reduceLeDiff, Nat.reduceBEq, undef, (stA), Nat.reduceMul]; try simp (disch := omega) only [(vmp)])
    refine xWait.go (c1 _) ?_
    (simp only [(vmA), Nat.reduceEqDiff, reduceIte, Nat.reduceAdd, Int.reduceToNat, Int.reduceLE, Int.reduceLT, Int.reduceEq, Int.reduceNe, Int.reduceAdd, Int.reduceSub, Int.reduceNeg, Nat.reduceLT, Nat.reduceLeDiff, Nat.reduceBEq, undef, (stA), Nat.reduceMul]; try simp (disch := omega) only [(vmp)])
    refine xWait.go (c2 _) ?_
    (simp only [(vmA), Nat.reduceEqDiff, reduceIte, Nat.reduceAdd, Int.reduceToNat, Int.reduceLE, Int.reduceLT, Int.reduceEq, Int.reduceNe, Int.reduceAdd, Int.reduceSub, Int.reduceNeg, Nat.reduceLT, Nat.reduceLeDiff, Nat.reduceBEq, undef, (stA), Nat.reduceMul]; try simp (disch := omega) only [(vmp)])
    exact ⟨_, .tup (.cons (.agg (.cons (.refl _) (.cons (.refl _) (.cons .none .nil)))) (.cons (.refl _) .nil)), by simp only [AV.low, AV.low.lows, Bool.and_self], rfl⟩
  have hsm := subst_small h1 hbl
  have c3 := fun σ' => putR_ok l hl t ⟨ht, valid_typ h2⟩ σ'
  have hcn := cnt_bulk t
  rw [putR_apply hsm (by omega)] at c3
  simp only [h1, h2] at c1 c2
  rw [if_pos ⟨rfl, rfl⟩]
  rcases hr : applyR l t with ⟨⟨a, b, cs⟩, z⟩
  simp only [hr] at c3
  cases t with
  | mk d n us =>
  simp only [tyV] at c2 c3
  (simp only [tyV, (vmA), Nat.reduceEqDiff, reduceIte, Nat.reduceAdd, Int.reduceToNat, Int.reduceLE, Int.reduceLT, Int.reduceEq, Int.reduceNe, Int.reduceAdd, Int.reduceSub, Int.reduceNeg, Nat.reduceLT, Nat.reduceLeDiff, Nat.reduceBEq, undef, (stA), Nat.reduceMul]; try simp (disch := omega) only [(vmp)])
  refine xWait.go (c1 _) ?_
  (simp only [(vmA), Nat.reduceEqDiff, reduceIte, Nat.reduceAdd, Int.reduceToNat, Int.reduceLE, Int.reduceLT, Int.reduceEq, Int.reduceNe, Int.reduceAdd, Int.reduceSub, Int.reduceNeg, Nat.reduceLT, Nat.reduceLeDiff, Nat.reduceBEq, undef, (stA), Nat.reduceMul]; try simp (disch := omega) only [(vmp)])
  refine xWait.go (c2 _) ?_
  (simp only [(vmA), Nat.reduceEqDiff, reduceIte, Nat.reduceAdd, Int.reduceToNat, Int.reduceLE, Int.reduceLT, Int.reduceEq, Int.reduceNe, Int.reduceAdd, Int.reduceSub, Int.reduceNeg, Nat.reduceLT, Nat.reduceLeDiff, Nat.reduceBEq, undef, (stA), Nat.reduceMul]; try simp (disch := omega) only [(vmp)])
  refine xWait.go (c3 _) ?_
  (simp only [(vmA), Nat.reduceEqDiff, reduceIte, Nat.reduceAdd, Int.reduceToNat, Int.reduceLE, Int.reduceLT, Int.reduceEq, Int.reduceNe, Int.reduceAdd, Int.reduceSub, Int.reduceNeg, Nat.reduceLT, Nat.reduceLeDiff, Nat.reduceBEq, undef, (stA), Nat.reduceMul]; try simp (disch := omega) only [(vmp)])
  exact ⟨_, .refl _, by simp only [AV.low, AV.low.lows, tysV_low, Bool.and_self], rfl⟩
theorem isVarR_ok (d n : List UInt8) (us : List Tr) (m : List UInt8) (σ : List Ent) : ACalls E 65 [.agg [.str d, .str n, .sl (tysV us)], .str m] σ fun r τ => r = boolV (decide (d = kiVar ∧ n = m)) ∧ τ = σ := by
  refine xacalls T0 .drop [] Tryz.func65 rfl (by kernel_rfl) (by kernel_rfl) (by simp [Tryz.ntmps65]) ?_
  by_cases hd : d = kiVar
  · have t1 : (d = [118, 97, 114]) = True := eq_true hd
    by_cases hn : n = m
    · (simp only [t1, hn, (vmA), Nat.reduceEqDiff, reduceIte, Nat.reduceAdd, Int.reduceToNat, Int.reduceLE, Int.reduceLT, Int.reduceEq, Int.reduceNe, Int.reduceAdd, Int.reduceSub, Int.reduceNeg, Nat.reduceLT, Nat.reduceLeDiff, Nat.reduceBEq, undef, (stA), Nat.reduceMul]; try simp (disch := omega) only [(vmp)])
    · (simp only [t1, hn, (vmA), Nat.reduceEqDiff, reduceIte, Nat.reduceAdd, Int.reduceToNat, Int.reduceLE, Int.reduceLT, Int.reduceEq, Int.reduceNe, Int.reduceAdd, Int.reduceSub, Int.reduceNeg, Nat.reduceLT, Nat.reduceLeDiff, Nat.reduceBEq, undef, (stA), Nat.reduceMul]; try simp (disch := omega) only [(vmp)])
  · have t1 : ¬ d = [118, 97, 114] := hd
    (simp only [t1, false_and, (vmA), Nat.reduceEqDiff, reduceIte, Nat.reduceAdd, Int.reduceToNat, Int.reduceLE, Int.reduceLT, Int.reduceEq, Int.reduceNe, Int.reduceAdd, Int.reduceSub, Int.reduceNeg, Nat.reduceLT, Nat.reduceLeDiff, Nat.reduceBEq, undef, (stA), Nat.reduceMul]; try simp (disch := omega) only [(vmp)])
theorem letterR_ok (i : Nat) (hi : i < 26) (σ : List Ent) : ACalls E 64 [i64 i] σ fun r τ => r = .str (letA i) ∧ τ = σ := by
  refine xacalls T0 .drop [] Tryz.func64 rfl (by kernel_rfl) (by kernel_rfl) (by simp [Tryz.ntmps64]) ?_
  have hav := u8_byte hi
  have hw : IntKind.u8.wrap (97 + (i : Int)) = 97 + (i : Int) := wrapU8 (by omega) (by omega)
  (simp only [letA, (vmA), Nat.reduceEqDiff, reduceIte, Nat.reduceAdd, Int.reduceToNat, Int.reduceLE, Int.reduceLT, Int.reduceEq, Int.reduceNe, Int.reduceAdd, Int.reduceSub, Int.reduceNeg, Nat.reduceLT, Nat.reduceLeDiff, Nat.reduceBEq, undef, (stA), Nat.reduceMul]; try simp (disch := omega) only [(vmp)])
  (simp only [hav, hw, List.cons_append, List.nil_append, Option.bind_some, Option.map_some, (vmA), Nat.reduceEqDiff, reduceIte, Nat.reduceAdd, Int.reduceToNat, Int.reduceLE, Int.reduceLT, Int.reduceEq, Int.reduceNe, Int.reduceAdd, Int.reduceSub, Int.reduceNeg, Nat.reduceLT, Nat.reduceLeDiff, Nat.reduceBEq, undef, (stA), Nat.reduceMul]; try simp (disch := omega) only [(vmp)])
set_option maxHeartbeats 8000000 in
theorem AfterR_ok (s t : List Cl) (hbs : bulkC s ≤ 1048576) (hbt : bulkC t ≤ 1048576) (σ : List Ent) :
    ACalls E 27 [.sl (clsV s), .sl (clsV t)] σ fun r τ => r = .tup [.sl (clsV (afterR s t).1), i64 (afterR s t).2] ∧ τ = σ := by
  have hs := bulkC_len hbs
  have ht := bulkC_len hbt
  refine xacalls T0 .freeze [] Tryz.func27 rfl (by kernel_rfl) (by kernel_rfl) (by simp [Tryz.ntmps27]) ?_
  have c1 := fun σ' => IsSubstR_ok s hbs σ'
  have c2 := fun σ' => IsSubstR_ok t hbt σ'
  unfold afterR
  cases h1 : substB s
  · simp only [h1] at c1
    (simp only [Bool.false_eq_true, false_and, if_false, (vmA), Nat.reduceEqDiff, reduceIte, Nat.reduceAdd, Int.reduceToNat, Int.reduceLE, Int.reduceLT, Int.reduceEq, Int.reduceNe, Int.reduceAdd, Int.reduceSub, Int.reduceNeg, Nat.reduceLT, Nat.reduceLeDiff, Nat.reduceBEq, undef, (stA), Nat.reduceMul]; try simp (disch := omega) only [(vmp)])
    refine xWait.go (c1 _) ?_
    (simp only [(vmA), Nat.reduceEqDiff, reduceIte, Nat.reduceAdd, Int.reduceToNat, Int.reduceLE, Int.reduceLT, Int.reduceEq, Int.reduceNe, Int.reduceAdd, Int.reduceSub, Int.reduceNeg, Nat.reduceLT, Nat.reduceLeDiff, Nat.reduceBEq, undef, (stA), Nat.reduceMul]; try simp (disch := omega) only [(vmp)])
    exact ⟨_, .tup (.cons .none (.cons (.refl _) .nil)), by simp only [AV.low, AV.low.lows, Bool.and_self], rfl⟩
  cases h2 : substB t
  · simp only [h1, h2] at c1 c2
    (simp only [Bool.false_eq_true, and_false, if_false, (vmA), Nat.reduceEqDiff, reduceIte, Nat.reduceAdd, Int.reduceToNat, Int.reduceLE, Int.reduceLT, Int.reduceEq, Int.reduceNe, Int.reduceAdd, Int.reduceSub, Int.reduceNeg, Nat.reduceLT, Nat.reduceLeDiff, Nat.reduceBEq, undef, (stA), Nat.reduceMul]; try simp (disch := omega) only [(vmp)])
    refine xWait.go (c1 _) ?_
    (simp only [(vmA), Nat.reduceEqDiff, reduceIte, Nat.reduceAdd, Int.reduceToNat, Int.reduceLE, Int.reduceLT, Int.reduceEq, Int.reduceNe, Int.reduceAdd, Int.reduceSub, Int.reduceNeg, Nat.reduceLT, Nat.reduceLeDiff, Nat.reduceBEq, undef, (stA), Nat.reduceMul]; try simp (disch := omega) only [(vmp)])
    refine xWait.go (c2 _) ?_
    (simp only [(vmA), Nat.reduceEqDiff, reduceIte, Nat.reduceAdd, Int.reduceToNat, Int.reduceLE, Int.reduceLT, Int.reduceEq, Int.reduceNe, Int.reduceAdd, Int.reduceSub, Int.reduceNeg, Nat.reduceLT, Nat.reduceLeDiff, Nat.reduceBEq, undef, (stA), Nat.reduceMul]; try simp (disch := omega) only [(vmp)])
    exact ⟨_, .tup (.cons .none (.cons (.refl _) .nil)), by simp only [AV.low, AV.low.lows, Bool.and_self], rfl⟩
  have os := substB_okV h1 hs
  have ot := substB_okV h2 ht
  have hsm := subst_small h2 hbt
  simp only [h1, h2] at c1 c2
  rw [if_pos ⟨rfl, rfl⟩]
  (simp only [(vmA), Nat.reduceEqDiff, reduceIte, Nat.reduceAdd, Int.reduceToNat, Int.reduceLE, Int.reduceLT, Int.reduceEq, Int.reduceNe, Int.reduceAdd, Int.reduceSub, Int.reduceNeg, Nat.reduceLT, Nat.reduceLeDiff, Nat.reduceBEq, undef, (stA), Nat.reduceMul]; try simp (disch := omega) only [(vmp)])
  refine xWait.go (c1 _) ?_
  (simp only [(vmA), Nat.reduceEqDiff, reduceIte, Nat.reduceAdd, Int.reduceToNat, Int.reduceLE, Int.reduceLT, Int.reduceEq, Int.reduceNe, Int.reduceAdd, Int.reduceSub, Int.reduceNeg, Nat.reduceLT, Nat.reduceLeDiff, Nat.reduceBEq, undef, (stA), Nat.reduceMul]; try simp (disch := omega) only [(vmp)])
  refine xWait.go (c2 _) ?_
  (simp only [(vmA), Nat.reduceEqDiff, reduceIte, Nat.reduceAdd, Int.reduceToNat, Int.reduceLE, Int.reduceLT, Int.reduceEq, Int.reduceNe, Int.reduceAdd, Int.reduceSub, Int.reduceNeg, Nat.reduceLT, Nat.reduceLeDiff, Nat.reduceBEq, undef, (stA), Nat.reduceMul]; try simp (disch := omega) only [(vmp)])
  refine xloop (α := Nat × List Cl × List Ent × Nat) T0 (fun x => [(0, .sl (clsV s)), (1, .sl (clsV t)), (6, rowC (σ.length + x.2.2.2) x.2.1), (20, i64 x.1)]) (fun _ => σ)
    (fun x => x.2.2.1)
    (fun x => x.1 ≤ 26 ∧ afterL s t x.1 = some x.2.1 ∧ (x.2.1 ≠ [] → x.2.2.1[x.2.2.2]? = some (.arr 33 (x.2.1.flatMap clC) (x.2.1.length - 1) 0))) (fun x => 26 - x.1) (by kernel_rfl)
    ⟨(0, [], [], 0), ⟨by simp, rfl, by simp⟩, by (simp only [rowC, (vmA), Nat.reduceEqDiff, reduceIte, Nat.reduceAdd, Int.reduceToNat, Int.reduceLE, Int.reduceLT, Int.reduceEq, Int.reduceNe, Int.reduceAdd, Int.reduceSub, Int.reduceNeg, Nat.reduceLT, Nat.reduceLeDiff, Nat.reduceBEq, undef, (stA), Nat.reduceMul, Int.natCast_zero, Int.add_zero]; try simp (disch := omega) only [(vmp)]), rfl, rfl⟩ ?_
  rintro ⟨i, acc, J, rid⟩ ⟨hi, hacc, hrow⟩
  simp only at hi hacc hrow
  have hal := afterL_len s t i acc hacc
  by_cases h : (i : Int) < 26
  · have hi' : i < 26 := by omega
    have l1 := fun σ' => letterR_ok i hi' σ'
    have hvo : okT (vT (letA i)) := ⟨by simp only [vT, lenT, lenTs, letA, List.length_cons, List.length_nil]; exact ⟨by omega, by omega, trivial⟩, vT_typ hi'⟩
    have hfo : okT (putT s (vT (letA i))) := putT_ok os hvo
    have l2 : ∀ σ', ACalls E 21 [.sl (clsV s), .agg [.str [118, 97, 114], .str (letA i), .v (.slice none 0 0)]] σ' fun r τ => r = tyV (putT s (vT (letA i))) ∧ τ = σ' := fun σ' =>
      ACalls.wk (.cons (.refl _) (.cons (.agg (.cons (.refl _) (.cons (.refl _) (.cons .nil .nil)))) .nil)) (Put_ok _ (vT (letA i)) (Nat.le_refl _) s σ' hs hvo)
    have l3 := fun σ' => putR_ok t ht _ hfo σ'
    have hcf : cntT (putT s (vT (letA i))) ≤ 2000 * 1 := put_cnt s (subst_small h1 hbs) (vT (letA i))
    rw [putR_apply hsm (by omega)] at l3
    have haft : afterL s t (i + 1) = (if fitsB (ofT (putT t (putT s (vT (letA i))))) = true then some (acc ++ keepC (letA i) (putT t (putT s (vT (letA i))))) else none) := by
      simp only [afterL, hacc]
      rw [put_vT]
      cases hlk : Sub'.look s (letA i) with
      | some u => rfl
      | none =>
        simp only [Option.getD_none]
        rw [put_vT]
        cases hlk2 : Sub'.look t (letA i) with
        | some u =>
          simp only [Option.getD_some]
          rw [if_pos (valid_fits (substB_mem h2 (look_some_mem hlk2)).2)]
        | none =>
          simp only [Option.getD_none]
          have hfv : fitsB (ofT (vT (letA i))) = true := rfl
          rw [if_pos hfv, keep_var, List.append_nil]
    have hwo : okT (putT t (putT s (vT (letA i)))) := putT_ok ot hfo
    unfold applyR at l3
    rcases hf : putT s (vT (letA i)) with ⟨d1, n1, us1⟩
    rw [hf] at l2 l3 haft hwo
    rcases hw : putT t (.mk d1 n1 us1) with ⟨d, n, us⟩
    rw [hw] at l3 haft hwo
    have l4 := fun σ' => isVarR_ok d n us (letA i) σ'
    by_cases hfit : fitsB (ofT (.mk d n us)) = true
    · rw [if_pos hfit] at l3 haft
      simp only [tyV] at l2 l3
      (simp only [h, (vmA), Nat.reduceEqDiff, reduceIte, Nat.reduceAdd, Int.reduceToNat, Int.reduceLE, Int.reduceLT, Int.reduceEq, Int.reduceNe, Int.reduceAdd, Int.reduceSub, Int.reduceNeg, Nat.reduceLT, Nat.reduceLeDiff, Nat.reduceBEq, undef, (stA), Nat.reduceMul]; try simp (disch := omega) only [(vmp)])
      refine xWait.go (l1 _) ?_
      (simp only [(vmA), Nat.reduceEqDiff, reduceIte, Nat.reduceAdd, Int.reduceToNat, Int.reduceLE, Int.reduceLT, Int.reduceEq, Int.reduceNe, Int.reduceAdd, Int.reduceSub, Int.reduceNeg, Nat.reduceLT, Nat.reduceLeDiff, Nat.reduceBEq, undef, (stA), Nat.reduceMul]; try simp (disch := omega) only [(vmp)])
      refine xWait.go (l2 _) ?_
      (simp only [(vmA), Nat.reduceEqDiff, reduceIte, Nat.reduceAdd, Int.reduceToNat, Int.reduceLE, Int.reduceLT, Int.reduceEq, Int.reduceNe, Int.reduceAdd, Int.reduceSub, Int.reduceNeg, Nat.reduceLT, Nat.reduceLeDiff, Nat.reduceBEq, undef, (stA), Nat.reduceMul]; try simp (disch := omega) only [(vmp)])
      refine xWait.go (l3 _) ?_
      (simp only [(vmA), Nat.reduceEqDiff, reduceIte, Nat.reduceAdd, Int.reduceToNat, Int.reduceLE, Int.reduceLT, Int.reduceEq, Int.reduceNe, Int.reduceAdd, Int.reduceSub, Int.reduceNeg, Nat.reduceLT, Nat.reduceLeDiff, Nat.reduceBEq, undef, (stA), Nat.reduceMul]; try simp (disch := omega) only [(vmp)])
      refine xWait.go (l4 _) ?_
      have hB := fun hne => get_olds (hrow hne) [Ent.arr 24 [.str d1, .str n1, .sl (tysV us1)] 0 0, Ent.arr 24 [.str d, .str n, .sl (tysV us)] 0 0]
      have hC : (J ++ [Ent.arr 24 [.str d1, .str n1, .sl (tysV us1)] 0 0, Ent.arr 24 [.str d, .str n, .sl (tysV us)] 0 0])[J.length + 1]? = some (Ent.arr 24 [.str d, .str n, .sl (tysV us)] 0 0) := by simp
      generalize hJJ : J ++ [Ent.arr 24 [.str d1, .str n1, .sl (tysV us1)] 0 0, Ent.arr 24 [.str d, .str n, .sl (tysV us)] 0 0] = J' at hB hC ⊢
      by_cases hkp : d = kiVar ∧ n = letA i
      · have hk0 : keepC (letA i) (.mk d n us) = [] := if_pos hkp
        rw [hk0, List.append_nil] at haft
        (simp only [decide_eq_true hkp, hC, (vmA), Nat.reduceEqDiff, reduceIte, Nat.reduceAdd, Int.reduceToNat, Int.reduceLE, Int.reduceLT, Int.reduceEq, Int.reduceNe, Int.reduceAdd, Int.reduceSub, Int.reduceNeg, Nat.reduceLT, Nat.reduceLeDiff, Nat.reduceBEq, undef, (stA), Nat.reduceMul]; try simp (disch := omega) only [(vmp)])
        exact ⟨(i + 1, acc, J', rid), ⟨by simp only; omega, haft, hB⟩, by simp only; omega, ⟨rfl, rfl⟩, rfl⟩
      · have hk1 : keepC (letA i) (.mk d n us) = [(letA i, .mk d n us)] := if_neg hkp
        rw [hk1] at haft
        rcases acc with _ | ⟨b0, r0⟩
        · (simp only [decide_eq_false hkp, hC, rowC, (vmA), Nat.reduceEqDiff, reduceIte, Nat.reduceAdd, Int.reduceToNat, Int.reduceLE, Int.reduceLT, Int.reduceEq, Int.reduceNe, Int.reduceAdd, Int.reduceSub, Int.reduceNeg, Nat.reduceLT, Nat.reduceLeDiff, Nat.reduceBEq, undef, (stA), Nat.reduceMul]; try simp (disch := omega) only [(vmp)])
          exact ⟨by unfold maxRoom; omega, (i + 1, [(letA i, .mk d n us)], J' ++ [Ent.arr 33 [AV.str (letA i), AV.str d, AV.str n, AV.sl (tysV us)] 0 0], J'.length), ⟨by simp only; omega, haft, fun _ => by simp [clC, tyCells]⟩, by simp only; omega, ⟨rfl, rfl⟩, rfl⟩
        · have h5 := hB (by simp)
          have e0 : (clC b0).length = 4 := clC_len b0
          have hf0 : (List.flatMap clC r0).length = r0.length * 4 := clCs_len r0
          simp only [List.length_cons] at hal
          (simp only [decide_eq_false hkp, hC, rowC, h5, (vmA), Nat.reduceEqDiff, reduceIte, Nat.reduceAdd, Int.reduceToNat, Int.reduceLE, Int.reduceLT, Int.reduceEq, Int.reduceNe, Int.reduceAdd, Int.reduceSub, Int.reduceNeg, Nat.reduceLT, Nat.reduceLeDiff, Nat.reduceBEq, undef, (stA), Nat.reduceMul]; try simp (disch := omega) only [(vmp)])
          refine ⟨⟨by omega, by omega, by omega, by unfold maxRoom; omega, by unfold maxRoom; omega⟩, ?_⟩
          refine ⟨(i + 1, b0 :: r0 ++ [(letA i, .mk d n us)], J'.set rid (Ent.arr 33 (clC b0 ++ (List.flatMap clC r0 ++ [AV.str (letA i), AV.str d, AV.str n, AV.sl (tysV us)])) (r0.length + 1 - 1 + 1) 0), rid), ⟨by simp only; omega, haft, fun _ => ?_⟩, by simp only; omega, ⟨?_, rfl⟩, rfl⟩
          · simp only
            rw [get_set_self h5]
            simp [clC, tyCells]
          · simp only [List.cons_append, List.length_append, List.length_cons, List.length_nil]
    · rw [if_neg hfit] at l3 haft
      have hall := afterL_none s t (i + 1) 26 (by omega) haft
      simp only [tyV, tysV] at l2 l3
      (simp only [h, (vmA), Nat.reduceEqDiff, reduceIte, Nat.reduceAdd, Int.reduceToNat, Int.reduceLE, Int.reduceLT, Int.reduceEq, Int.reduceNe, Int.reduceAdd, Int.reduceSub, Int.reduceNeg, Nat.reduceLT, Nat.reduceLeDiff, Nat.reduceBEq, undef, (stA), Nat.reduceMul]; try simp (disch := omega) only [(vmp)])
      refine xWait.go (l1 _) ?_
      (simp only [(vmA), Nat.reduceEqDiff, reduceIte, Nat.reduceAdd, Int.reduceToNat, Int.reduceLE, Int.reduceLT, Int.reduceEq, Int.reduceNe, Int.reduceAdd, Int.reduceSub, Int.reduceNeg, Nat.reduceLT, Nat.reduceLeDiff, Nat.reduceBEq, undef, (stA), Nat.reduceMul]; try simp (disch := omega) only [(vmp)])
      refine xWait.go (l2 _) ?_
      (simp only [(vmA), Nat.reduceEqDiff, reduceIte, Nat.reduceAdd, Int.reduceToNat, Int.reduceLE, Int.reduceLT, Int.reduceEq, Int.reduceNe, Int.reduceAdd, Int.reduceSub, Int.reduceNeg, Nat.reduceLT, Nat.reduceLeDiff, Nat.reduceBEq, undef, (stA), Nat.reduceMul]; try simp (disch := omega) only [(vmp)])
      refine xWait.go (l3 _) ?_
      (simp only [hall, (vmA), Nat.reduceEqDiff, reduceIte, Nat.reduceAdd, Int.reduceToNat, Int.reduceLE, Int.reduceLT, Int.reduceEq, Int.reduceNe, Int.reduceAdd, Int.reduceSub, Int.reduceNeg, Nat.reduceLT, Nat.reduceLeDiff, Nat.reduceBEq, undef, (stA), Nat.reduceMul]; try simp (disch := omega) only [(vmp)])
      exact ⟨_, .tup (.cons .none (.cons (.refl _) .nil)), by simp only [AV.low, AV.low.lows, Bool.and_self], rfl⟩
  · have hie : i = 26 := by omega
    subst hie
    (simp only [h, hacc, (vmA), Nat.reduceEqDiff, reduceIte, Nat.reduceAdd, Int.reduceToNat, Int.reduceLE, Int.reduceLT, Int.reduceEq, Int.reduceNe, Int.reduceAdd, Int.reduceSub, Int.reduceNeg, Nat.reduceLT, Nat.reduceLeDiff, Nat.reduceBEq, undef, (stA), Nat.reduceMul]; try simp (disch := omega) only [(vmp)])
    rcases acc with _ | ⟨b0, r0⟩
    · exact ⟨_, .tup (.cons .none (.cons (.refl _) .nil)), by simp only [AV.low, AV.low.lows, Bool.and_self], rfl⟩
    · have h5 := hrow (by simp)
      have hf0 := clCs_len (b0 :: r0)
      simp only [List.length_cons] at hal
      simp only [rowC]
      refine ⟨_, .tup (.cons (.rsl (ty := 33) (ver := r0.length) (imm := 0) (ag := true) (cells := (b0 :: r0).flatMap clC) (es := clsV (b0 :: r0)) (es' := clsV (b0 :: r0)) (by omega) ?_ (by rw [List.drop_zero, clsV_cells]) (by omega) (by rw [clsV_len]; rfl) (by omega) (fun e he => by obtain ⟨x, _, rfl⟩ := List.mem_map.1 he; exact clV_el x) FrzL.refl) (.cons (.refl _) .nil)), by simp only [AV.low, AV.low.lows, clsV_low, Bool.and_self], rfl⟩
      rw [Nat.add_sub_cancel_left]
      simpa using h5
end Go.D

/- What a substitution makes of a type, and of another substitution: the law. -/
set_option linter.unusedVariables false
set_option linter.unusedSimpArgs false
set_option linter.unnecessarySimpa false
set_option maxRecDepth 100000
namespace Go.D
open Go Go.Vm Go.Proofs Go.RowKit

set_option maxHeartbeats 16000000 in
theorem law_apply (haw : AwakeOK) (s u : List Cl) (t : Tr) (hbs : bulkC s ≤ 1048576) (hbu : bulkC u ≤ 1048576) (hbt : bulkT t ≤ 1048576) (σ : List Ent) :
    HasBody E 9 ∧ ∀ (z : S) (vs : List Value), z.σ = σ → HInv z → E.Γ z.B z.w → RepL z [.sl (clsV s), .sl (clsV u), tyV t] vs →
      Calls E.P 9 vs.toArray z.w fun e w' => ∃ v r s', e = .returned v ∧ s'.w = w' ∧ HInv s' ∧ Ext z s' ∧ Rep s' r v ∧ (r = boolV true ∧ s'.σ = σ) := by
  refine xbody T0 .drop [] Tryz.func9 rfl (by kernel_rfl) (by kernel_rfl) (by simp [Tryz.ntmps9]) (R := fun r τ => r = boolV true ∧ τ = σ) ?_
  have hs := bulkC_len hbs
  have hu := bulkC_len hbu
  have ht := bulk_len t hbt
  have c1 := fun σ' => Apply_ok s hs t ht σ'
  have c2 := fun σ' => ApplyR_ok s hbs t hbt σ'
  have c3 := fun σ' => After_ok s u hs hu σ'
  have c4 := fun σ' => AfterR_ok s u hbs hbu σ'
  have hx : lenT (appR s t).1 := by
    rcases appR_cases s t with ⟨_, _, _, h⟩ | ⟨e, h, _⟩
    · rw [h]; exact putT_len s (fun e he => (hs.2 e he).2) t ht
    · rw [h]; simp [lenT, lenTs]
  have hl : lenC (afterR s u).1 := by
    rcases afterR_cases s u with ⟨l, h⟩ | ⟨e, h, _⟩
    · rw [h]; exact (afterR_ok hs hu h).2.2.2.2.1
    · rw [h]; exact ⟨by simp, fun c hc => by cases hc⟩
  have q1 := fun σ' => SameType2_ok _ (appR s t).1 (Nat.le_refl _) (appR s t).1 σ' hx hx
  rw [sameB_refl] at q1
  have q2 : ∀ σ', ACalls E 20 [.sl (clsV (afterR s u).1), .sl (clsV (afterR s u).1)] σ' fun r τ => r = boolV true ∧ τ = σ' := fun σ' => by
    have := SameSubst_ok _ _ hl hl σ'
    rw [sameCs_refl, decide_eq_true rfl] at this
    exact this
  generalize appR s t = R at *
  generalize afterR s u = A at *
  rcases R with ⟨⟨d2, n2, us2⟩, e⟩
  rcases A with ⟨l, f⟩
  rcases t with ⟨d, n, us⟩
  simp only [tyV] at c1 c2 c3 c4 q1 q2
  (simp only [tyV, (vmA), Nat.reduceEqDiff, reduceIte, Nat.reduceAdd, Int.reduceToNat, Int.reduceLE, Int.reduceLT, Int.reduceEq, Int.reduceNe, Int.reduceAdd, Int.reduceSub, Int.reduceNeg, Nat.reduceLT, Nat.reduceLeDiff, Nat.reduceBEq, undef, (stA), Nat.reduceMul]; try simp (disch := omega) only [(vmp)])
  refine xWait.go (c1 _) ?_
  (simp only [(vmA), Nat.reduceEqDiff, reduceIte, Nat.reduceAdd, Int.reduceToNat, Int.reduceLE, Int.reduceLT, Int.reduceEq, Int.reduceNe, Int.reduceAdd, Int.reduceSub, Int.reduceNeg, Nat.reduceLT, Nat.reduceLeDiff, Nat.reduceBEq, undef, (stA), Nat.reduceMul]; try simp (disch := omega) only [(vmp)])
  refine xWait.go (c2 _) ?_
  (simp only [(vmA), Nat.reduceEqDiff, reduceIte, Nat.reduceAdd, Int.reduceToNat, Int.reduceLE, Int.reduceLT, Int.reduceEq, Int.reduceNe, Int.reduceAdd, Int.reduceSub, Int.reduceNeg, Nat.reduceLT, Nat.reduceLeDiff, Nat.reduceBEq, undef, (stA), Nat.reduceMul]; try simp (disch := omega) only [(vmp)])
  refine xWait.go (q1 _) ?_
  (simp only [(vmA), Nat.reduceEqDiff, reduceIte, Nat.reduceAdd, Int.reduceToNat, Int.reduceLE, Int.reduceLT, Int.reduceEq, Int.reduceNe, Int.reduceAdd, Int.reduceSub, Int.reduceNeg, Nat.reduceLT, Nat.reduceLeDiff, Nat.reduceBEq, undef, (stA), Nat.reduceMul]; try simp (disch := omega) only [(vmp)])
  refine xWait.go (c3 _) ?_
  (simp only [(vmA), Nat.reduceEqDiff, reduceIte, Nat.reduceAdd, Int.reduceToNat, Int.reduceLE, Int.reduceLT, Int.reduceEq, Int.reduceNe, Int.reduceAdd, Int.reduceSub, Int.reduceNeg, Nat.reduceLT, Nat.reduceLeDiff, Nat.reduceBEq, undef, (stA), Nat.reduceMul]; try simp (disch := omega) only [(vmp)])
  refine xWait.go (c4 _) ?_
  (simp only [(vmA), Nat.reduceEqDiff, reduceIte, Nat.reduceAdd, Int.reduceToNat, Int.reduceLE, Int.reduceLT, Int.reduceEq, Int.reduceNe, Int.reduceAdd, Int.reduceSub, Int.reduceNeg, Nat.reduceLT, Nat.reduceLeDiff, Nat.reduceBEq, undef, (stA), Nat.reduceMul]; try simp (disch := omega) only [(vmp)])
  refine xWait.go (q2 _) ?_
  (simp only [(vmA), Nat.reduceEqDiff, reduceIte, Nat.reduceAdd, Int.reduceToNat, Int.reduceLE, Int.reduceLT, Int.reduceEq, Int.reduceNe, Int.reduceAdd, Int.reduceSub, Int.reduceNeg, Nat.reduceLT, Nat.reduceLeDiff, Nat.reduceBEq, undef, (stA), Nat.reduceMul]; try simp (disch := omega) only [(vmp)])
  refine xWait.go (haw _) ?_
  (simp only [(vmA), Nat.reduceEqDiff, reduceIte, Nat.reduceAdd, Int.reduceToNat, Int.reduceLE, Int.reduceLT, Int.reduceEq, Int.reduceNe, Int.reduceAdd, Int.reduceSub, Int.reduceNeg, Nat.reduceLT, Nat.reduceLeDiff, Nat.reduceBEq, undef, (stA), Nat.reduceMul]; try simp (disch := omega) only [(vmp)])
end Go.D
