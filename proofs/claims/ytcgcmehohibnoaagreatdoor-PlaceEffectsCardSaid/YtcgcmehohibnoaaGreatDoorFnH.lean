/- The text of a type with places. -/
import Derived.Test.YtcgcmehohibnoaaGreatDoorFnG
import Derived.Test.YtcgcmehohibnoaaGreatDoorVmF
import Derived.Test.YtcgcmehohibnoaaGreatDoorFnE
set_option linter.unusedVariables false
set_option linter.unusedSimpArgs false
set_option maxRecDepth 100000
namespace Go.D
open Go Go.Vm Go.Proofs Go.RowKit

def fmtK (d n : List UInt8) (a : Int) (e : List Int) (ps : List (List UInt8)) : List UInt8 :=
  if d = kiInt ∨ d = kiBool ∨ d = kiUnit then d
  else if d = kiText then kiText ++ atS a
  else if d = kiData then n ++ atS a
  else if d = kiPair then [40] ++ ps.getD 0 [] ++ [32, 42, 32] ++ ps.getD 1 [] ++ [41] ++ atS a
  else if d = kiFn then [40] ++ ps.getD 0 [] ++ [32, 45, 62, 32] ++ ps.getD 1 [] ++ [41] ++ atS a ++ [123] ++ intsS e ++ [125]
  else [40] ++ ps.getD 0 [] ++ [32] ++ d ++ [41] ++ atS a
mutual
def fmtT : RTr → List UInt8
  | .mk d n a e us => fmtK d n a e (fmtTs us)
def fmtTs : List RTr → List (List UInt8)
  | [] => []
  | t :: ts => fmtT t :: fmtTs ts
end
theorem fmtTs_map : ∀ l : List RTr, fmtTs l = l.map fmtT
  | [] => rfl
  | t :: ts => by rw [fmtTs, fmtTs_map ts]; rfl

theorem ints_len (l : List Int) (hl : l.length ≤ 1099511627776) (hr : i64R l) : (intsS l).length ≤ 24189255811072 := by
  have := join_len [32] 21 (l.map Lib.itoa) (fun s hs => by
    obtain ⟨x, hx, rfl⟩ := List.mem_map.1 hs
    exact Lib.itoa_length_le x (hr x hx).1 (hr x hx).2)
  rw [List.length_map] at this
  unfold intsS
  simp only [List.length_cons, List.length_nil] at this
  omega
theorem eff_i64 {l : List Int} (h : effB l = true) : i64R l := fun x hx => by
  have := ((ascP_iff atomP l).1 h).1 x hx
  unfold atomP at this
  simp only [Bool.and_eq_true, decide_eq_true_eq] at this
  omega
theorem at_len (a : Int) (h0 : 0 ≤ a) (h1 : a ≤ 9999) : (atS a).length ≤ 22 := by
  have := Lib.itoa_length_le a (by omega) (by omega)
  unfold atS; simp; omega
theorem kind_len {d : List UInt8} (h : (shapeB d).2.2 = true) : d.length ≤ 5 := by
  unfold shapeB at h
  split at h
  · rename_i q; rcases q with rfl | rfl | rfl <;> decide
  · split at h
    · rename_i q; rcases q with rfl | rfl <;> decide
    · split at h
      · rename_i q; rcases q with rfl | rfl <;> decide
      · split at h
        · rename_i q; rcases q with rfl | rfl <;> decide
        · cases h
theorem args_le {d : List UInt8} : (shapeB d).2.1 ≤ 2 := by
  unfold shapeB
  split
  · simp
  · split
    · simp
    · split
      · simp
      · split <;> simp
theorem fmt_len : ∀ (m : Nat) (t : RTr), SizeOf.sizeOf t ≤ m → wellR t = true → lenR t → (fmtT t).length ≤ sizeR t * 70368744177664
  | 0, .mk d n a e us, h, _, _ => by simp at h
  | m + 1, .mk d n a e us, h, hw, hl => by
    simp only [lenR] at hl
    simp only [wellR, Bool.and_eq_true, decide_eq_true_eq] at hw
    obtain ⟨w1, w2, w3, w4, w5, w6⟩ := hw
    have hul : us.length ≤ 2 := by rw [w2]; exact args_le
    have hps : ((fmtTs us).getD 0 []).length + ((fmtTs us).getD 1 []).length ≤ sizeRs us * 70368744177664 := by
      rcases us with _ | ⟨u, _ | ⟨v, _ | ⟨x, r⟩⟩⟩
      · simp [fmtTs]
      · simp only [wellRs, Bool.and_eq_true] at w6
        simp only [lenRs] at hl
        have := fmt_len m u (by simp at h; omega) w6.1 hl.2.2.2.1
        simp only [fmtTs, sizeRs]; simp; omega
      · simp only [wellRs, Bool.and_eq_true] at w6
        simp only [lenRs] at hl
        have h1 := fmt_len m u (by simp at h; omega) w6.1 hl.2.2.2.1
        have h2 := fmt_len m v (by simp at h; omega) w6.2.1 hl.2.2.2.2.1
        simp only [fmtTs, sizeRs, Nat.add_mul]; simp; omega
      · exfalso; simp only [List.length_cons] at hul; omega
    have hd := kind_len w1
    unfold annB at w5
    simp only [Bool.and_eq_true, decide_eq_true_eq] at w5
    have ha := at_len a w5.2.1.1 w5.2.1.2
    have hi := ints_len e hl.2.2.1 (eff_i64 w5.2.2.2)
    have hn := hl.1
    simp only [fmtT, sizeR, Nat.add_mul]
    have hk : kiText.length = 4 := rfl
    unfold fmtK
    split
    · omega
    · split
      · rw [List.length_append]; omega
      · split
        · rw [List.length_append]; omega
        · split
          · simp only [List.length_append, List.length_cons, List.length_nil]; omega
          · split
            · simp only [List.length_append, List.length_cons, List.length_nil]; omega
            · simp only [List.length_append, List.length_cons, List.length_nil]; omega

def FT (t : RTr) : Prop := ∀ σ : List Ent, wellR t = true → sizeR t ≤ 2000 → lenR t → ACalls E 46 [rtyV t] σ fun r τ => r = .str (fmtT t) ∧ τ = σ

set_option maxHeartbeats 4000000 in
theorem formatType_step (dd nn : List UInt8) (aa : Int) (ee : List Int) (us : List RTr) (ih : ∀ u ∈ us, FT u) : FT (.mk dd nn aa ee us) := by
  intro σ hw hsz hl
  refine xacalls T0 .drop [] Tryz.func46 rfl (by kernel_rfl) (by kernel_rfl) (by simp [Tryz.ntmps46]) ?_
  have tlen : (rtysV us).length = us.length := by rw [rtysV_map, List.length_map]
  (simp only [rtyV, tlen, (vm1), (vm2), (vm3), (vm4), aDet, ev, tget, tput, ofC, ofC1, pureR, condR, abin, aun, alen, gslot, Nat.reduceEqDiff, reduceIte, argTs, asliceS, asliceL, bnd, boolV, intV, retQ, aRes, aResV, oneAV, AV.low, AV.low.lows, Nat.reduceAdd, isStringD, isSliceD, isBoolD, setRange, AV.cells, AV.isCell, AV.isAgg, abytes, aconv, aeq, isConst, isByteD, isIfaceD, endQ, Int.reduceToNat, Int.reduceLE, Int.reduceLT, Int.reduceEq, Int.reduceNe, Int.reduceAdd, Int.reduceSub, Int.reduceNeg, Nat.reduceLT, Nat.reduceLeDiff, Ent.ver, Ent.imm, Ent.ty, lits, isEl, newCells, aappend, Nat.reduceBEq, fill, undef, (st1), (st2), (st3), (st4), (st5), (st6), (st7), (st8)]; try simp (disch := omega) only [wrapI64, Int.toNat_natCast, ← Int.natCast_add, nat_add_one, nat_add_two, take_drop_all, List.drop_zero, Nat.sub_zero, Nat.add_sub_cancel_left])
  obtain ⟨hl1, hl2, hl4, hl3⟩ := by simpa only [lenR] using hl
  have hwell : wellR (.mk dd nn aa ee us) = ((shapeB dd).2.2 && (decide (us.length = (shapeB dd).2.1) && ((decide (dd = kiData) == conB nn) && ((decide (dd = kiData) || decide (nn = [])) && (annB (shapeB dd).1 dd aa ee && wellRs us))))) := by simp only [wellR]
  rw [hwell] at hw
  simp only [Bool.and_eq_true, decide_eq_true_eq] at hw
  obtain ⟨w1, w2, w3, w4, w5, w6⟩ := hw
  have hs2 : sizeR (.mk dd nn aa ee us) = 1 + sizeRs us := by simp only [sizeR]
  have hul : us.length ≤ 2 := by
    rw [w2]; unfold shapeB
    split
    · simp
    · split
      · simp
      · split
        · simp
        · split <;> simp
  refine ⟨⟨by unfold maxRoom; omega, by unfold maxRoom; omega⟩, ?_⟩
  refine xloop (α := Nat × List Ent) T0 (fun x => [(1, .ref σ.length 0 0), (2, .str []), (3, .rsl (σ.length + 1) x.1 0 x.1 1), (8, .sl (rtysV us)), (9, i64 us.length), (10, i64 x.1)]) (fun _ => σ)
    (fun x => .arr 31 [.str dd, .str nn, i64 aa, .sl (ivs ee), .sl (rtysV us)] 0 0 :: .arr 9 ((fmtTs (us.take x.1)).map .str) x.1 0 :: x.2) (fun x => x.1 ≤ us.length) (fun x => us.length - x.1) (by kernel_rfl)
    ⟨(0, []), by simp, by (simp only [(vm1), (vm2), (vm3), (vm4), aDet, ev, tget, tput, ofC, ofC1, pureR, condR, abin, aun, alen, gslot, Nat.reduceEqDiff, reduceIte, argTs, asliceS, asliceL, bnd, boolV, intV, retQ, aRes, aResV, oneAV, AV.low, AV.low.lows, Nat.reduceAdd, isStringD, isSliceD, isBoolD, setRange, AV.cells, AV.isCell, AV.isAgg, abytes, aconv, aeq, isConst, isByteD, isIfaceD, endQ, Int.reduceToNat, Int.reduceLE, Int.reduceLT, Int.reduceEq, Int.reduceNe, Int.reduceAdd, Int.reduceSub, Int.reduceNeg, Nat.reduceLT, Nat.reduceLeDiff, Ent.ver, Ent.imm, Ent.ty, lits, isEl, newCells, aappend, Nat.reduceBEq, fill, undef, (st1), (st2), (st3), (st4), (st5), (st6), (st7), (st8), Int.natCast_zero]; try simp (disch := omega) only [wrapI64, Int.toNat_natCast, ← Int.natCast_add, nat_add_one, nat_add_two, take_drop_all, List.drop_zero, Nat.sub_zero, Nat.add_sub_cancel_left]), rfl, by simp only [List.take_zero, fmtTs, List.map_nil]; rfl⟩ ?_
  rintro ⟨i, junk⟩ hi
  simp only at hi
  by_cases h : (i : Int) < us.length
  · have hi' : i < us.length := by omega
    have hu : us[i]? = some us[i] := List.getElem?_eq_getElem hi'
    obtain ⟨s1, s2⟩ := good_splitR us i _ hu
    have hmem : us[i] ∈ us := List.getElem_mem hi'
    generalize us[i] = u at *
    have hge : (rtysV us).getD i .un = rtyV u := by rw [rtysV_map]; simp [List.getD, hu]
    have hwu : wellR u = true := by
      rw [s2, wellRs_app] at w6
      simp only [wellRs, Bool.and_eq_true] at w6
      exact w6.2.1
    have hsu : sizeR u ≤ 2000 := by
      have hss : sizeRs us = sizeRs (us.take i) + (sizeR u + sizeRs (us.drop (i + 1))) := by
        conv => lhs; rw [s2]
        rw [sizeRs_app]; simp only [sizeRs]
      omega
    have hft := fun σ' => ih u hmem σ' hwu hsu (lenRs_mem hl3 hmem)
    cases u with
    | mk d2 n2 a2 e2 us2 =>
    simp only [rtyV] at hge hft
    (simp only [h, hge, tlen, (vm1), (vm2), (vm3), (vm4), aDet, ev, tget, tput, ofC, ofC1, pureR, condR, abin, aun, alen, gslot, Nat.reduceEqDiff, reduceIte, argTs, asliceS, asliceL, bnd, boolV, intV, retQ, aRes, aResV, oneAV, AV.low, AV.low.lows, Nat.reduceAdd, isStringD, isSliceD, isBoolD, setRange, AV.cells, AV.isCell, AV.isAgg, abytes, aconv, aeq, isConst, isByteD, isIfaceD, endQ, Int.reduceToNat, Int.reduceLE, Int.reduceLT, Int.reduceEq, Int.reduceNe, Int.reduceAdd, Int.reduceSub, Int.reduceNeg, Nat.reduceLT, Nat.reduceLeDiff, Ent.ver, Ent.imm, Ent.ty, lits, isEl, newCells, aappend, Nat.reduceBEq, fill, undef, (st1), (st2), (st3), (st4), (st5), (st6), (st7), (st8)]; try simp (disch := omega) only [wrapI64, Int.toNat_natCast, ← Int.natCast_add, nat_add_one, nat_add_two, take_drop_all, List.drop_zero, Nat.sub_zero, Nat.add_sub_cancel_left])
    refine xWait.go (hft _) ?_
    have hfl : (fmtTs (us.take i)).length = i := by rw [fmtTs_map, List.length_map, List.length_take]; omega
    (simp only [List.length_map, hfl, (vm1), (vm2), (vm3), (vm4), aDet, ev, tget, tput, ofC, ofC1, pureR, condR, abin, aun, alen, gslot, Nat.reduceEqDiff, reduceIte, argTs, asliceS, asliceL, bnd, boolV, intV, retQ, aRes, aResV, oneAV, AV.low, AV.low.lows, Nat.reduceAdd, isStringD, isSliceD, isBoolD, setRange, AV.cells, AV.isCell, AV.isAgg, abytes, aconv, aeq, isConst, isByteD, isIfaceD, endQ, Int.reduceToNat, Int.reduceLE, Int.reduceLT, Int.reduceEq, Int.reduceNe, Int.reduceAdd, Int.reduceSub, Int.reduceNeg, Nat.reduceLT, Nat.reduceLeDiff, Ent.ver, Ent.imm, Ent.ty, lits, isEl, newCells, aappend, Nat.reduceBEq, fill, undef, (st1), (st2), (st3), (st4), (st5), (st6), (st7), (st8)]; try simp (disch := omega) only [wrapI64, Int.toNat_natCast, ← Int.natCast_add, nat_add_one, nat_add_two, take_drop_all, List.drop_zero, Nat.sub_zero, Nat.add_sub_cancel_left])
    refine ⟨⟨by omega, by unfold maxRoom; omega, by unfold maxRoom; omega⟩, (i + 1, junk ++ [.arr 31 [.str d2, .str n2, i64 a2, .sl (ivs e2), .sl (rtysV us2)] 0 0]), by simp only; omega, by simp only; omega, ⟨rfl, rfl⟩, ?_⟩
    rw [s1]
    simp only [fmtTs_map, List.map_append, List.map_cons, List.map_nil]
  · have hie : i = us.length := by omega
    subst hie
    simp only [List.take_length]
    have ha : 0 ≤ aa ∧ aa ≤ 9999 := by
      unfold annB at w5
      simp only [Bool.and_eq_true, decide_eq_true_eq] at w5
      exact w5.2.1
    have hres : fmtT (.mk dd nn aa ee us) = fmtK dd nn aa ee (fmtTs us) := by simp only [fmtT]
    rw [hres]
    generalize hps : fmtTs us = ps at *
    have hpl : ps.length = us.length := by rw [← hps, fmtTs_map, List.length_map]
    have hal := at_len aa ha.1 ha.2
    have hdl := kind_len w1
    have hbl : (ps.getD 0 []).length + (ps.getD 1 []).length ≤ 140737488355328000 := by
      rw [← hps]
      have hsl : sizeRs us ≤ 2000 := by omega
      clear hres hps
      rcases us with _ | ⟨u, _ | ⟨v, _ | ⟨x, r⟩⟩⟩
      · simp [fmtTs]
      · simp only [wellRs, Bool.and_eq_true] at w6
        simp only [lenRs] at hl3
        simp only [sizeRs] at hsl
        have := fmt_len _ u (Nat.le_refl _) w6.1 hl3.1
        simp only [fmtTs]; simp; omega
      · simp only [wellRs, Bool.and_eq_true] at w6
        simp only [lenRs] at hl3
        simp only [sizeRs] at hsl
        have h1 := fmt_len _ u (Nat.le_refl _) w6.1 hl3.1
        have h2 := fmt_len _ v (Nat.le_refl _) w6.2.1 hl3.2.1
        simp only [fmtTs]; simp; omega
      · exfalso; simp only [List.length_cons] at hul; omega
    have het := ints_len ee hl4 (eff_i64 (by unfold annB at w5; simp only [Bool.and_eq_true] at w5; exact w5.2.2.2))
    by_cases h1 : dd = kiInt
    · have t1 : (dd = [105, 110, 116]) = True := eq_true h1
      (simp only [h, t1, (vm1), (vm2), (vm3), (vm4), aDet, ev, tget, tput, ofC, ofC1, pureR, condR, abin, aun, alen, gslot, Nat.reduceEqDiff, reduceIte, argTs, asliceS, asliceL, bnd, boolV, intV, retQ, aRes, aResV, oneAV, AV.low, AV.low.lows, Nat.reduceAdd, isStringD, isSliceD, isBoolD, setRange, AV.cells, AV.isCell, AV.isAgg, abytes, aconv, aeq, isConst, isByteD, isIfaceD, endQ, Int.reduceToNat, Int.reduceLE, Int.reduceLT, Int.reduceEq, Int.reduceNe, Int.reduceAdd, Int.reduceSub, Int.reduceNeg, Nat.reduceLT, Nat.reduceLeDiff, Ent.ver, Ent.imm, Ent.ty, lits, isEl, newCells, aappend, Nat.reduceBEq, fill, undef, (st1), (st2), (st3), (st4), (st5), (st6), (st7), (st8)]; try simp (disch := omega) only [wrapI64, Int.toNat_natCast, ← Int.natCast_add, nat_add_one, nat_add_two, take_drop_all, List.drop_zero, Nat.sub_zero, Nat.add_sub_cancel_left])
      rw [fmtK, if_pos (.inl h1)]
    have n1 : ¬ dd = [105, 110, 116] := h1
    by_cases h2 : dd = kiBool
    · have t2 : (dd = [98, 111, 111, 108]) = True := eq_true h2
      (simp only [h, n1, t2, (vm1), (vm2), (vm3), (vm4), aDet, ev, tget, tput, ofC, ofC1, pureR, condR, abin, aun, alen, gslot, Nat.reduceEqDiff, reduceIte, argTs, asliceS, asliceL, bnd, boolV, intV, retQ, aRes, aResV, oneAV, AV.low, AV.low.lows, Nat.reduceAdd, isStringD, isSliceD, isBoolD, setRange, AV.cells, AV.isCell, AV.isAgg, abytes, aconv, aeq, isConst, isByteD, isIfaceD, endQ, Int.reduceToNat, Int.reduceLE, Int.reduceLT, Int.reduceEq, Int.reduceNe, Int.reduceAdd, Int.reduceSub, Int.reduceNeg, Nat.reduceLT, Nat.reduceLeDiff, Ent.ver, Ent.imm, Ent.ty, lits, isEl, newCells, aappend, Nat.reduceBEq, fill, undef, (st1), (st2), (st3), (st4), (st5), (st6), (st7), (st8)]; try simp (disch := omega) only [wrapI64, Int.toNat_natCast, ← Int.natCast_add, nat_add_one, nat_add_two, take_drop_all, List.drop_zero, Nat.sub_zero, Nat.add_sub_cancel_left])
      rw [fmtK, if_pos (.inr (.inl h2))]
    have n2 : ¬ dd = [98, 111, 111, 108] := h2
    by_cases h3 : dd = kiUnit
    · have t3 : (dd = [117, 110, 105, 116]) = True := eq_true h3
      (simp only [h, n1, n2, t3, (vm1), (vm2), (vm3), (vm4), aDet, ev, tget, tput, ofC, ofC1, pureR, condR, abin, aun, alen, gslot, Nat.reduceEqDiff, reduceIte, argTs, asliceS, asliceL, bnd, boolV, intV, retQ, aRes, aResV, oneAV, AV.low, AV.low.lows, Nat.reduceAdd, isStringD, isSliceD, isBoolD, setRange, AV.cells, AV.isCell, AV.isAgg, abytes, aconv, aeq, isConst, isByteD, isIfaceD, endQ, Int.reduceToNat, Int.reduceLE, Int.reduceLT, Int.reduceEq, Int.reduceNe, Int.reduceAdd, Int.reduceSub, Int.reduceNeg, Nat.reduceLT, Nat.reduceLeDiff, Ent.ver, Ent.imm, Ent.ty, lits, isEl, newCells, aappend, Nat.reduceBEq, fill, undef, (st1), (st2), (st3), (st4), (st5), (st6), (st7), (st8)]; try simp (disch := omega) only [wrapI64, Int.toNat_natCast, ← Int.natCast_add, nat_add_one, nat_add_two, take_drop_all, List.drop_zero, Nat.sub_zero, Nat.add_sub_cancel_left])
      rw [fmtK, if_pos (.inr (.inr h3))]
    have n3 : ¬ dd = [117, 110, 105, 116] := h3
    have hno : ¬ (dd = kiInt ∨ dd = kiBool ∨ dd = kiUnit) := by rintro (q | q | q); exact h1 q; exact h2 q; exact h3 q
    by_cases h4 : dd = kiText
    · have t4 : (dd = [116, 101, 120, 116]) = True := eq_true h4
      (simp only [h, n1, n2, n3, t4, (vm1), (vm2), (vm3), (vm4), aDet, ev, tget, tput, ofC, ofC1, pureR, condR, abin, aun, alen, gslot, Nat.reduceEqDiff, reduceIte, argTs, asliceS, asliceL, bnd, boolV, intV, retQ, aRes, aResV, oneAV, AV.low, AV.low.lows, Nat.reduceAdd, isStringD, isSliceD, isBoolD, setRange, AV.cells, AV.isCell, AV.isAgg, abytes, aconv, aeq, isConst, isByteD, isIfaceD, endQ, Int.reduceToNat, Int.reduceLE, Int.reduceLT, Int.reduceEq, Int.reduceNe, Int.reduceAdd, Int.reduceSub, Int.reduceNeg, Nat.reduceLT, Nat.reduceLeDiff, Ent.ver, Ent.imm, Ent.ty, lits, isEl, newCells, aappend, Nat.reduceBEq, fill, undef, (st1), (st2), (st3), (st4), (st5), (st6), (st7), (st8)]; try simp (disch := omega) only [wrapI64, Int.toNat_natCast, ← Int.natCast_add, nat_add_one, nat_add_two, take_drop_all, List.drop_zero, Nat.sub_zero, Nat.add_sub_cancel_left])
      refine xWait.go (at_ok aa ha.1 ha.2 _) ?_
      (simp only [(vm1), (vm2), (vm3), (vm4), aDet, ev, tget, tput, ofC, ofC1, pureR, condR, abin, aun, alen, gslot, Nat.reduceEqDiff, reduceIte, argTs, asliceS, asliceL, bnd, boolV, intV, retQ, aRes, aResV, oneAV, AV.low, AV.low.lows, Nat.reduceAdd, isStringD, isSliceD, isBoolD, setRange, AV.cells, AV.isCell, AV.isAgg, abytes, aconv, aeq, isConst, isByteD, isIfaceD, endQ, Int.reduceToNat, Int.reduceLE, Int.reduceLT, Int.reduceEq, Int.reduceNe, Int.reduceAdd, Int.reduceSub, Int.reduceNeg, Nat.reduceLT, Nat.reduceLeDiff, Ent.ver, Ent.imm, Ent.ty, lits, isEl, newCells, aappend, Nat.reduceBEq, fill, undef, (st1), (st2), (st3), (st4), (st5), (st6), (st7), (st8)]; try simp (disch := omega) only [wrapI64, Int.toNat_natCast, ← Int.natCast_add, nat_add_one, nat_add_two, take_drop_all, List.drop_zero, Nat.sub_zero, Nat.add_sub_cancel_left])
      exact ⟨by omega, by unfold fmtK; rw [if_neg hno, if_pos h4]; rfl⟩
    have n4 : ¬ dd = [116, 101, 120, 116] := h4
    by_cases h5 : dd = kiData
    · have t5 : (dd = [100, 97, 116, 97]) = True := eq_true h5
      (simp only [h, n1, n2, n3, n4, t5, (vm1), (vm2), (vm3), (vm4), aDet, ev, tget, tput, ofC, ofC1, pureR, condR, abin, aun, alen, gslot, Nat.reduceEqDiff, reduceIte, argTs, asliceS, asliceL, bnd, boolV, intV, retQ, aRes, aResV, oneAV, AV.low, AV.low.lows, Nat.reduceAdd, isStringD, isSliceD, isBoolD, setRange, AV.cells, AV.isCell, AV.isAgg, abytes, aconv, aeq, isConst, isByteD, isIfaceD, endQ, Int.reduceToNat, Int.reduceLE, Int.reduceLT, Int.reduceEq, Int.reduceNe, Int.reduceAdd, Int.reduceSub, Int.reduceNeg, Nat.reduceLT, Nat.reduceLeDiff, Ent.ver, Ent.imm, Ent.ty, lits, isEl, newCells, aappend, Nat.reduceBEq, fill, undef, (st1), (st2), (st3), (st4), (st5), (st6), (st7), (st8)]; try simp (disch := omega) only [wrapI64, Int.toNat_natCast, ← Int.natCast_add, nat_add_one, nat_add_two, take_drop_all, List.drop_zero, Nat.sub_zero, Nat.add_sub_cancel_left])
      refine ydraw T0 [] (by kernel_rfl) (by kernel_rfl) (by kernel_rfl) (by kernel_rfl) ?_
      (simp only [(vm1), (vm2), (vm3), (vm4), aDet, ev, tget, tput, ofC, ofC1, pureR, condR, abin, aun, alen, gslot, Nat.reduceEqDiff, reduceIte, argTs, asliceS, asliceL, bnd, boolV, intV, retQ, aRes, aResV, oneAV, AV.low, AV.low.lows, Nat.reduceAdd, isStringD, isSliceD, isBoolD, setRange, AV.cells, AV.isCell, AV.isAgg, abytes, aconv, aeq, isConst, isByteD, isIfaceD, endQ, Int.reduceToNat, Int.reduceLE, Int.reduceLT, Int.reduceEq, Int.reduceNe, Int.reduceAdd, Int.reduceSub, Int.reduceNeg, Nat.reduceLT, Nat.reduceLeDiff, Ent.ver, Ent.imm, Ent.ty, lits, isEl, newCells, aappend, Nat.reduceBEq, fill, undef, (st1), (st2), (st3), (st4), (st5), (st6), (st7), (st8)]; try simp (disch := omega) only [wrapI64, Int.toNat_natCast, ← Int.natCast_add, nat_add_one, nat_add_two, take_drop_all, List.drop_zero, Nat.sub_zero, Nat.add_sub_cancel_left])
      refine yNext.go (by rfl) _ rfl (at_ok aa ha.1 ha.2 _) ?_
      (simp only [(vm1), (vm2), (vm3), (vm4), aDet, ev, tget, tput, ofC, ofC1, pureR, condR, abin, aun, alen, gslot, Nat.reduceEqDiff, reduceIte, argTs, asliceS, asliceL, bnd, boolV, intV, retQ, aRes, aResV, oneAV, AV.low, AV.low.lows, Nat.reduceAdd, isStringD, isSliceD, isBoolD, setRange, AV.cells, AV.isCell, AV.isAgg, abytes, aconv, aeq, isConst, isByteD, isIfaceD, endQ, Int.reduceToNat, Int.reduceLE, Int.reduceLT, Int.reduceEq, Int.reduceNe, Int.reduceAdd, Int.reduceSub, Int.reduceNeg, Nat.reduceLT, Nat.reduceLeDiff, Ent.ver, Ent.imm, Ent.ty, lits, isEl, newCells, aappend, Nat.reduceBEq, fill, undef, (st1), (st2), (st3), (st4), (st5), (st6), (st7), (st8)]; try simp (disch := omega) only [wrapI64, Int.toNat_natCast, ← Int.natCast_add, nat_add_one, nat_add_two, take_drop_all, List.drop_zero, Nat.sub_zero, Nat.add_sub_cancel_left])
      exact ⟨by omega, by unfold fmtK; rw [if_neg hno, if_neg h4, if_pos h5]⟩
    have n5 : ¬ dd = [100, 97, 116, 97] := h5
    by_cases h6 : dd = kiPair
    · have t6 : (dd = [112, 97, 105, 114]) = True := eq_true h6
      (simp only [h, n1, n2, n3, n4, n5, t6, (vm1), (vm2), (vm3), (vm4), aDet, ev, tget, tput, ofC, ofC1, pureR, condR, abin, aun, alen, gslot, Nat.reduceEqDiff, reduceIte, argTs, asliceS, asliceL, bnd, boolV, intV, retQ, aRes, aResV, oneAV, AV.low, AV.low.lows, Nat.reduceAdd, isStringD, isSliceD, isBoolD, setRange, AV.cells, AV.isCell, AV.isAgg, abytes, aconv, aeq, isConst, isByteD, isIfaceD, endQ, Int.reduceToNat, Int.reduceLE, Int.reduceLT, Int.reduceEq, Int.reduceNe, Int.reduceAdd, Int.reduceSub, Int.reduceNeg, Nat.reduceLT, Nat.reduceLeDiff, Ent.ver, Ent.imm, Ent.ty, lits, isEl, newCells, aappend, Nat.reduceBEq, fill, undef, (st1), (st2), (st3), (st4), (st5), (st6), (st7), (st8)]; try simp (disch := omega) only [wrapI64, Int.toNat_natCast, ← Int.natCast_add, nat_add_one, nat_add_two, take_drop_all, List.drop_zero, Nat.sub_zero, Nat.add_sub_cancel_left])
      have h2l : ps.length = 2 := by rw [hpl, w2, h6]; rfl
      rcases ps with _ | ⟨p0, _ | ⟨p1, _ | ⟨p2, pr⟩⟩⟩
      · simp at h2l
      · simp at h2l
      rotate_left
      · simp at h2l
      have hul2 : us.length = 2 := by rw [← hpl]; exact h2l
      simp only [List.getD_cons_zero, List.getD_cons_succ] at hbl
      refine ydraw T0 [] (by kernel_rfl) (by kernel_rfl) (by kernel_rfl) (by kernel_rfl) ?_
      (simp only [hul2, List.map_cons, List.map_nil, Nat.mul_one, (vm1), (vm2), (vm3), (vm4), aDet, ev, tget, tput, ofC, ofC1, pureR, condR, abin, aun, alen, gslot, Nat.reduceEqDiff, reduceIte, argTs, asliceS, asliceL, bnd, boolV, intV, retQ, aRes, aResV, oneAV, AV.low, AV.low.lows, Nat.reduceAdd, isStringD, isSliceD, isBoolD, setRange, AV.cells, AV.isCell, AV.isAgg, abytes, aconv, aeq, isConst, isByteD, isIfaceD, endQ, Int.reduceToNat, Int.reduceLE, Int.reduceLT, Int.reduceEq, Int.reduceNe, Int.reduceAdd, Int.reduceSub, Int.reduceNeg, Nat.reduceLT, Nat.reduceLeDiff, Ent.ver, Ent.imm, Ent.ty, lits, isEl, newCells, aappend, Nat.reduceBEq, fill, undef, (st1), (st2), (st3), (st4), (st5), (st6), (st7), (st8)]; try simp (disch := omega) only [wrapI64, Int.toNat_natCast, ← Int.natCast_add, nat_add_one, nat_add_two, take_drop_all, List.drop_zero, Nat.sub_zero, Nat.add_sub_cancel_left])
      refine ⟨by omega, by omega, by omega, by omega, ?_⟩
      refine yNext.go (by rfl) _ rfl (at_ok aa ha.1 ha.2 _) ?_
      (simp only [(vm1), (vm2), (vm3), (vm4), aDet, ev, tget, tput, ofC, ofC1, pureR, condR, abin, aun, alen, gslot, Nat.reduceEqDiff, reduceIte, argTs, asliceS, asliceL, bnd, boolV, intV, retQ, aRes, aResV, oneAV, AV.low, AV.low.lows, Nat.reduceAdd, isStringD, isSliceD, isBoolD, setRange, AV.cells, AV.isCell, AV.isAgg, abytes, aconv, aeq, isConst, isByteD, isIfaceD, endQ, Int.reduceToNat, Int.reduceLE, Int.reduceLT, Int.reduceEq, Int.reduceNe, Int.reduceAdd, Int.reduceSub, Int.reduceNeg, Nat.reduceLT, Nat.reduceLeDiff, Ent.ver, Ent.imm, Ent.ty, lits, isEl, newCells, aappend, Nat.reduceBEq, fill, undef, (st1), (st2), (st3), (st4), (st5), (st6), (st7), (st8)]; try simp (disch := omega) only [wrapI64, Int.toNat_natCast, ← Int.natCast_add, nat_add_one, nat_add_two, take_drop_all, List.drop_zero, Nat.sub_zero, Nat.add_sub_cancel_left])
      refine ⟨by omega, ?_⟩
      unfold fmtK; rw [if_neg hno, if_neg h4, if_neg h5, if_pos h6]; simp
    have n6 : ¬ dd = [112, 97, 105, 114] := h6
    by_cases h7 : dd = kiFn
    · have t7 : (dd = [102, 110]) = True := eq_true h7
      (simp only [h, n1, n2, n3, n4, n5, n6, t7, (vm1), (vm2), (vm3), (vm4), aDet, ev, tget, tput, ofC, ofC1, pureR, condR, abin, aun, alen, gslot, Nat.reduceEqDiff, reduceIte, argTs, asliceS, asliceL, bnd, boolV, intV, retQ, aRes, aResV, oneAV, AV.low, AV.low.lows, Nat.reduceAdd, isStringD, isSliceD, isBoolD, setRange, AV.cells, AV.isCell, AV.isAgg, abytes, aconv, aeq, isConst, isByteD, isIfaceD, endQ, Int.reduceToNat, Int.reduceLE, Int.reduceLT, Int.reduceEq, Int.reduceNe, Int.reduceAdd, Int.reduceSub, Int.reduceNeg, Nat.reduceLT, Nat.reduceLeDiff, Ent.ver, Ent.imm, Ent.ty, lits, isEl, newCells, aappend, Nat.reduceBEq, fill, undef, (st1), (st2), (st3), (st4), (st5), (st6), (st7), (st8)]; try simp (disch := omega) only [wrapI64, Int.toNat_natCast, ← Int.natCast_add, nat_add_one, nat_add_two, take_drop_all, List.drop_zero, Nat.sub_zero, Nat.add_sub_cancel_left])
      have h2l : ps.length = 2 := by rw [hpl, w2, h7]; rfl
      rcases ps with _ | ⟨p0, _ | ⟨p1, _ | ⟨p2, pr⟩⟩⟩
      · simp at h2l
      · simp at h2l
      rotate_left
      · simp at h2l
      have hul2 : us.length = 2 := by rw [← hpl]; exact h2l
      simp only [List.getD_cons_zero, List.getD_cons_succ] at hbl
      refine ydraw T0 [] (by kernel_rfl) (by kernel_rfl) (by kernel_rfl) (by kernel_rfl) ?_
      (simp only [hul2, List.map_cons, List.map_nil, Nat.mul_one, (vm1), (vm2), (vm3), (vm4), aDet, ev, tget, tput, ofC, ofC1, pureR, condR, abin, aun, alen, gslot, Nat.reduceEqDiff, reduceIte, argTs, asliceS, asliceL, bnd, boolV, intV, retQ, aRes, aResV, oneAV, AV.low, AV.low.lows, Nat.reduceAdd, isStringD, isSliceD, isBoolD, setRange, AV.cells, AV.isCell, AV.isAgg, abytes, aconv, aeq, isConst, isByteD, isIfaceD, endQ, Int.reduceToNat, Int.reduceLE, Int.reduceLT, Int.reduceEq, Int.reduceNe, Int.reduceAdd, Int.reduceSub, Int.reduceNeg, Nat.reduceLT, Nat.reduceLeDiff, Ent.ver, Ent.imm, Ent.ty, lits, isEl, newCells, aappend, Nat.reduceBEq, fill, undef, (st1), (st2), (st3), (st4), (st5), (st6), (st7), (st8)]; try simp (disch := omega) only [wrapI64, Int.toNat_natCast, ← Int.natCast_add, nat_add_one, nat_add_two, take_drop_all, List.drop_zero, Nat.sub_zero, Nat.add_sub_cancel_left])
      refine ⟨by omega, by omega, by omega, by omega, ?_⟩
      refine yNext.go (by rfl) _ rfl (at_ok aa ha.1 ha.2 _) ?_
      (simp only [(vm1), (vm2), (vm3), (vm4), aDet, ev, tget, tput, ofC, ofC1, pureR, condR, abin, aun, alen, gslot, Nat.reduceEqDiff, reduceIte, argTs, asliceS, asliceL, bnd, boolV, intV, retQ, aRes, aResV, oneAV, AV.low, AV.low.lows, Nat.reduceAdd, isStringD, isSliceD, isBoolD, setRange, AV.cells, AV.isCell, AV.isAgg, abytes, aconv, aeq, isConst, isByteD, isIfaceD, endQ, Int.reduceToNat, Int.reduceLE, Int.reduceLT, Int.reduceEq, Int.reduceNe, Int.reduceAdd, Int.reduceSub, Int.reduceNeg, Nat.reduceLT, Nat.reduceLeDiff, Ent.ver, Ent.imm, Ent.ty, lits, isEl, newCells, aappend, Nat.reduceBEq, fill, undef, (st1), (st2), (st3), (st4), (st5), (st6), (st7), (st8)]; try simp (disch := omega) only [wrapI64, Int.toNat_natCast, ← Int.natCast_add, nat_add_one, nat_add_two, take_drop_all, List.drop_zero, Nat.sub_zero, Nat.add_sub_cancel_left])
      refine ⟨by omega, by omega, ?_⟩
      refine yNext.go (by rfl) _ rfl (ints_ok ee hl4 (eff_i64 (by unfold annB at w5; simp only [Bool.and_eq_true] at w5; exact w5.2.2.2)) _) ?_
      (simp only [(vm1), (vm2), (vm3), (vm4), aDet, ev, tget, tput, ofC, ofC1, pureR, condR, abin, aun, alen, gslot, Nat.reduceEqDiff, reduceIte, argTs, asliceS, asliceL, bnd, boolV, intV, retQ, aRes, aResV, oneAV, AV.low, AV.low.lows, Nat.reduceAdd, isStringD, isSliceD, isBoolD, setRange, AV.cells, AV.isCell, AV.isAgg, abytes, aconv, aeq, isConst, isByteD, isIfaceD, endQ, Int.reduceToNat, Int.reduceLE, Int.reduceLT, Int.reduceEq, Int.reduceNe, Int.reduceAdd, Int.reduceSub, Int.reduceNeg, Nat.reduceLT, Nat.reduceLeDiff, Ent.ver, Ent.imm, Ent.ty, lits, isEl, newCells, aappend, Nat.reduceBEq, fill, undef, (st1), (st2), (st3), (st4), (st5), (st6), (st7), (st8)]; try simp (disch := omega) only [wrapI64, Int.toNat_natCast, ← Int.natCast_add, nat_add_one, nat_add_two, take_drop_all, List.drop_zero, Nat.sub_zero, Nat.add_sub_cancel_left])
      refine ⟨by omega, by omega, ?_⟩
      unfold fmtK; rw [if_neg hno, if_neg h4, if_neg h5, if_neg h6, if_pos h7]; simp
    have n7 : ¬ dd = [102, 110] := h7
    have h1l : ps.length = 1 := by
      rw [hpl, w2]
      unfold shapeB at w1 ⊢
      rw [if_neg hno, if_neg (by rintro (q | q); exact h4 q; exact h5 q)] at w1 ⊢
      by_cases q : dd = kiList ∨ dd = kiArray
      · rw [if_pos q]
      · rw [if_neg q, if_neg (by rintro (q | q); exact h6 q; exact h7 q)] at w1
        cases w1
    rcases ps with _ | ⟨p0, _ | ⟨p1, pr⟩⟩
    · simp at h1l
    rotate_left
    · simp at h1l
    have hul1 : us.length = 1 := by rw [← hpl]; exact h1l
    simp only [List.getD_cons_zero] at hbl
    (simp only [h, n1, n2, n3, n4, n5, n6, n7, (vm1), (vm2), (vm3), (vm4), aDet, ev, tget, tput, ofC, ofC1, pureR, condR, abin, aun, alen, gslot, Nat.reduceEqDiff, reduceIte, argTs, asliceS, asliceL, bnd, boolV, intV, retQ, aRes, aResV, oneAV, AV.low, AV.low.lows, Nat.reduceAdd, isStringD, isSliceD, isBoolD, setRange, AV.cells, AV.isCell, AV.isAgg, abytes, aconv, aeq, isConst, isByteD, isIfaceD, endQ, Int.reduceToNat, Int.reduceLE, Int.reduceLT, Int.reduceEq, Int.reduceNe, Int.reduceAdd, Int.reduceSub, Int.reduceNeg, Nat.reduceLT, Nat.reduceLeDiff, Ent.ver, Ent.imm, Ent.ty, lits, isEl, newCells, aappend, Nat.reduceBEq, fill, undef, (st1), (st2), (st3), (st4), (st5), (st6), (st7), (st8)]; try simp (disch := omega) only [wrapI64, Int.toNat_natCast, ← Int.natCast_add, nat_add_one, nat_add_two, take_drop_all, List.drop_zero, Nat.sub_zero, Nat.add_sub_cancel_left])
    refine ydraw T0 [] (by kernel_rfl) (by kernel_rfl) (by kernel_rfl) (by kernel_rfl) ?_
    (simp only [hul1, List.map_cons, List.map_nil, Nat.mul_one, (vm1), (vm2), (vm3), (vm4), aDet, ev, tget, tput, ofC, ofC1, pureR, condR, abin, aun, alen, gslot, Nat.reduceEqDiff, reduceIte, argTs, asliceS, asliceL, bnd, boolV, intV, retQ, aRes, aResV, oneAV, AV.low, AV.low.lows, Nat.reduceAdd, isStringD, isSliceD, isBoolD, setRange, AV.cells, AV.isCell, AV.isAgg, abytes, aconv, aeq, isConst, isByteD, isIfaceD, endQ, Int.reduceToNat, Int.reduceLE, Int.reduceLT, Int.reduceEq, Int.reduceNe, Int.reduceAdd, Int.reduceSub, Int.reduceNeg, Nat.reduceLT, Nat.reduceLeDiff, Ent.ver, Ent.imm, Ent.ty, lits, isEl, newCells, aappend, Nat.reduceBEq, fill, undef, (st1), (st2), (st3), (st4), (st5), (st6), (st7), (st8)]; try simp (disch := omega) only [wrapI64, Int.toNat_natCast, ← Int.natCast_add, nat_add_one, nat_add_two, take_drop_all, List.drop_zero, Nat.sub_zero, Nat.add_sub_cancel_left])
    refine ⟨by omega, by omega, by omega, by omega, ?_⟩
    refine yNext.go (by rfl) _ rfl (at_ok aa ha.1 ha.2 _) ?_
    (simp only [(vm1), (vm2), (vm3), (vm4), aDet, ev, tget, tput, ofC, ofC1, pureR, condR, abin, aun, alen, gslot, Nat.reduceEqDiff, reduceIte, argTs, asliceS, asliceL, bnd, boolV, intV, retQ, aRes, aResV, oneAV, AV.low, AV.low.lows, Nat.reduceAdd, isStringD, isSliceD, isBoolD, setRange, AV.cells, AV.isCell, AV.isAgg, abytes, aconv, aeq, isConst, isByteD, isIfaceD, endQ, Int.reduceToNat, Int.reduceLE, Int.reduceLT, Int.reduceEq, Int.reduceNe, Int.reduceAdd, Int.reduceSub, Int.reduceNeg, Nat.reduceLT, Nat.reduceLeDiff, Ent.ver, Ent.imm, Ent.ty, lits, isEl, newCells, aappend, Nat.reduceBEq, fill, undef, (st1), (st2), (st3), (st4), (st5), (st6), (st7), (st8)]; try simp (disch := omega) only [wrapI64, Int.toNat_natCast, ← Int.natCast_add, nat_add_one, nat_add_two, take_drop_all, List.drop_zero, Nat.sub_zero, Nat.add_sub_cancel_left])
    refine ⟨by omega, ?_⟩
    unfold fmtK; rw [if_neg hno, if_neg h4, if_neg h5, if_neg h6, if_neg h7]; simp

theorem formatType_ok : ∀ (m : Nat) (t : RTr), SizeOf.sizeOf t ≤ m → FT t
  | 0, .mk d n a e us, h => by simp at h
  | m + 1, .mk d n a e us, h => formatType_step d n a e us fun u hu => formatType_ok m u (by
      have := List.sizeOf_lt_of_mem hu
      simp at h; omega)

theorem FormatType_ok (t : RTr) (hl : lenR t) (σ : List Ent) : ACalls E 22 [rtyV t] σ fun r τ => r = (if validB' t = true then .tup [.str (fmtT t), i64 0] else .tup [.str [], i64 70]) ∧ τ = σ := by
  refine xacalls T0 .drop [] Tryz.func22 rfl (by kernel_rfl) (by kernel_rfl) (by simp [Tryz.ntmps22]) ?_
  have h := fun σ' => plValidType_ok t hl σ'
  have h2 := fun σ' => formatType_ok _ t (Nat.le_refl _) σ'
  have h3 := validB'_iff t
  cases t with
  | mk dd nn aa ee us =>
  simp only [rtyV] at h h2 ⊢
  (simp only [(vm1), (vm2), (vm3), (vm4), aDet, ev, tget, tput, ofC, ofC1, pureR, condR, abin, aun, alen, gslot, Nat.reduceEqDiff, reduceIte, argTs, asliceS, asliceL, bnd, boolV, intV, retQ, aRes, aResV, oneAV, AV.low, AV.low.lows, Nat.reduceAdd, isStringD, isSliceD, isBoolD, setRange, AV.cells, AV.isCell, AV.isAgg, abytes, aconv, aeq, isConst, isByteD, isIfaceD, endQ, Int.reduceToNat, Int.reduceLE, Int.reduceLT, Int.reduceEq, Int.reduceNe, Int.reduceAdd, Int.reduceSub, Int.reduceNeg, Nat.reduceLT, Nat.reduceLeDiff, Ent.ver, Ent.imm, Ent.ty, lits, isEl, newCells, aappend, Nat.reduceBEq, fill, undef, (st1), (st2), (st3), (st4), (st5), (st6), (st7), (st8)]; try simp (disch := omega) only [wrapI64, Int.toNat_natCast, ← Int.natCast_add, nat_add_one, nat_add_two, take_drop_all, List.drop_zero, Nat.sub_zero, Nat.add_sub_cancel_left])
  refine xWait.go (h _) ?_
  cases hv : validB' (.mk dd nn aa ee us)
  · (simp only [(vm1), (vm2), (vm3), (vm4), aDet, ev, tget, tput, ofC, ofC1, pureR, condR, abin, aun, alen, gslot, Nat.reduceEqDiff, reduceIte, argTs, asliceS, asliceL, bnd, boolV, intV, retQ, aRes, aResV, oneAV, AV.low, AV.low.lows, Nat.reduceAdd, isStringD, isSliceD, isBoolD, setRange, AV.cells, AV.isCell, AV.isAgg, abytes, aconv, aeq, isConst, isByteD, isIfaceD, endQ, Int.reduceToNat, Int.reduceLE, Int.reduceLT, Int.reduceEq, Int.reduceNe, Int.reduceAdd, Int.reduceSub, Int.reduceNeg, Nat.reduceLT, Nat.reduceLeDiff, Ent.ver, Ent.imm, Ent.ty, lits, isEl, newCells, aappend, Nat.reduceBEq, fill, undef, (st1), (st2), (st3), (st4), (st5), (st6), (st7), (st8)]; try simp (disch := omega) only [wrapI64, Int.toNat_natCast, ← Int.natCast_add, nat_add_one, nat_add_two, take_drop_all, List.drop_zero, Nat.sub_zero, Nat.add_sub_cancel_left])
  · obtain ⟨g1, g2, g3⟩ := h3.1 hv
    (simp only [(vm1), (vm2), (vm3), (vm4), aDet, ev, tget, tput, ofC, ofC1, pureR, condR, abin, aun, alen, gslot, Nat.reduceEqDiff, reduceIte, argTs, asliceS, asliceL, bnd, boolV, intV, retQ, aRes, aResV, oneAV, AV.low, AV.low.lows, Nat.reduceAdd, isStringD, isSliceD, isBoolD, setRange, AV.cells, AV.isCell, AV.isAgg, abytes, aconv, aeq, isConst, isByteD, isIfaceD, endQ, Int.reduceToNat, Int.reduceLE, Int.reduceLT, Int.reduceEq, Int.reduceNe, Int.reduceAdd, Int.reduceSub, Int.reduceNeg, Nat.reduceLT, Nat.reduceLeDiff, Ent.ver, Ent.imm, Ent.ty, lits, isEl, newCells, aappend, Nat.reduceBEq, fill, undef, (st1), (st2), (st3), (st4), (st5), (st6), (st7), (st8)]; try simp (disch := omega) only [wrapI64, Int.toNat_natCast, ← Int.natCast_add, nat_add_one, nat_add_two, take_drop_all, List.drop_zero, Nat.sub_zero, Nat.add_sub_cancel_left])
    refine xWait.go (h2 _ g1 (by omega) hl) ?_
    (simp only [(vm1), (vm2), (vm3), (vm4), aDet, ev, tget, tput, ofC, ofC1, pureR, condR, abin, aun, alen, gslot, Nat.reduceEqDiff, reduceIte, argTs, asliceS, asliceL, bnd, boolV, intV, retQ, aRes, aResV, oneAV, AV.low, AV.low.lows, Nat.reduceAdd, isStringD, isSliceD, isBoolD, setRange, AV.cells, AV.isCell, AV.isAgg, abytes, aconv, aeq, isConst, isByteD, isIfaceD, endQ, Int.reduceToNat, Int.reduceLE, Int.reduceLT, Int.reduceEq, Int.reduceNe, Int.reduceAdd, Int.reduceSub, Int.reduceNeg, Nat.reduceLT, Nat.reduceLeDiff, Ent.ver, Ent.imm, Ent.ty, lits, isEl, newCells, aappend, Nat.reduceBEq, fill, undef, (st1), (st2), (st3), (st4), (st5), (st6), (st7), (st8)]; try simp (disch := omega) only [wrapI64, Int.toNat_natCast, ← Int.natCast_add, nat_add_one, nat_add_two, take_drop_all, List.drop_zero, Nat.sub_zero, Nat.add_sub_cancel_left])
end Go.D

/- A type laid out with places. -/
set_option linter.unusedVariables false
set_option linter.unusedSimpArgs false
set_option maxRecDepth 100000
namespace Go.D
open Go Go.Vm Go.Proofs Go.RowKit

mutual
def laidT : Tr → Nat → RTr × Nat
  | .mk d n us, m => (.mk d n (if (shapeB d).1 = true then (m : Int) else 0) [] (laidTs us (if (shapeB d).1 = true then m + 1 else m)).1, (laidTs us (if (shapeB d).1 = true then m + 1 else m)).2)
def laidTs : List Tr → Nat → List RTr × Nat
  | [], m => ([], m)
  | t :: ts, m => ((laidT t m).1 :: (laidTs ts (laidT t m).2).1, (laidTs ts (laidT t m).2).2)
end
def LT (t : Tr) : Prop := ∀ (σ : List Ent) (id m : Nat), σ[id]? = some (.arr 3 [i64 m] 0 0) → m + sizeT t ≤ 1000000000 → us1 t →
  ACalls E 54 [tyV t, .fn 65 [] [.ref id 0 0]] σ fun r τ => r = rtyV (laidT t m).1 ∧ τ = σ.set id (.arr 3 [i64 (laidT t m).2] 0 0)
where us1 (t : Tr) : Prop := lenT t

theorem Spread1_ok (σ : List Ent) (id m : Nat) (hid : σ[id]? = some (.arr 3 [i64 m] 0 0)) (hm : m ≤ 1000000000) :
    ACalls E 65 [.ref id 0 0] σ fun r τ => r = i64 m ∧ τ = σ.set id (.arr 3 [i64 (m + 1 : Nat)] 0 0) := by
  have hlt := lt_of_get hid
  have gi : ∀ r, sget σ r id = some (.arr 3 [i64 m] 0 0) := fun r => by unfold sget; rw [if_pos hlt, hid]
  have gs : ∀ e r, sget (σ.set id e) r id = some e := fun e r => by unfold sget; rw [if_pos (by simpa using hlt), get_set_self hid]
  have sG0 : ∀ e, ssetG σ id e = σ.set id e := fun e => by unfold ssetG; rw [if_pos hlt]
  have sL0 : ∀ e l, ssetL σ l id e = l := fun e l => by unfold ssetL; rw [if_pos hlt]
  have w1 : IntKind.i64.wrap ((m : Int) + 1) = ((m + 1 : Nat) : Int) := by rw [wrapI64 (by omega) (by omega)]; omega
  have w2 : IntKind.i64.wrap (((m + 1 : Nat) : Int) - 1) = (m : Int) := by rw [wrapI64 (by omega) (by omega)]; omega
  refine xacalls T0 .stay [] Tryz.func65 rfl (by kernel_rfl) (by kernel_rfl) (by simp [Tryz.ntmps65]) ?_
  (simp only [gi, gs, sG0, sL0, w1, (vm1), (vm2), (vm3), (vm4), aDet, ev, tget, tput, ofC, ofC1, pureR, condR, abin, aun, alen, gslot, Nat.reduceEqDiff, reduceIte, argTs, asliceS, asliceL, bnd, boolV, intV, retQ, aRes, aResV, oneAV, AV.low, AV.low.lows, Nat.reduceAdd, isStringD, isSliceD, isBoolD, setRange, AV.cells, AV.isCell, AV.isAgg, abytes, aconv, aeq, isConst, isByteD, isIfaceD, endQ, Int.reduceToNat, Int.reduceLE, Int.reduceLT, Int.reduceEq, Int.reduceNe, Int.reduceAdd, Int.reduceSub, Int.reduceNeg, Nat.reduceLT, Nat.reduceLeDiff, Ent.ver, Ent.imm, Ent.ty, lits, isEl, newCells, aappend, Nat.reduceBEq, fill, undef, (st1), (st2), (st3), (st4), (st5), (st6), (st7), (st8)]; try simp (disch := omega) only [wrapI64, Int.toNat_natCast, ← Int.natCast_add, nat_add_one, nat_add_two, take_drop_all, List.drop_zero, Nat.sub_zero, Nat.add_sub_cancel_left])
  exact ⟨by rw [show ((m + 1 : Nat) : Int) - 1 = (m : Int) by omega], trivial⟩

def rtCells (t : RTr) : List AV := (rtyV t).cells
theorem laidTs_app : ∀ (a b : List Tr) (m : Nat), laidTs (a ++ b) m = ((laidTs a m).1 ++ (laidTs b (laidTs a m).2).1, (laidTs b (laidTs a m).2).2)
  | [], b, m => by simp only [List.nil_append, laidTs]
  | t :: a, b, m => by simp only [List.cons_append, laidTs, laidTs_app a b]
theorem rtCells_len (t : RTr) : (rtCells t).length = 5 := by cases t; rfl
theorem rtCells_flat (l : List RTr) : (l.flatMap rtCells).length = l.length * 5 := by
  induction l with
  | nil => rfl
  | cons a r ih => rw [List.flatMap_cons, List.length_append, ih, rtCells_len, List.length_cons]; omega
theorem laidTs_len : ∀ (l : List Tr) (m : Nat), (laidTs l m).1.length = l.length
  | [], m => rfl
  | t :: l, m => by simp only [laidTs, List.length_cons, laidTs_len l]
theorem sizeT_pos (t : Tr) : 1 ≤ sizeT t := by cases t; simp only [sizeT]; omega
theorem len_size : ∀ l : List Tr, l.length ≤ sizeTs l
  | [] => Nat.le_refl _
  | t :: l => by
    have := len_size l
    have := sizeT_pos t
    simp only [List.length_cons, sizeTs]; omega
mutual
theorem laidT_le : ∀ (t : Tr) (m : Nat), (laidT t m).2 ≤ m + sizeT t
  | .mk d n us, m => by
    simp only [laidT, sizeT]
    split
    · have := laidTs_le us (m + 1); omega
    · have := laidTs_le us m; omega
theorem laidTs_le : ∀ (l : List Tr) (m : Nat), (laidTs l m).2 ≤ m + sizeTs l
  | [], m => by simp only [laidTs, sizeTs]; omega
  | t :: l, m => by
    simp only [laidTs, sizeTs]
    have h1 := laidT_le t m
    have h2 := laidTs_le l (laidT t m).2
    omega
end
def rowR (n : Nat) (acc : List RTr) : AV := match acc with
  | [] => .v (.slice none 0 0)
  | _ :: r => .rsl n r.length 0 (r.length + 1) 5

set_option maxHeartbeats 4000000 in
/-- One part laid: the region that draws its order. -/
theorem laid_round {E1 : Env} (hE : E1 = E) {rows : List Nat} {ops : Array Oper} {rid : Nat} {k : Kont} (G G1 l : List Ent) (ts : Ts) (h : E1 = E) : True := trivial

set_option maxHeartbeats 4000000 in
theorem laid_step (dd nn : List UInt8) (us : List Tr) (ih : ∀ u ∈ us, LT u) : LT (.mk dd nn us) := by
  intro σ id m hid hm hl
  have hlt := lt_of_get hid
  refine xacalls T0 .freeze [] Tryz.func54 rfl (by kernel_rfl) (by kernel_rfl) (by simp [Tryz.ntmps54]) ?_
  (simp only [tyV, (vm1), (vm2), (vm3), (vm4), aDet, ev, tget, tput, ofC, ofC1, pureR, condR, abin, aun, alen, gslot, Nat.reduceEqDiff, reduceIte, argTs, asliceS, asliceL, bnd, boolV, intV, retQ, aRes, aResV, oneAV, AV.low, AV.low.lows, Nat.reduceAdd, isStringD, isSliceD, isBoolD, setRange, AV.cells, AV.isCell, AV.isAgg, abytes, aconv, aeq, isConst, isByteD, isIfaceD, endQ, Int.reduceToNat, Int.reduceLE, Int.reduceLT, Int.reduceEq, Int.reduceNe, Int.reduceAdd, Int.reduceSub, Int.reduceNeg, Nat.reduceLT, Nat.reduceLeDiff, Ent.ver, Ent.imm, Ent.ty, lits, isEl, newCells, aappend, Nat.reduceBEq, fill, undef, (st1), (st2), (st3), (st4), (st5), (st6), (st7), (st8)]; try simp (disch := omega) only [wrapI64, Int.toNat_natCast, ← Int.natCast_add, nat_add_one, nat_add_two, take_drop_all, List.drop_zero, Nat.sub_zero, Nat.add_sub_cancel_left])
  refine xWait.go (shapeOf_ok dd _) ?_
  obtain ⟨hl1, hl2, hl3⟩ := by simpa only [lenT] using (show lenT (.mk dd nn us) from hl)
  rcases hS : shapeB dd with ⟨pl, ar, ok⟩
  have tlen : (tysV us).length = us.length := by rw [tysV_map, List.length_map]
  (simp only [tlen, (vm1), (vm2), (vm3), (vm4), aDet, ev, tget, tput, ofC, ofC1, pureR, condR, abin, aun, alen, gslot, Nat.reduceEqDiff, reduceIte, argTs, asliceS, asliceL, bnd, boolV, intV, retQ, aRes, aResV, oneAV, AV.low, AV.low.lows, Nat.reduceAdd, isStringD, isSliceD, isBoolD, setRange, AV.cells, AV.isCell, AV.isAgg, abytes, aconv, aeq, isConst, isByteD, isIfaceD, endQ, Int.reduceToNat, Int.reduceLE, Int.reduceLT, Int.reduceEq, Int.reduceNe, Int.reduceAdd, Int.reduceSub, Int.reduceNeg, Nat.reduceLT, Nat.reduceLeDiff, Ent.ver, Ent.imm, Ent.ty, lits, isEl, newCells, aappend, Nat.reduceBEq, fill, undef, (st1), (st2), (st3), (st4), (st5), (st6), (st7), (st8)]; try simp (disch := omega) only [wrapI64, Int.toNat_natCast, ← Int.natCast_add, nat_add_one, nat_add_two, take_drop_all, List.drop_zero, Nat.sub_zero, Nat.add_sub_cancel_left])
  have main : ∀ (a : Int) (m0 : Nat) (ts : Ts), laidT (.mk dd nn us) m = (.mk dd nn a [] (laidTs us m0).1, (laidTs us m0).2) → m0 + sizeTs us ≤ 1000000000 → True := fun _ _ _ _ _ => trivial
  cases pl
  · (simp only [(vm1), (vm2), (vm3), (vm4), aDet, ev, tget, tput, ofC, ofC1, pureR, condR, abin, aun, alen, gslot, Nat.reduceEqDiff, reduceIte, argTs, asliceS, asliceL, bnd, boolV, intV, retQ, aRes, aResV, oneAV, AV.low, AV.low.lows, Nat.reduceAdd, isStringD, isSliceD, isBoolD, setRange, AV.cells, AV.isCell, AV.isAgg, abytes, aconv, aeq, isConst, isByteD, isIfaceD, endQ, Int.reduceToNat, Int.reduceLE, Int.reduceLT, Int.reduceEq, Int.reduceNe, Int.reduceAdd, Int.reduceSub, Int.reduceNeg, Nat.reduceLT, Nat.reduceLeDiff, Ent.ver, Ent.imm, Ent.ty, lits, isEl, newCells, aappend, Nat.reduceBEq, fill, undef, (st1), (st2), (st3), (st4), (st5), (st6), (st7), (st8)]; try simp (disch := omega) only [wrapI64, Int.toNat_natCast, ← Int.natCast_add, nat_add_one, nat_add_two, take_drop_all, List.drop_zero, Nat.sub_zero, Nat.add_sub_cancel_left])
    refine xloop (α := Nat × List Ent × Nat) T0 (fun x => [(1, .fn 65 [] [.ref id 0 0]), (4, .ref (σ.length + 1) 0 0), (5, .ref (σ.length + 2) 0 0), (27, .sl (tysV us)), (28, i64 us.length), (29, i64 x.1)])
      (fun x => σ.set id (.arr 3 [i64 (laidTs (us.take x.1) m).2] 0 0))
      (fun x => .arr 45 [.str dd, .str nn, .sl (tysV us)] 0 0 :: .arr 31 [.str [], .str [], i64 0, .v (.slice none 0 0), .v (.slice none 0 0)] 0 0 ::
        .arr 31 [.str dd, .str nn, i64 0, .v (.slice none 0 0), rowR (σ.length + (x.2.2 + 4)) (laidTs (us.take x.1) m).1] 0 0 :: .arr 90 [boolV false, i64 ar] 0 0 :: x.2.1)
      (fun x => x.1 ≤ us.length ∧ ((laidTs (us.take x.1) m).1 ≠ [] → x.2.1[x.2.2]? = some (.arr 31 ((laidTs (us.take x.1) m).1.flatMap rtCells) ((laidTs (us.take x.1) m).1.length - 1) 0))) (fun x => us.length - x.1) (by kernel_rfl)
      ⟨(0, [], 0), ⟨by simp, by simp [laidTs]⟩, by (simp only [tlen, (vm1), (vm2), (vm3), (vm4), aDet, ev, tget, tput, ofC, ofC1, pureR, condR, abin, aun, alen, gslot, Nat.reduceEqDiff, reduceIte, argTs, asliceS, asliceL, bnd, boolV, intV, retQ, aRes, aResV, oneAV, AV.low, AV.low.lows, Nat.reduceAdd, isStringD, isSliceD, isBoolD, setRange, AV.cells, AV.isCell, AV.isAgg, abytes, aconv, aeq, isConst, isByteD, isIfaceD, endQ, Int.reduceToNat, Int.reduceLE, Int.reduceLT, Int.reduceEq, Int.reduceNe, Int.reduceAdd, Int.reduceSub, Int.reduceNeg, Nat.reduceLT, Nat.reduceLeDiff, Ent.ver, Ent.imm, Ent.ty, lits, isEl, newCells, aappend, Nat.reduceBEq, fill, undef, (st1), (st2), (st3), (st4), (st5), (st6), (st7), (st8), Int.natCast_zero]; try simp (disch := omega) only [wrapI64, Int.toNat_natCast, ← Int.natCast_add, nat_add_one, nat_add_two, take_drop_all, List.drop_zero, Nat.sub_zero, Nat.add_sub_cancel_left]), by simp only [List.take_zero, laidTs]; exact (list_set_self hid).symm, by simp only [List.take_zero, laidTs, rowR]; rfl⟩ ?_
    rintro ⟨i, junk, rid⟩ ⟨hi, hrow⟩
    simp only at hi hrow
    by_cases h : (i : Int) < us.length
    · have hi' : i < us.length := by omega
      have hu : us[i]? = some us[i] := List.getElem?_eq_getElem hi'
      obtain ⟨s1, s2⟩ := good_split us i _ hu
      have hmem : us[i] ∈ us := List.getElem_mem hi'
      generalize us[i] = u at *
      have hge : (tysV us).getD i .un = tyV u := by rw [tysV_map]; simp [List.getD, hu]
      cases u with
      | mk d2 n2 us2 =>
      have hsT : sizeT (.mk dd nn us) = 1 + sizeTs us := by simp only [sizeT]
      have hss : sizeTs us = sizeTs (us.take i) + (sizeT (.mk d2 n2 us2) + sizeTs (us.drop (i + 1))) := by
        conv => lhs; rw [s2]
        rw [sizeTs_app]; simp only [sizeTs]
      have hmi := laidTs_le (us.take i) m
      have hal0 : (laidTs (us.take i) m).1.length ≤ 1000000000 := by
        have h1 := len_size us
        rw [laidTs_len, List.length_take]; omega
      have hpre : (laidTs (us.take i) m).2 + sizeT (.mk d2 n2 us2) ≤ 1000000000 := by omega
      simp only [tyV] at hge
      (simp only [h, hge, tlen, (vm1), (vm2), (vm3), (vm4), aDet, ev, tget, tput, ofC, ofC1, pureR, condR, abin, aun, alen, gslot, Nat.reduceEqDiff, reduceIte, argTs, asliceS, asliceL, bnd, boolV, intV, retQ, aRes, aResV, oneAV, AV.low, AV.low.lows, Nat.reduceAdd, isStringD, isSliceD, isBoolD, setRange, AV.cells, AV.isCell, AV.isAgg, abytes, aconv, aeq, isConst, isByteD, isIfaceD, endQ, Int.reduceToNat, Int.reduceLE, Int.reduceLT, Int.reduceEq, Int.reduceNe, Int.reduceAdd, Int.reduceSub, Int.reduceNeg, Nat.reduceLT, Nat.reduceLeDiff, Ent.ver, Ent.imm, Ent.ty, lits, isEl, newCells, aappend, Nat.reduceBEq, fill, undef, (st1), (st2), (st3), (st4), (st5), (st6), (st7), (st8)]; try simp (disch := omega) only [wrapI64, Int.toNat_natCast, ← Int.natCast_add, nat_add_one, nat_add_two, take_drop_all, List.drop_zero, Nat.sub_zero, Nat.add_sub_cancel_left])
      have hm0 := ih _ hmem (σ.set id (.arr 3 [i64 (laidTs (us.take i) m).2] 0 0))
      have hGl : (σ.set id (.arr 3 [i64 (laidTs (us.take i) m).2] 0 0)).length = σ.length := by simp
      simp only [hGl]
      generalize hG : σ.set id (.arr 3 [i64 (laidTs (us.take i) m).2] 0 0) = G at *
      rw [← hGl]
      generalize hacc : (laidTs (us.take i) m).1 = acc at *
      refine zdraw T0 ⟨[6, 8], [4], [0, 1, 7], none⟩ (by kernel_rfl) (by kernel_rfl) (by kernel_rfl) (by kernel_rfl) ?_
      (simp only [zDraw_nil,zDraw_go,zDraw_if,zSlot_some,zGuard_tt,zGuard_ff,zGuard_tf,zGuard_ft,zGuard_un,zOut_some,zOut_pure,zOut_cond,zNext_move,zNext_assign,zNext_buildSlice,zNext_load,zNext_store,zNext_builtin,zNext_fieldAddr, (vm1), (vm2), (vm3), (vm4), aDet, ev, tget, tput, ofC, ofC1, pureR, condR, abin, aun, alen, gslot, Nat.reduceEqDiff, reduceIte, argTs, asliceS, asliceL, bnd, boolV, intV, retQ, aRes, aResV, oneAV, AV.low, AV.low.lows, Nat.reduceAdd, isStringD, isSliceD, isBoolD, setRange, AV.cells, AV.isCell, AV.isAgg, abytes, aconv, aeq, isConst, isByteD, isIfaceD, endQ, Int.reduceToNat, Int.reduceLE, Int.reduceLT, Int.reduceEq, Int.reduceNe, Int.reduceAdd, Int.reduceSub, Int.reduceNeg, Nat.reduceLT, Nat.reduceLeDiff, Ent.ver, Ent.imm, Ent.ty, lits, isEl, newCells, aappend, Nat.reduceBEq, fill, undef, (st1), (st2), (st3), (st4), (st5), (st6), (st7), (st8)]; try simp (disch := omega) only [wrapI64, Int.toNat_natCast, ← Int.natCast_add, nat_add_one, nat_add_two, take_drop_all, List.drop_zero, Nat.sub_zero, Nat.add_sub_cancel_left])
      refine zNext.loose (r := .ref (G.length + 2) 0 4) rfl rfl rfl rfl (fun g' hg' => ⟨True, trivial, by (simp only [(vm1), (vm2), (vm3), (vm4), aDet, ev, tget, tput, ofC, ofC1, pureR, condR, abin, aun, alen, gslot, Nat.reduceEqDiff, reduceIte, argTs, asliceS, asliceL, bnd, boolV, intV, retQ, aRes, aResV, oneAV, AV.low, AV.low.lows, Nat.reduceAdd, isStringD, isSliceD, isBoolD, setRange, AV.cells, AV.isCell, AV.isAgg, abytes, aconv, aeq, isConst, isByteD, isIfaceD, endQ, Int.reduceToNat, Int.reduceLE, Int.reduceLT, Int.reduceEq, Int.reduceNe, Int.reduceAdd, Int.reduceSub, Int.reduceNeg, Nat.reduceLT, Nat.reduceLeDiff, Ent.ver, Ent.imm, Ent.ty, lits, isEl, newCells, aappend, Nat.reduceBEq, fill, undef, (st1), (st2), (st3), (st4), (st5), (st6), (st7), (st8)]; try simp (disch := omega) only [wrapI64, Int.toNat_natCast, ← Int.natCast_add, nat_add_one, nat_add_two, take_drop_all, List.drop_zero, Nat.sub_zero, Nat.add_sub_cancel_left])⟩) ?_
      (simp only [zDraw_nil,zDraw_go,zDraw_if,zSlot_some,zGuard_tt,zGuard_ff,zGuard_tf,zGuard_ft,zGuard_un,zOut_some,zOut_pure,zOut_cond,zNext_move,zNext_assign,zNext_buildSlice,zNext_load,zNext_store,zNext_builtin,zNext_fieldAddr, (vm1), (vm2), (vm3), (vm4), aDet, ev, tget, tput, ofC, ofC1, pureR, condR, abin, aun, alen, gslot, Nat.reduceEqDiff, reduceIte, argTs, asliceS, asliceL, bnd, boolV, intV, retQ, aRes, aResV, oneAV, AV.low, AV.low.lows, Nat.reduceAdd, isStringD, isSliceD, isBoolD, setRange, AV.cells, AV.isCell, AV.isAgg, abytes, aconv, aeq, isConst, isByteD, isIfaceD, endQ, Int.reduceToNat, Int.reduceLE, Int.reduceLT, Int.reduceEq, Int.reduceNe, Int.reduceAdd, Int.reduceSub, Int.reduceNeg, Nat.reduceLT, Nat.reduceLeDiff, Ent.ver, Ent.imm, Ent.ty, lits, isEl, newCells, aappend, Nat.reduceBEq, fill, undef, (st1), (st2), (st3), (st4), (st5), (st6), (st7), (st8)]; try simp (disch := omega) only [wrapI64, Int.toNat_natCast, ← Int.natCast_add, nat_add_one, nat_add_two, take_drop_all, List.drop_zero, Nat.sub_zero, Nat.add_sub_cancel_left])
      refine zNext.loose (r := rowR (G.length + (rid + 4)) acc) rfl rfl rfl rfl (fun g' hg' => ⟨True, trivial, by rw [← hg']; (simp only [(vm1), (vm2), (vm3), (vm4), aDet, ev, tget, tput, ofC, ofC1, pureR, condR, abin, aun, alen, gslot, Nat.reduceEqDiff, reduceIte, argTs, asliceS, asliceL, bnd, boolV, intV, retQ, aRes, aResV, oneAV, AV.low, AV.low.lows, Nat.reduceAdd, isStringD, isSliceD, isBoolD, setRange, AV.cells, AV.isCell, AV.isAgg, abytes, aconv, aeq, isConst, isByteD, isIfaceD, endQ, Int.reduceToNat, Int.reduceLE, Int.reduceLT, Int.reduceEq, Int.reduceNe, Int.reduceAdd, Int.reduceSub, Int.reduceNeg, Nat.reduceLT, Nat.reduceLeDiff, Ent.ver, Ent.imm, Ent.ty, lits, isEl, newCells, aappend, Nat.reduceBEq, fill, undef, (st1), (st2), (st3), (st4), (st5), (st6), (st7), (st8)]; try simp (disch := omega) only [wrapI64, Int.toNat_natCast, ← Int.natCast_add, nat_add_one, nat_add_two, take_drop_all, List.drop_zero, Nat.sub_zero, Nat.add_sub_cancel_left])⟩) ?_
      (simp only [zDraw_nil,zDraw_go,zDraw_if,zSlot_some,zGuard_tt,zGuard_ff,zGuard_tf,zGuard_ft,zGuard_un,zOut_some,zOut_pure,zOut_cond,zNext_move,zNext_assign,zNext_buildSlice,zNext_load,zNext_store,zNext_builtin,zNext_fieldAddr, (vm1), (vm2), (vm3), (vm4), aDet, ev, tget, tput, ofC, ofC1, pureR, condR, abin, aun, alen, gslot, Nat.reduceEqDiff, reduceIte, argTs, asliceS, asliceL, bnd, boolV, intV, retQ, aRes, aResV, oneAV, AV.low, AV.low.lows, Nat.reduceAdd, isStringD, isSliceD, isBoolD, setRange, AV.cells, AV.isCell, AV.isAgg, abytes, aconv, aeq, isConst, isByteD, isIfaceD, endQ, Int.reduceToNat, Int.reduceLE, Int.reduceLT, Int.reduceEq, Int.reduceNe, Int.reduceAdd, Int.reduceSub, Int.reduceNeg, Nat.reduceLT, Nat.reduceLeDiff, Ent.ver, Ent.imm, Ent.ty, lits, isEl, newCells, aappend, Nat.reduceBEq, fill, undef, (st1), (st2), (st3), (st4), (st5), (st6), (st7), (st8)]; try simp (disch := omega) only [wrapI64, Int.toNat_natCast, ← Int.natCast_add, nat_add_one, nat_add_two, take_drop_all, List.drop_zero, Nat.sub_zero, Nat.add_sub_cancel_left])
      have hcall : ∀ L, ACalls E 54 [.agg [.str d2, .str n2, .sl (tysV us2)], .fn 65 [] [.ref id 0 0]] (G ++ L) fun r τ =>
          r = rtyV (laidT (.mk d2 n2 us2) (laidTs (us.take i) m).2).1 ∧ τ = σ.set id (.arr 3 [i64 (laidT (.mk d2 n2 us2) (laidTs (us.take i) m).2).2] 0 0) ++ L := fun L => by
        have hh := ih _ hmem (G ++ L) id (laidTs (us.take i) m).2 (by rw [← hG]; exact get_mid hlt _ _) hpre (lenTs_mem hl3 hmem)
        simp only [tyV] at hh
        rw [← hG, set_app_set _ _ _ hlt] at hh
        rw [← hG]; exact hh
      rcases hr : (laidT (.mk d2 n2 us2) (laidTs (us.take i) m).2).1 with ⟨d3, n3, a3, e3, us3⟩
      simp only [hr, rtyV] at hcall
      refine zNext.soft (by rfl) (by rfl) _ rfl (hcall _) (by rw [hGl]; simp) ?_
      generalize hG1 : σ.set id (.arr 3 [i64 (laidT (.mk d2 n2 us2) (laidTs (us.take i) m).2).2] 0 0) = G1
      have hG1l : G.length = G1.length := by rw [hGl, ← hG1]; simp
      rw [hG1l]
      have hal : acc.length ≤ 1000000000 := hal0
      rcases acc with _ | ⟨b0, r0⟩
      · (simp only [rowR, zDraw_nil,zDraw_go,zDraw_if,zSlot_some,zGuard_tt,zGuard_ff,zGuard_tf,zGuard_ft,zGuard_un,zOut_some,zOut_pure,zOut_cond,zNext_move,zNext_assign,zNext_buildSlice,zNext_load,zNext_store,zNext_builtin,zNext_fieldAddr, (vm1), (vm2), (vm3), (vm4), aDet, ev, tget, tput, ofC, ofC1, pureR, condR, abin, aun, alen, gslot, Nat.reduceEqDiff, reduceIte, argTs, asliceS, asliceL, bnd, boolV, intV, retQ, aRes, aResV, oneAV, AV.low, AV.low.lows, Nat.reduceAdd, isStringD, isSliceD, isBoolD, setRange, AV.cells, AV.isCell, AV.isAgg, abytes, aconv, aeq, isConst, isByteD, isIfaceD, endQ, Int.reduceToNat, Int.reduceLE, Int.reduceLT, Int.reduceEq, Int.reduceNe, Int.reduceAdd, Int.reduceSub, Int.reduceNeg, Nat.reduceLT, Nat.reduceLeDiff, Ent.ver, Ent.imm, Ent.ty, lits, isEl, newCells, aappend, Nat.reduceBEq, fill, undef, (st1), (st2), (st3), (st4), (st5), (st6), (st7), (st8)]; try simp (disch := omega) only [wrapI64, Int.toNat_natCast, ← Int.natCast_add, nat_add_one, nat_add_two, take_drop_all, List.drop_zero, Nat.sub_zero, Nat.add_sub_cancel_left])
        refine ⟨by unfold maxRoom; omega, ?_⟩
        refine zNext.loose (r := .ref (G1.length + 2) 0 4) (by rfl) (by rfl) (by rfl) rfl (fun g' hg' => ⟨True, trivial, by (simp only [(vm1), (vm2), (vm3), (vm4), aDet, ev, tget, tput, ofC, ofC1, pureR, condR, abin, aun, alen, gslot, Nat.reduceEqDiff, reduceIte, argTs, asliceS, asliceL, bnd, boolV, intV, retQ, aRes, aResV, oneAV, AV.low, AV.low.lows, Nat.reduceAdd, isStringD, isSliceD, isBoolD, setRange, AV.cells, AV.isCell, AV.isAgg, abytes, aconv, aeq, isConst, isByteD, isIfaceD, endQ, Int.reduceToNat, Int.reduceLE, Int.reduceLT, Int.reduceEq, Int.reduceNe, Int.reduceAdd, Int.reduceSub, Int.reduceNeg, Nat.reduceLT, Nat.reduceLeDiff, Ent.ver, Ent.imm, Ent.ty, lits, isEl, newCells, aappend, Nat.reduceBEq, fill, undef, (st1), (st2), (st3), (st4), (st5), (st6), (st7), (st8)]; try simp (disch := omega) only [wrapI64, Int.toNat_natCast, ← Int.natCast_add, nat_add_one, nat_add_two, take_drop_all, List.drop_zero, Nat.sub_zero, Nat.add_sub_cancel_left])⟩) ?_
        (simp only [zDraw_nil,zDraw_go,zDraw_if,zSlot_some,zGuard_tt,zGuard_ff,zGuard_tf,zGuard_ft,zGuard_un,zOut_some,zOut_pure,zOut_cond,zNext_move,zNext_assign,zNext_buildSlice,zNext_load,zNext_store,zNext_builtin,zNext_fieldAddr, (vm1), (vm2), (vm3), (vm4), aDet, ev, tget, tput, ofC, ofC1, pureR, condR, abin, aun, alen, gslot, Nat.reduceEqDiff, reduceIte, argTs, asliceS, asliceL, bnd, boolV, intV, retQ, aRes, aResV, oneAV, AV.low, AV.low.lows, Nat.reduceAdd, isStringD, isSliceD, isBoolD, setRange, AV.cells, AV.isCell, AV.isAgg, abytes, aconv, aeq, isConst, isByteD, isIfaceD, endQ, Int.reduceToNat, Int.reduceLE, Int.reduceLT, Int.reduceEq, Int.reduceNe, Int.reduceAdd, Int.reduceSub, Int.reduceNeg, Nat.reduceLT, Nat.reduceLeDiff, Ent.ver, Ent.imm, Ent.ty, lits, isEl, newCells, aappend, Nat.reduceBEq, fill, undef, (st1), (st2), (st3), (st4), (st5), (st6), (st7), (st8)]; try simp (disch := omega) only [wrapI64, Int.toNat_natCast, ← Int.natCast_add, nat_add_one, nat_add_two, take_drop_all, List.drop_zero, Nat.sub_zero, Nat.add_sub_cancel_left])
        have hnext : laidTs (us.take (i + 1)) m = ([] ++ [.mk d3 n3 a3 e3 us3], (laidT (.mk d2 n2 us2) (laidTs (us.take i) m).2).2) := by
          rw [s1, laidTs_app]; simp only [laidTs, hacc, hr]
        refine ⟨(i + 1, junk ++ [.arr 45 [.str d2, .str n2, .sl (tysV us2)] 0 0, .arr 31 [.str d3, .str n3, i64 a3, .sl (ivs e3), .sl (rtysV us3)] 0 0], junk.length + 1), ⟨by simp only; omega, fun _ => ?_⟩, by simp only; omega, rfl, ?_, ?_⟩
        · simp only [hnext]; simp [rtCells, rtyV, AV.cells]
        · simp only [hnext]; exact hG1.symm
        · simp only [hnext]; rfl
      · have h5 : ∀ e, (junk ++ [e])[rid]? = some (.arr 31 ((b0 :: r0).flatMap rtCells) ((b0 :: r0).length - 1) 0) := fun e => get_old (hrow (by simp))
        have hb0 := rtCells_len b0
        have hr0 := rtCells_flat r0
        simp only [List.length_cons] at hal
        (simp only [rowR, h5, zDraw_nil,zDraw_go,zDraw_if,zSlot_some,zGuard_tt,zGuard_ff,zGuard_tf,zGuard_ft,zGuard_un,zOut_some,zOut_pure,zOut_cond,zNext_move,zNext_assign,zNext_buildSlice,zNext_load,zNext_store,zNext_builtin,zNext_fieldAddr, (vm1), (vm2), (vm3), (vm4), aDet, ev, tget, tput, ofC, ofC1, pureR, condR, abin, aun, alen, gslot, Nat.reduceEqDiff, reduceIte, argTs, asliceS, asliceL, bnd, boolV, intV, retQ, aRes, aResV, oneAV, AV.low, AV.low.lows, Nat.reduceAdd, isStringD, isSliceD, isBoolD, setRange, AV.cells, AV.isCell, AV.isAgg, abytes, aconv, aeq, isConst, isByteD, isIfaceD, endQ, Int.reduceToNat, Int.reduceLE, Int.reduceLT, Int.reduceEq, Int.reduceNe, Int.reduceAdd, Int.reduceSub, Int.reduceNeg, Nat.reduceLT, Nat.reduceLeDiff, Ent.ver, Ent.imm, Ent.ty, lits, isEl, newCells, aappend, Nat.reduceBEq, fill, undef, (st1), (st2), (st3), (st4), (st5), (st6), (st7), (st8)]; try simp (disch := omega) only [wrapI64, Int.toNat_natCast, ← Int.natCast_add, nat_add_one, nat_add_two, take_drop_all, List.drop_zero, Nat.sub_zero, Nat.add_sub_cancel_left])
        refine ⟨⟨by omega, by omega, by omega, by unfold maxRoom; omega, by unfold maxRoom; omega⟩, ?_⟩
        refine zNext.loose (r := .ref (G1.length + 2) 0 4) (by rfl) (by rfl) (by rfl) rfl (fun g' hg' => ⟨True, trivial, by (simp only [(vm1), (vm2), (vm3), (vm4), aDet, ev, tget, tput, ofC, ofC1, pureR, condR, abin, aun, alen, gslot, Nat.reduceEqDiff, reduceIte, argTs, asliceS, asliceL, bnd, boolV, intV, retQ, aRes, aResV, oneAV, AV.low, AV.low.lows, Nat.reduceAdd, isStringD, isSliceD, isBoolD, setRange, AV.cells, AV.isCell, AV.isAgg, abytes, aconv, aeq, isConst, isByteD, isIfaceD, endQ, Int.reduceToNat, Int.reduceLE, Int.reduceLT, Int.reduceEq, Int.reduceNe, Int.reduceAdd, Int.reduceSub, Int.reduceNeg, Nat.reduceLT, Nat.reduceLeDiff, Ent.ver, Ent.imm, Ent.ty, lits, isEl, newCells, aappend, Nat.reduceBEq, fill, undef, (st1), (st2), (st3), (st4), (st5), (st6), (st7), (st8)]; try simp (disch := omega) only [wrapI64, Int.toNat_natCast, ← Int.natCast_add, nat_add_one, nat_add_two, take_drop_all, List.drop_zero, Nat.sub_zero, Nat.add_sub_cancel_left])⟩) ?_
        (simp only [zDraw_nil,zDraw_go,zDraw_if,zSlot_some,zGuard_tt,zGuard_ff,zGuard_tf,zGuard_ft,zGuard_un,zOut_some,zOut_pure,zOut_cond,zNext_move,zNext_assign,zNext_buildSlice,zNext_load,zNext_store,zNext_builtin,zNext_fieldAddr, (vm1), (vm2), (vm3), (vm4), aDet, ev, tget, tput, ofC, ofC1, pureR, condR, abin, aun, alen, gslot, Nat.reduceEqDiff, reduceIte, argTs, asliceS, asliceL, bnd, boolV, intV, retQ, aRes, aResV, oneAV, AV.low, AV.low.lows, Nat.reduceAdd, isStringD, isSliceD, isBoolD, setRange, AV.cells, AV.isCell, AV.isAgg, abytes, aconv, aeq, isConst, isByteD, isIfaceD, endQ, Int.reduceToNat, Int.reduceLE, Int.reduceLT, Int.reduceEq, Int.reduceNe, Int.reduceAdd, Int.reduceSub, Int.reduceNeg, Nat.reduceLT, Nat.reduceLeDiff, Ent.ver, Ent.imm, Ent.ty, lits, isEl, newCells, aappend, Nat.reduceBEq, fill, undef, (st1), (st2), (st3), (st4), (st5), (st6), (st7), (st8)]; try simp (disch := omega) only [wrapI64, Int.toNat_natCast, ← Int.natCast_add, nat_add_one, nat_add_two, take_drop_all, List.drop_zero, Nat.sub_zero, Nat.add_sub_cancel_left])
        have hnext : laidTs (us.take (i + 1)) m = ((b0 :: r0) ++ [.mk d3 n3 a3 e3 us3], (laidT (.mk d2 n2 us2) (laidTs (us.take i) m).2).2) := by
          rw [s1, laidTs_app]; simp only [laidTs, hacc, hr]
        have hrl := lt_of_get (h5 (.arr 45 [.str d2, .str n2, .sl (tysV us2)] 0 0))
        refine ⟨(i + 1, (junk ++ [Ent.arr 45 [AV.str d2, AV.str n2, AV.sl (tysV us2)] 0 0]).set rid (Ent.arr 31 (rtCells b0 ++ (r0.flatMap rtCells ++ [AV.str d3, AV.str n3, i64 a3, AV.sl (ivs e3), AV.sl (rtysV us3)])) (r0.length + 1 - 1 + 1) 0), rid), ⟨by simp only; omega, fun _ => ?_⟩, by simp only; omega, rfl, ?_, ?_⟩
        · simp only [hnext]
          rw [get_set_self (h5 _)]
          simp [rtCells, rtyV, AV.cells]
        · simp only [hnext]; exact hG1.symm
        · simp only [hnext, List.cons_append, List.length_append, List.length_cons, List.length_nil]
    · have hie : i = us.length := by omega
      subst hie
      rw [List.take_length] at hrow ⊢
      have hGl : (σ.set id (.arr 3 [i64 (laidTs us m).2] 0 0)).length = σ.length := by simp
      have hres : laidT (.mk dd nn us) m = (.mk dd nn 0 [] (laidTs us m).1, (laidTs us m).2) := by simp only [laidT, hS, Bool.false_eq_true, if_false]
      rw [hres]
      generalize hG : σ.set id (.arr 3 [i64 (laidTs us m).2] 0 0) = G at *
      rw [← hGl]
      generalize hacc : (laidTs us m).1 = acc at *
      rcases acc with _ | ⟨b0, r0⟩
      · (simp only [h, rowR, (vm1), (vm2), (vm3), (vm4), aDet, ev, tget, tput, ofC, ofC1, pureR, condR, abin, aun, alen, gslot, Nat.reduceEqDiff, reduceIte, argTs, asliceS, asliceL, bnd, boolV, intV, retQ, aRes, aResV, oneAV, AV.low, AV.low.lows, Nat.reduceAdd, isStringD, isSliceD, isBoolD, setRange, AV.cells, AV.isCell, AV.isAgg, abytes, aconv, aeq, isConst, isByteD, isIfaceD, endQ, Int.reduceToNat, Int.reduceLE, Int.reduceLT, Int.reduceEq, Int.reduceNe, Int.reduceAdd, Int.reduceSub, Int.reduceNeg, Nat.reduceLT, Nat.reduceLeDiff, Ent.ver, Ent.imm, Ent.ty, lits, isEl, newCells, aappend, Nat.reduceBEq, fill, undef, (st1), (st2), (st3), (st4), (st5), (st6), (st7), (st8)]; try simp (disch := omega) only [wrapI64, Int.toNat_natCast, ← Int.natCast_add, nat_add_one, nat_add_two, take_drop_all, List.drop_zero, Nat.sub_zero, Nat.add_sub_cancel_left])
        exact ⟨_, .agg (.cons (.refl _) (.cons (.refl _) (.cons (.refl _) (.cons .none (.cons .none .nil))))), rfl, by rw [← hG]; exact storeLow_set rfl, rfl⟩
      · have hr := hrow (by simp)
        (simp only [h, rowR, (vm1), (vm2), (vm3), (vm4), aDet, ev, tget, tput, ofC, ofC1, pureR, condR, abin, aun, alen, gslot, Nat.reduceEqDiff, reduceIte, argTs, asliceS, asliceL, bnd, boolV, intV, retQ, aRes, aResV, oneAV, AV.low, AV.low.lows, Nat.reduceAdd, isStringD, isSliceD, isBoolD, setRange, AV.cells, AV.isCell, AV.isAgg, abytes, aconv, aeq, isConst, isByteD, isIfaceD, endQ, Int.reduceToNat, Int.reduceLE, Int.reduceLT, Int.reduceEq, Int.reduceNe, Int.reduceAdd, Int.reduceSub, Int.reduceNeg, Nat.reduceLT, Nat.reduceLeDiff, Ent.ver, Ent.imm, Ent.ty, lits, isEl, newCells, aappend, Nat.reduceBEq, fill, undef, (st1), (st2), (st3), (st4), (st5), (st6), (st7), (st8)]; try simp (disch := omega) only [wrapI64, Int.toNat_natCast, ← Int.natCast_add, nat_add_one, nat_add_two, take_drop_all, List.drop_zero, Nat.sub_zero, Nat.add_sub_cancel_left])
        refine ⟨_, .agg (.cons (.refl _) (.cons (.refl _) (.cons (.refl _) (.cons .none (.cons (.rsl (ty := 31) (ver := r0.length) (imm := 0) (ag := true) (cells := (b0 :: r0).flatMap rtCells) (es := (b0 :: r0).map rtyV) (by omega) ?_ ?_ (by omega) (by simp) (by omega) (fun e he => by obtain ⟨x, _, rfl⟩ := List.mem_map.1 he; exact rtyV_el x) FrzL.refl) .nil))))), ?_, by rw [← hG]; exact storeLow_set rfl, ?_⟩
        · rw [hGl, Nat.add_sub_cancel_left]; exact hr
        · rw [List.drop_zero, List.flatMap_map]; rfl
        · have := rtysV_low σ.length (b0 :: r0)
          rw [rtysV_map] at this
          simp only [AV.low, AV.low.lows, this, Bool.and_true]
        · simp only [rtyV, rtysV_map, ivs, List.map_nil]
  · (simp only [(vm1), (vm2), (vm3), (vm4), aDet, ev, tget, tput, ofC, ofC1, pureR, condR, abin, aun, alen, gslot, Nat.reduceEqDiff, reduceIte, argTs, asliceS, asliceL, bnd, boolV, intV, retQ, aRes, aResV, oneAV, AV.low, AV.low.lows, Nat.reduceAdd, isStringD, isSliceD, isBoolD, setRange, AV.cells, AV.isCell, AV.isAgg, abytes, aconv, aeq, isConst, isByteD, isIfaceD, endQ, Int.reduceToNat, Int.reduceLE, Int.reduceLT, Int.reduceEq, Int.reduceNe, Int.reduceAdd, Int.reduceSub, Int.reduceNeg, Nat.reduceLT, Nat.reduceLeDiff, Ent.ver, Ent.imm, Ent.ty, lits, isEl, newCells, aappend, Nat.reduceBEq, fill, undef, (st1), (st2), (st3), (st4), (st5), (st6), (st7), (st8)]; try simp (disch := omega) only [wrapI64, Int.toNat_natCast, ← Int.natCast_add, nat_add_one, nat_add_two, take_drop_all, List.drop_zero, Nat.sub_zero, Nat.add_sub_cancel_left])
    refine xWait.of (Spread1_ok _ id m (by rw [List.getElem?_append_left hlt]; exact hid) (by omega)) ?_
    rintro _ _ ⟨rfl, rfl⟩
    rw [List.set_append_left _ _ hlt]
    have hGl0 : σ.length = (σ.set id (.arr 3 [i64 (m + 1 : Nat)] 0 0)).length := by simp
    simp only [take_set, drop_set]
    generalize hG0 : σ.set id (.arr 3 [i64 (m + 1 : Nat)] 0 0) = G0 at *
    (simp only [hGl0, (vm1), (vm2), (vm3), (vm4), aDet, ev, tget, tput, ofC, ofC1, pureR, condR, abin, aun, alen, gslot, Nat.reduceEqDiff, reduceIte, argTs, asliceS, asliceL, bnd, boolV, intV, retQ, aRes, aResV, oneAV, AV.low, AV.low.lows, Nat.reduceAdd, isStringD, isSliceD, isBoolD, setRange, AV.cells, AV.isCell, AV.isAgg, abytes, aconv, aeq, isConst, isByteD, isIfaceD, endQ, Int.reduceToNat, Int.reduceLE, Int.reduceLT, Int.reduceEq, Int.reduceNe, Int.reduceAdd, Int.reduceSub, Int.reduceNeg, Nat.reduceLT, Nat.reduceLeDiff, Ent.ver, Ent.imm, Ent.ty, lits, isEl, newCells, aappend, Nat.reduceBEq, fill, undef, (st1), (st2), (st3), (st4), (st5), (st6), (st7), (st8)]; try simp (disch := omega) only [wrapI64, Int.toNat_natCast, ← Int.natCast_add, nat_add_one, nat_add_two, take_drop_all, List.drop_zero, Nat.sub_zero, Nat.add_sub_cancel_left])
    simp only [← hGl0]
    refine xloop (α := Nat × List Ent × Nat) T0 (fun x => [(1, .fn 65 [] [.ref id 0 0]), (4, .ref (σ.length + 1) 0 0), (5, .ref (σ.length + 2) 0 0), (27, .sl (tysV us)), (28, i64 us.length), (29, i64 x.1)])
      (fun x => σ.set id (.arr 3 [i64 (laidTs (us.take x.1) (m + 1)).2] 0 0))
      (fun x => .arr 45 [.str dd, .str nn, .sl (tysV us)] 0 0 :: .arr 31 [.str [], .str [], i64 0, .v (.slice none 0 0), .v (.slice none 0 0)] 0 0 ::
        .arr 31 [.str dd, .str nn, i64 m, .v (.slice none 0 0), rowR (σ.length + (x.2.2 + 4)) (laidTs (us.take x.1) (m + 1)).1] 0 0 :: .arr 90 [boolV true, i64 ar] 0 0 :: x.2.1)
      (fun x => x.1 ≤ us.length ∧ ((laidTs (us.take x.1) (m + 1)).1 ≠ [] → x.2.1[x.2.2]? = some (.arr 31 ((laidTs (us.take x.1) (m + 1)).1.flatMap rtCells) ((laidTs (us.take x.1) (m + 1)).1.length - 1) 0))) (fun x => us.length - x.1) (by kernel_rfl)
      ⟨(0, [], 0), ⟨by simp, by simp [laidTs]⟩, by (simp only [tlen, (vm1), (vm2), (vm3), (vm4), aDet, ev, tget, tput, ofC, ofC1, pureR, condR, abin, aun, alen, gslot, Nat.reduceEqDiff, reduceIte, argTs, asliceS, asliceL, bnd, boolV, intV, retQ, aRes, aResV, oneAV, AV.low, AV.low.lows, Nat.reduceAdd, isStringD, isSliceD, isBoolD, setRange, AV.cells, AV.isCell, AV.isAgg, abytes, aconv, aeq, isConst, isByteD, isIfaceD, endQ, Int.reduceToNat, Int.reduceLE, Int.reduceLT, Int.reduceEq, Int.reduceNe, Int.reduceAdd, Int.reduceSub, Int.reduceNeg, Nat.reduceLT, Nat.reduceLeDiff, Ent.ver, Ent.imm, Ent.ty, lits, isEl, newCells, aappend, Nat.reduceBEq, fill, undef, (st1), (st2), (st3), (st4), (st5), (st6), (st7), (st8), Int.natCast_zero]; try simp (disch := omega) only [wrapI64, Int.toNat_natCast, ← Int.natCast_add, nat_add_one, nat_add_two, take_drop_all, List.drop_zero, Nat.sub_zero, Nat.add_sub_cancel_left]), by simp only [List.take_zero, laidTs]; exact hG0.symm, by simp only [List.take_zero, laidTs, rowR]; rfl⟩ ?_
    rintro ⟨i, junk, rid⟩ ⟨hi, hrow⟩
    simp only at hi hrow
    by_cases h : (i : Int) < us.length
    · have hi' : i < us.length := by omega
      have hu : us[i]? = some us[i] := List.getElem?_eq_getElem hi'
      obtain ⟨s1, s2⟩ := good_split us i _ hu
      have hmem : us[i] ∈ us := List.getElem_mem hi'
      generalize us[i] = u at *
      have hge : (tysV us).getD i .un = tyV u := by rw [tysV_map]; simp [List.getD, hu]
      cases u with
      | mk d2 n2 us2 =>
      have hsT : sizeT (.mk dd nn us) = 1 + sizeTs us := by simp only [sizeT]
      have hss : sizeTs us = sizeTs (us.take i) + (sizeT (.mk d2 n2 us2) + sizeTs (us.drop (i + 1))) := by
        conv => lhs; rw [s2]
        rw [sizeTs_app]; simp only [sizeTs]
      have hmi := laidTs_le (us.take i) (m + 1)
      have hal0 : (laidTs (us.take i) (m + 1)).1.length ≤ 1000000000 := by
        have h1 := len_size us
        rw [laidTs_len, List.length_take]; omega
      have hpre : (laidTs (us.take i) (m + 1)).2 + sizeT (.mk d2 n2 us2) ≤ 1000000000 := by omega
      simp only [tyV] at hge
      (simp only [h, hge, tlen, (vm1), (vm2), (vm3), (vm4), aDet, ev, tget, tput, ofC, ofC1, pureR, condR, abin, aun, alen, gslot, Nat.reduceEqDiff, reduceIte, argTs, asliceS, asliceL, bnd, boolV, intV, retQ, aRes, aResV, oneAV, AV.low, AV.low.lows, Nat.reduceAdd, isStringD, isSliceD, isBoolD, setRange, AV.cells, AV.isCell, AV.isAgg, abytes, aconv, aeq, isConst, isByteD, isIfaceD, endQ, Int.reduceToNat, Int.reduceLE, Int.reduceLT, Int.reduceEq, Int.reduceNe, Int.reduceAdd, Int.reduceSub, Int.reduceNeg, Nat.reduceLT, Nat.reduceLeDiff, Ent.ver, Ent.imm, Ent.ty, lits, isEl, newCells, aappend, Nat.reduceBEq, fill, undef, (st1), (st2), (st3), (st4), (st5), (st6), (st7), (st8)]; try simp (disch := omega) only [wrapI64, Int.toNat_natCast, ← Int.natCast_add, nat_add_one, nat_add_two, take_drop_all, List.drop_zero, Nat.sub_zero, Nat.add_sub_cancel_left])
      have hm0 := ih _ hmem (σ.set id (.arr 3 [i64 (laidTs (us.take i) (m + 1)).2] 0 0))
      have hGl : (σ.set id (.arr 3 [i64 (laidTs (us.take i) (m + 1)).2] 0 0)).length = σ.length := by simp
      simp only [hGl]
      generalize hG : σ.set id (.arr 3 [i64 (laidTs (us.take i) (m + 1)).2] 0 0) = G at *
      rw [← hGl]
      generalize hacc : (laidTs (us.take i) (m + 1)).1 = acc at *
      refine zdraw T0 ⟨[6, 8], [4], [0, 1, 7], none⟩ (by kernel_rfl) (by kernel_rfl) (by kernel_rfl) (by kernel_rfl) ?_
      (simp only [zDraw_nil,zDraw_go,zDraw_if,zSlot_some,zGuard_tt,zGuard_ff,zGuard_tf,zGuard_ft,zGuard_un,zOut_some,zOut_pure,zOut_cond,zNext_move,zNext_assign,zNext_buildSlice,zNext_load,zNext_store,zNext_builtin,zNext_fieldAddr, (vm1), (vm2), (vm3), (vm4), aDet, ev, tget, tput, ofC, ofC1, pureR, condR, abin, aun, alen, gslot, Nat.reduceEqDiff, reduceIte, argTs, asliceS, asliceL, bnd, boolV, intV, retQ, aRes, aResV, oneAV, AV.low, AV.low.lows, Nat.reduceAdd, isStringD, isSliceD, isBoolD, setRange, AV.cells, AV.isCell, AV.isAgg, abytes, aconv, aeq, isConst, isByteD, isIfaceD, endQ, Int.reduceToNat, Int.reduceLE, Int.reduceLT, Int.reduceEq, Int.reduceNe, Int.reduceAdd, Int.reduceSub, Int.reduceNeg, Nat.reduceLT, Nat.reduceLeDiff, Ent.ver, Ent.imm, Ent.ty, lits, isEl, newCells, aappend, Nat.reduceBEq, fill, undef, (st1), (st2), (st3), (st4), (st5), (st6), (st7), (st8)]; try simp (disch := omega) only [wrapI64, Int.toNat_natCast, ← Int.natCast_add, nat_add_one, nat_add_two, take_drop_all, List.drop_zero, Nat.sub_zero, Nat.add_sub_cancel_left])
      refine zNext.loose (r := .ref (G.length + 2) 0 4) rfl rfl rfl rfl (fun g' hg' => ⟨True, trivial, by (simp only [(vm1), (vm2), (vm3), (vm4), aDet, ev, tget, tput, ofC, ofC1, pureR, condR, abin, aun, alen, gslot, Nat.reduceEqDiff, reduceIte, argTs, asliceS, asliceL, bnd, boolV, intV, retQ, aRes, aResV, oneAV, AV.low, AV.low.lows, Nat.reduceAdd, isStringD, isSliceD, isBoolD, setRange, AV.cells, AV.isCell, AV.isAgg, abytes, aconv, aeq, isConst, isByteD, isIfaceD, endQ, Int.reduceToNat, Int.reduceLE, Int.reduceLT, Int.reduceEq, Int.reduceNe, Int.reduceAdd, Int.reduceSub, Int.reduceNeg, Nat.reduceLT, Nat.reduceLeDiff, Ent.ver, Ent.imm, Ent.ty, lits, isEl, newCells, aappend, Nat.reduceBEq, fill, undef, (st1), (st2), (st3), (st4), (st5), (st6), (st7), (st8)]; try simp (disch := omega) only [wrapI64, Int.toNat_natCast, ← Int.natCast_add, nat_add_one, nat_add_two, take_drop_all, List.drop_zero, Nat.sub_zero, Nat.add_sub_cancel_left])⟩) ?_
      (simp only [zDraw_nil,zDraw_go,zDraw_if,zSlot_some,zGuard_tt,zGuard_ff,zGuard_tf,zGuard_ft,zGuard_un,zOut_some,zOut_pure,zOut_cond,zNext_move,zNext_assign,zNext_buildSlice,zNext_load,zNext_store,zNext_builtin,zNext_fieldAddr, (vm1), (vm2), (vm3), (vm4), aDet, ev, tget, tput, ofC, ofC1, pureR, condR, abin, aun, alen, gslot, Nat.reduceEqDiff, reduceIte, argTs, asliceS, asliceL, bnd, boolV, intV, retQ, aRes, aResV, oneAV, AV.low, AV.low.lows, Nat.reduceAdd, isStringD, isSliceD, isBoolD, setRange, AV.cells, AV.isCell, AV.isAgg, abytes, aconv, aeq, isConst, isByteD, isIfaceD, endQ, Int.reduceToNat, Int.reduceLE, Int.reduceLT, Int.reduceEq, Int.reduceNe, Int.reduceAdd, Int.reduceSub, Int.reduceNeg, Nat.reduceLT, Nat.reduceLeDiff, Ent.ver, Ent.imm, Ent.ty, lits, isEl, newCells, aappend, Nat.reduceBEq, fill, undef, (st1), (st2), (st3), (st4), (st5), (st6), (st7), (st8)]; try simp (disch := omega) only [wrapI64, Int.toNat_natCast, ← Int.natCast_add, nat_add_one, nat_add_two, take_drop_all, List.drop_zero, Nat.sub_zero, Nat.add_sub_cancel_left])
      refine zNext.loose (r := rowR (G.length + (rid + 4)) acc) rfl rfl rfl rfl (fun g' hg' => ⟨True, trivial, by rw [← hg']; (simp only [(vm1), (vm2), (vm3), (vm4), aDet, ev, tget, tput, ofC, ofC1, pureR, condR, abin, aun, alen, gslot, Nat.reduceEqDiff, reduceIte, argTs, asliceS, asliceL, bnd, boolV, intV, retQ, aRes, aResV, oneAV, AV.low, AV.low.lows, Nat.reduceAdd, isStringD, isSliceD, isBoolD, setRange, AV.cells, AV.isCell, AV.isAgg, abytes, aconv, aeq, isConst, isByteD, isIfaceD, endQ, Int.reduceToNat, Int.reduceLE, Int.reduceLT, Int.reduceEq, Int.reduceNe, Int.reduceAdd, Int.reduceSub, Int.reduceNeg, Nat.reduceLT, Nat.reduceLeDiff, Ent.ver, Ent.imm, Ent.ty, lits, isEl, newCells, aappend, Nat.reduceBEq, fill, undef, (st1), (st2), (st3), (st4), (st5), (st6), (st7), (st8)]; try simp (disch := omega) only [wrapI64, Int.toNat_natCast, ← Int.natCast_add, nat_add_one, nat_add_two, take_drop_all, List.drop_zero, Nat.sub_zero, Nat.add_sub_cancel_left])⟩) ?_
      (simp only [zDraw_nil,zDraw_go,zDraw_if,zSlot_some,zGuard_tt,zGuard_ff,zGuard_tf,zGuard_ft,zGuard_un,zOut_some,zOut_pure,zOut_cond,zNext_move,zNext_assign,zNext_buildSlice,zNext_load,zNext_store,zNext_builtin,zNext_fieldAddr, (vm1), (vm2), (vm3), (vm4), aDet, ev, tget, tput, ofC, ofC1, pureR, condR, abin, aun, alen, gslot, Nat.reduceEqDiff, reduceIte, argTs, asliceS, asliceL, bnd, boolV, intV, retQ, aRes, aResV, oneAV, AV.low, AV.low.lows, Nat.reduceAdd, isStringD, isSliceD, isBoolD, setRange, AV.cells, AV.isCell, AV.isAgg, abytes, aconv, aeq, isConst, isByteD, isIfaceD, endQ, Int.reduceToNat, Int.reduceLE, Int.reduceLT, Int.reduceEq, Int.reduceNe, Int.reduceAdd, Int.reduceSub, Int.reduceNeg, Nat.reduceLT, Nat.reduceLeDiff, Ent.ver, Ent.imm, Ent.ty, lits, isEl, newCells, aappend, Nat.reduceBEq, fill, undef, (st1), (st2), (st3), (st4), (st5), (st6), (st7), (st8)]; try simp (disch := omega) only [wrapI64, Int.toNat_natCast, ← Int.natCast_add, nat_add_one, nat_add_two, take_drop_all, List.drop_zero, Nat.sub_zero, Nat.add_sub_cancel_left])
      have hcall : ∀ L, ACalls E 54 [.agg [.str d2, .str n2, .sl (tysV us2)], .fn 65 [] [.ref id 0 0]] (G ++ L) fun r τ =>
          r = rtyV (laidT (.mk d2 n2 us2) (laidTs (us.take i) (m + 1)).2).1 ∧ τ = σ.set id (.arr 3 [i64 (laidT (.mk d2 n2 us2) (laidTs (us.take i) (m + 1)).2).2] 0 0) ++ L := fun L => by
        have hh := ih _ hmem (G ++ L) id (laidTs (us.take i) (m + 1)).2 (by rw [← hG]; exact get_mid hlt _ _) hpre (lenTs_mem hl3 hmem)
        simp only [tyV] at hh
        rw [← hG, set_app_set _ _ _ hlt] at hh
        rw [← hG]; exact hh
      rcases hr : (laidT (.mk d2 n2 us2) (laidTs (us.take i) (m + 1)).2).1 with ⟨d3, n3, a3, e3, us3⟩
      simp only [hr, rtyV] at hcall
      refine zNext.soft (by rfl) (by rfl) _ rfl (hcall _) (by rw [hGl]; simp) ?_
      generalize hG1 : σ.set id (.arr 3 [i64 (laidT (.mk d2 n2 us2) (laidTs (us.take i) (m + 1)).2).2] 0 0) = G1
      have hG1l : G.length = G1.length := by rw [hGl, ← hG1]; simp
      rw [hG1l]
      have hal : acc.length ≤ 1000000000 := hal0
      rcases acc with _ | ⟨b0, r0⟩
      · (simp only [rowR, zDraw_nil,zDraw_go,zDraw_if,zSlot_some,zGuard_tt,zGuard_ff,zGuard_tf,zGuard_ft,zGuard_un,zOut_some,zOut_pure,zOut_cond,zNext_move,zNext_assign,zNext_buildSlice,zNext_load,zNext_store,zNext_builtin,zNext_fieldAddr, (vm1), (vm2), (vm3), (vm4), aDet, ev, tget, tput, ofC, ofC1, pureR, condR, abin, aun, alen, gslot, Nat.reduceEqDiff, reduceIte, argTs, asliceS, asliceL, bnd, boolV, intV, retQ, aRes, aResV, oneAV, AV.low, AV.low.lows, Nat.reduceAdd, isStringD, isSliceD, isBoolD, setRange, AV.cells, AV.isCell, AV.isAgg, abytes, aconv, aeq, isConst, isByteD, isIfaceD, endQ, Int.reduceToNat, Int.reduceLE, Int.reduceLT, Int.reduceEq, Int.reduceNe, Int.reduceAdd, Int.reduceSub, Int.reduceNeg, Nat.reduceLT, Nat.reduceLeDiff, Ent.ver, Ent.imm, Ent.ty, lits, isEl, newCells, aappend, Nat.reduceBEq, fill, undef, (st1), (st2), (st3), (st4), (st5), (st6), (st7), (st8)]; try simp (disch := omega) only [wrapI64, Int.toNat_natCast, ← Int.natCast_add, nat_add_one, nat_add_two, take_drop_all, List.drop_zero, Nat.sub_zero, Nat.add_sub_cancel_left])
        refine ⟨by unfold maxRoom; omega, ?_⟩
        refine zNext.loose (r := .ref (G1.length + 2) 0 4) (by rfl) (by rfl) (by rfl) rfl (fun g' hg' => ⟨True, trivial, by (simp only [(vm1), (vm2), (vm3), (vm4), aDet, ev, tget, tput, ofC, ofC1, pureR, condR, abin, aun, alen, gslot, Nat.reduceEqDiff, reduceIte, argTs, asliceS, asliceL, bnd, boolV, intV, retQ, aRes, aResV, oneAV, AV.low, AV.low.lows, Nat.reduceAdd, isStringD, isSliceD, isBoolD, setRange, AV.cells, AV.isCell, AV.isAgg, abytes, aconv, aeq, isConst, isByteD, isIfaceD, endQ, Int.reduceToNat, Int.reduceLE, Int.reduceLT, Int.reduceEq, Int.reduceNe, Int.reduceAdd, Int.reduceSub, Int.reduceNeg, Nat.reduceLT, Nat.reduceLeDiff, Ent.ver, Ent.imm, Ent.ty, lits, isEl, newCells, aappend, Nat.reduceBEq, fill, undef, (st1), (st2), (st3), (st4), (st5), (st6), (st7), (st8)]; try simp (disch := omega) only [wrapI64, Int.toNat_natCast, ← Int.natCast_add, nat_add_one, nat_add_two, take_drop_all, List.drop_zero, Nat.sub_zero, Nat.add_sub_cancel_left])⟩) ?_
        (simp only [zDraw_nil,zDraw_go,zDraw_if,zSlot_some,zGuard_tt,zGuard_ff,zGuard_tf,zGuard_ft,zGuard_un,zOut_some,zOut_pure,zOut_cond,zNext_move,zNext_assign,zNext_buildSlice,zNext_load,zNext_store,zNext_builtin,zNext_fieldAddr, (vm1), (vm2), (vm3), (vm4), aDet, ev, tget, tput, ofC, ofC1, pureR, condR, abin, aun, alen, gslot, Nat.reduceEqDiff, reduceIte, argTs, asliceS, asliceL, bnd, boolV, intV, retQ, aRes, aResV, oneAV, AV.low, AV.low.lows, Nat.reduceAdd, isStringD, isSliceD, isBoolD, setRange, AV.cells, AV.isCell, AV.isAgg, abytes, aconv, aeq, isConst, isByteD, isIfaceD, endQ, Int.reduceToNat, Int.reduceLE, Int.reduceLT, Int.reduceEq, Int.reduceNe, Int.reduceAdd, Int.reduceSub, Int.reduceNeg, Nat.reduceLT, Nat.reduceLeDiff, Ent.ver, Ent.imm, Ent.ty, lits, isEl, newCells, aappend, Nat.reduceBEq, fill, undef, (st1), (st2), (st3), (st4), (st5), (st6), (st7), (st8)]; try simp (disch := omega) only [wrapI64, Int.toNat_natCast, ← Int.natCast_add, nat_add_one, nat_add_two, take_drop_all, List.drop_zero, Nat.sub_zero, Nat.add_sub_cancel_left])
        have hnext : laidTs (us.take (i + 1)) (m + 1) = ([] ++ [.mk d3 n3 a3 e3 us3], (laidT (.mk d2 n2 us2) (laidTs (us.take i) (m + 1)).2).2) := by
          rw [s1, laidTs_app]; simp only [laidTs, hacc, hr]
        refine ⟨(i + 1, junk ++ [.arr 45 [.str d2, .str n2, .sl (tysV us2)] 0 0, .arr 31 [.str d3, .str n3, i64 a3, .sl (ivs e3), .sl (rtysV us3)] 0 0], junk.length + 1), ⟨by simp only; omega, fun _ => ?_⟩, by simp only; omega, rfl, ?_, ?_⟩
        · simp only [hnext]; simp [rtCells, rtyV, AV.cells]
        · simp only [hnext]; exact hG1.symm
        · simp only [hnext]; rfl
      · have h5 : ∀ e, (junk ++ [e])[rid]? = some (.arr 31 ((b0 :: r0).flatMap rtCells) ((b0 :: r0).length - 1) 0) := fun e => get_old (hrow (by simp))
        have hb0 := rtCells_len b0
        have hr0 := rtCells_flat r0
        simp only [List.length_cons] at hal
        (simp only [rowR, h5, zDraw_nil,zDraw_go,zDraw_if,zSlot_some,zGuard_tt,zGuard_ff,zGuard_tf,zGuard_ft,zGuard_un,zOut_some,zOut_pure,zOut_cond,zNext_move,zNext_assign,zNext_buildSlice,zNext_load,zNext_store,zNext_builtin,zNext_fieldAddr, (vm1), (vm2), (vm3), (vm4), aDet, ev, tget, tput, ofC, ofC1, pureR, condR, abin, aun, alen, gslot, Nat.reduceEqDiff, reduceIte, argTs, asliceS, asliceL, bnd, boolV, intV, retQ, aRes, aResV, oneAV, AV.low, AV.low.lows, Nat.reduceAdd, isStringD, isSliceD, isBoolD, setRange, AV.cells, AV.isCell, AV.isAgg, abytes, aconv, aeq, isConst, isByteD, isIfaceD, endQ, Int.reduceToNat, Int.reduceLE, Int.reduceLT, Int.reduceEq, Int.reduceNe, Int.reduceAdd, Int.reduceSub, Int.reduceNeg, Nat.reduceLT, Nat.reduceLeDiff, Ent.ver, Ent.imm, Ent.ty, lits, isEl, newCells, aappend, Nat.reduceBEq, fill, undef, (st1), (st2), (st3), (st4), (st5), (st6), (st7), (st8)]; try simp (disch := omega) only [wrapI64, Int.toNat_natCast, ← Int.natCast_add, nat_add_one, nat_add_two, take_drop_all, List.drop_zero, Nat.sub_zero, Nat.add_sub_cancel_left])
        refine ⟨⟨by omega, by omega, by omega, by unfold maxRoom; omega, by unfold maxRoom; omega⟩, ?_⟩
        refine zNext.loose (r := .ref (G1.length + 2) 0 4) (by rfl) (by rfl) (by rfl) rfl (fun g' hg' => ⟨True, trivial, by (simp only [(vm1), (vm2), (vm3), (vm4), aDet, ev, tget, tput, ofC, ofC1, pureR, condR, abin, aun, alen, gslot, Nat.reduceEqDiff, reduceIte, argTs, asliceS, asliceL, bnd, boolV, intV, retQ, aRes, aResV, oneAV, AV.low, AV.low.lows, Nat.reduceAdd, isStringD, isSliceD, isBoolD, setRange, AV.cells, AV.isCell, AV.isAgg, abytes, aconv, aeq, isConst, isByteD, isIfaceD, endQ, Int.reduceToNat, Int.reduceLE, Int.reduceLT, Int.reduceEq, Int.reduceNe, Int.reduceAdd, Int.reduceSub, Int.reduceNeg, Nat.reduceLT, Nat.reduceLeDiff, Ent.ver, Ent.imm, Ent.ty, lits, isEl, newCells, aappend, Nat.reduceBEq, fill, undef, (st1), (st2), (st3), (st4), (st5), (st6), (st7), (st8)]; try simp (disch := omega) only [wrapI64, Int.toNat_natCast, ← Int.natCast_add, nat_add_one, nat_add_two, take_drop_all, List.drop_zero, Nat.sub_zero, Nat.add_sub_cancel_left])⟩) ?_
        (simp only [zDraw_nil,zDraw_go,zDraw_if,zSlot_some,zGuard_tt,zGuard_ff,zGuard_tf,zGuard_ft,zGuard_un,zOut_some,zOut_pure,zOut_cond,zNext_move,zNext_assign,zNext_buildSlice,zNext_load,zNext_store,zNext_builtin,zNext_fieldAddr, (vm1), (vm2), (vm3), (vm4), aDet, ev, tget, tput, ofC, ofC1, pureR, condR, abin, aun, alen, gslot, Nat.reduceEqDiff, reduceIte, argTs, asliceS, asliceL, bnd, boolV, intV, retQ, aRes, aResV, oneAV, AV.low, AV.low.lows, Nat.reduceAdd, isStringD, isSliceD, isBoolD, setRange, AV.cells, AV.isCell, AV.isAgg, abytes, aconv, aeq, isConst, isByteD, isIfaceD, endQ, Int.reduceToNat, Int.reduceLE, Int.reduceLT, Int.reduceEq, Int.reduceNe, Int.reduceAdd, Int.reduceSub, Int.reduceNeg, Nat.reduceLT, Nat.reduceLeDiff, Ent.ver, Ent.imm, Ent.ty, lits, isEl, newCells, aappend, Nat.reduceBEq, fill, undef, (st1), (st2), (st3), (st4), (st5), (st6), (st7), (st8)]; try simp (disch := omega) only [wrapI64, Int.toNat_natCast, ← Int.natCast_add, nat_add_one, nat_add_two, take_drop_all, List.drop_zero, Nat.sub_zero, Nat.add_sub_cancel_left])
        have hnext : laidTs (us.take (i + 1)) (m + 1) = ((b0 :: r0) ++ [.mk d3 n3 a3 e3 us3], (laidT (.mk d2 n2 us2) (laidTs (us.take i) (m + 1)).2).2) := by
          rw [s1, laidTs_app]; simp only [laidTs, hacc, hr]
        have hrl := lt_of_get (h5 (.arr 45 [.str d2, .str n2, .sl (tysV us2)] 0 0))
        refine ⟨(i + 1, (junk ++ [Ent.arr 45 [AV.str d2, AV.str n2, AV.sl (tysV us2)] 0 0]).set rid (Ent.arr 31 (rtCells b0 ++ (r0.flatMap rtCells ++ [AV.str d3, AV.str n3, i64 a3, AV.sl (ivs e3), AV.sl (rtysV us3)])) (r0.length + 1 - 1 + 1) 0), rid), ⟨by simp only; omega, fun _ => ?_⟩, by simp only; omega, rfl, ?_, ?_⟩
        · simp only [hnext]
          rw [get_set_self (h5 _)]
          simp [rtCells, rtyV, AV.cells]
        · simp only [hnext]; exact hG1.symm
        · simp only [hnext, List.cons_append, List.length_append, List.length_cons, List.length_nil]
    · have hie : i = us.length := by omega
      subst hie
      rw [List.take_length] at hrow ⊢
      have hGl : (σ.set id (.arr 3 [i64 (laidTs us (m + 1)).2] 0 0)).length = σ.length := by simp
      have hres : laidT (.mk dd nn us) m = (.mk dd nn m [] (laidTs us (m + 1)).1, (laidTs us (m + 1)).2) := by simp only [laidT, hS, if_true]
      rw [hres]
      generalize hG : σ.set id (.arr 3 [i64 (laidTs us (m + 1)).2] 0 0) = G at *
      rw [← hGl]
      generalize hacc : (laidTs us (m + 1)).1 = acc at *
      rcases acc with _ | ⟨b0, r0⟩
      · (simp only [h, rowR, (vm1), (vm2), (vm3), (vm4), aDet, ev, tget, tput, ofC, ofC1, pureR, condR, abin, aun, alen, gslot, Nat.reduceEqDiff, reduceIte, argTs, asliceS, asliceL, bnd, boolV, intV, retQ, aRes, aResV, oneAV, AV.low, AV.low.lows, Nat.reduceAdd, isStringD, isSliceD, isBoolD, setRange, AV.cells, AV.isCell, AV.isAgg, abytes, aconv, aeq, isConst, isByteD, isIfaceD, endQ, Int.reduceToNat, Int.reduceLE, Int.reduceLT, Int.reduceEq, Int.reduceNe, Int.reduceAdd, Int.reduceSub, Int.reduceNeg, Nat.reduceLT, Nat.reduceLeDiff, Ent.ver, Ent.imm, Ent.ty, lits, isEl, newCells, aappend, Nat.reduceBEq, fill, undef, (st1), (st2), (st3), (st4), (st5), (st6), (st7), (st8)]; try simp (disch := omega) only [wrapI64, Int.toNat_natCast, ← Int.natCast_add, nat_add_one, nat_add_two, take_drop_all, List.drop_zero, Nat.sub_zero, Nat.add_sub_cancel_left])
        exact ⟨_, .agg (.cons (.refl _) (.cons (.refl _) (.cons (.refl _) (.cons .none (.cons .none .nil))))), rfl, by rw [← hG]; exact storeLow_set rfl, rfl⟩
      · have hr := hrow (by simp)
        (simp only [h, rowR, (vm1), (vm2), (vm3), (vm4), aDet, ev, tget, tput, ofC, ofC1, pureR, condR, abin, aun, alen, gslot, Nat.reduceEqDiff, reduceIte, argTs, asliceS, asliceL, bnd, boolV, intV, retQ, aRes, aResV, oneAV, AV.low, AV.low.lows, Nat.reduceAdd, isStringD, isSliceD, isBoolD, setRange, AV.cells, AV.isCell, AV.isAgg, abytes, aconv, aeq, isConst, isByteD, isIfaceD, endQ, Int.reduceToNat, Int.reduceLE, Int.reduceLT, Int.reduceEq, Int.reduceNe, Int.reduceAdd, Int.reduceSub, Int.reduceNeg, Nat.reduceLT, Nat.reduceLeDiff, Ent.ver, Ent.imm, Ent.ty, lits, isEl, newCells, aappend, Nat.reduceBEq, fill, undef, (st1), (st2), (st3), (st4), (st5), (st6), (st7), (st8)]; try simp (disch := omega) only [wrapI64, Int.toNat_natCast, ← Int.natCast_add, nat_add_one, nat_add_two, take_drop_all, List.drop_zero, Nat.sub_zero, Nat.add_sub_cancel_left])
        refine ⟨_, .agg (.cons (.refl _) (.cons (.refl _) (.cons (.refl _) (.cons .none (.cons (.rsl (ty := 31) (ver := r0.length) (imm := 0) (ag := true) (cells := (b0 :: r0).flatMap rtCells) (es := (b0 :: r0).map rtyV) (by omega) ?_ ?_ (by omega) (by simp) (by omega) (fun e he => by obtain ⟨x, _, rfl⟩ := List.mem_map.1 he; exact rtyV_el x) FrzL.refl) .nil))))), ?_, by rw [← hG]; exact storeLow_set rfl, ?_⟩
        · rw [hGl, Nat.add_sub_cancel_left]; exact hr
        · rw [List.drop_zero, List.flatMap_map]; rfl
        · have := rtysV_low σ.length (b0 :: r0)
          rw [rtysV_map] at this
          simp only [AV.low, AV.low.lows, this, Bool.and_true]
        · simp only [rtyV, rtysV_map, ivs, List.map_nil]

theorem laid_ok : ∀ (m : Nat) (t : Tr), SizeOf.sizeOf t ≤ m → LT t
  | 0, .mk d n us, h => by simp at h
  | m + 1, .mk d n us, h => laid_step d n us fun u hu => laid_ok m u (by
      have := List.sizeOf_lt_of_mem hu
      simp at h; omega)
end Go.D

/- A closed type with a place of its own everywhere. -/
set_option linter.unusedVariables false
set_option linter.unusedSimpArgs false
set_option maxRecDepth 100000
namespace Go.D
open Go Go.Vm Go.Proofs Go.RowKit

theorem set_l2 (σ : List Ent) (a b c x : Ent) : (σ ++ [a, b, c]).set (σ.length + 2) x = σ ++ [a, b, x] := by
  rw [List.set_append, if_neg (by omega)]; simp
def spreadV (t : Tr) (b : Nat) : AV :=
  if closedB t = true ∧ 1 ≤ b ∧ b ≤ 9999 ∧ (laidT t b).2 ≤ 10000 then .tup [rtyV (laidT t b).1, i64 (laidT t b).2, i64 0] else .tup [rtyV (.mk [] [] 0 [] []), i64 0, i64 70]

set_option maxHeartbeats 4000000 in
theorem Spread_ok (t : Tr) (b : Nat) (hl : lenT t) (hb : 1 ≤ b ∧ b ≤ 9999) (hc : closedB t = true) (hn : (laidT t b).2 ≤ 10000) (σ : List Ent) :
    ACalls E 40 [tyV t, i64 b] σ fun r τ => r = .tup [rtyV (laidT t b).1, i64 (laidT t b).2, i64 0] ∧ τ = σ := by
  refine xacalls T0 .freeze [] Tryz.func40 rfl (by kernel_rfl) (by kernel_rfl) (by simp [Tryz.ntmps40]) ?_
  have h1 := fun σ' => closed_ok t hl σ'
  have h2 := fun σ' id hid hm => laid_ok _ t (Nat.le_refl _) σ' id b hid hm hl
  have hsz : sizeT t ≤ 2000 := by have := ((closedB_iff t).1 hc).2.1; omega
  cases t with
  | mk dd nn us =>
  simp only [tyV] at h1 h2 ⊢
  (simp only [(vm1), (vm2), (vm3), (vm4), aDet, ev, tget, tput, ofC, ofC1, pureR, condR, abin, aun, alen, gslot, Nat.reduceEqDiff, reduceIte, argTs, asliceS, asliceL, bnd, boolV, intV, retQ, aRes, aResV, oneAV, AV.low, AV.low.lows, Nat.reduceAdd, isStringD, isSliceD, isBoolD, setRange, AV.cells, AV.isCell, AV.isAgg, abytes, aconv, aeq, isConst, isByteD, isIfaceD, endQ, Int.reduceToNat, Int.reduceLE, Int.reduceLT, Int.reduceEq, Int.reduceNe, Int.reduceAdd, Int.reduceSub, Int.reduceNeg, Nat.reduceLT, Nat.reduceLeDiff, Ent.ver, Ent.imm, Ent.ty, lits, isEl, newCells, aappend, Nat.reduceBEq, fill, undef, (st1), (st2), (st3), (st4), (st5), (st6), (st7), (st8)]; try simp (disch := omega) only [wrapI64, Int.toNat_natCast, ← Int.natCast_add, nat_add_one, nat_add_two, take_drop_all, List.drop_zero, Nat.sub_zero, Nat.add_sub_cancel_left])
  refine xWait.go (h1 _) ?_
  (simp only [hc, (vm1), (vm2), (vm3), (vm4), aDet, ev, tget, tput, ofC, ofC1, pureR, condR, abin, aun, alen, gslot, Nat.reduceEqDiff, reduceIte, argTs, asliceS, asliceL, bnd, boolV, intV, retQ, aRes, aResV, oneAV, AV.low, AV.low.lows, Nat.reduceAdd, isStringD, isSliceD, isBoolD, setRange, AV.cells, AV.isCell, AV.isAgg, abytes, aconv, aeq, isConst, isByteD, isIfaceD, endQ, Int.reduceToNat, Int.reduceLE, Int.reduceLT, Int.reduceEq, Int.reduceNe, Int.reduceAdd, Int.reduceSub, Int.reduceNeg, Nat.reduceLT, Nat.reduceLeDiff, Ent.ver, Ent.imm, Ent.ty, lits, isEl, newCells, aappend, Nat.reduceBEq, fill, undef, (st1), (st2), (st3), (st4), (st5), (st6), (st7), (st8)]; try simp (disch := omega) only [wrapI64, Int.toNat_natCast, ← Int.natCast_add, nat_add_one, nat_add_two, take_drop_all, List.drop_zero, Nat.sub_zero, Nat.add_sub_cancel_left])
  refine xWait.go (isBound_ok _ _) ?_
  have e1 : (decide ((1 : Int) ≤ b) && decide ((b : Int) ≤ 9999)) = true := by simp only [Bool.and_eq_true, decide_eq_true_eq]; omega
  (simp only [e1, (vm1), (vm2), (vm3), (vm4), aDet, ev, tget, tput, ofC, ofC1, pureR, condR, abin, aun, alen, gslot, Nat.reduceEqDiff, reduceIte, argTs, asliceS, asliceL, bnd, boolV, intV, retQ, aRes, aResV, oneAV, AV.low, AV.low.lows, Nat.reduceAdd, isStringD, isSliceD, isBoolD, setRange, AV.cells, AV.isCell, AV.isAgg, abytes, aconv, aeq, isConst, isByteD, isIfaceD, endQ, Int.reduceToNat, Int.reduceLE, Int.reduceLT, Int.reduceEq, Int.reduceNe, Int.reduceAdd, Int.reduceSub, Int.reduceNeg, Nat.reduceLT, Nat.reduceLeDiff, Ent.ver, Ent.imm, Ent.ty, lits, isEl, newCells, aappend, Nat.reduceBEq, fill, undef, (st1), (st2), (st3), (st4), (st5), (st6), (st7), (st8)]; try simp (disch := omega) only [wrapI64, Int.toNat_natCast, ← Int.natCast_add, nat_add_one, nat_add_two, take_drop_all, List.drop_zero, Nat.sub_zero, Nat.add_sub_cancel_left])
  rcases hr : laidT (.mk dd nn us) b with ⟨⟨d3, n3, a3, e3, us3⟩, nx⟩
  simp only [hr] at h2 hn ⊢
  simp only [rtyV] at h2 ⊢
  refine xWait.go (h2 _ (σ.length + 2) (by simp) (by omega)) ?_
  rw [set_l2]
  (simp only [(vm1), (vm2), (vm3), (vm4), aDet, ev, tget, tput, ofC, ofC1, pureR, condR, abin, aun, alen, gslot, Nat.reduceEqDiff, reduceIte, argTs, asliceS, asliceL, bnd, boolV, intV, retQ, aRes, aResV, oneAV, AV.low, AV.low.lows, Nat.reduceAdd, isStringD, isSliceD, isBoolD, setRange, AV.cells, AV.isCell, AV.isAgg, abytes, aconv, aeq, isConst, isByteD, isIfaceD, endQ, Int.reduceToNat, Int.reduceLE, Int.reduceLT, Int.reduceEq, Int.reduceNe, Int.reduceAdd, Int.reduceSub, Int.reduceNeg, Nat.reduceLT, Nat.reduceLeDiff, Ent.ver, Ent.imm, Ent.ty, lits, isEl, newCells, aappend, Nat.reduceBEq, fill, undef, (st1), (st2), (st3), (st4), (st5), (st6), (st7), (st8)]; try simp (disch := omega) only [wrapI64, Int.toNat_natCast, ← Int.natCast_add, nat_add_one, nat_add_two, take_drop_all, List.drop_zero, Nat.sub_zero, Nat.add_sub_cancel_left])
  have hw : ¬ (9999 : Int) < (nx : Int) - 1 := by omega
  (simp only [hw, (vm1), (vm2), (vm3), (vm4), aDet, ev, tget, tput, ofC, ofC1, pureR, condR, abin, aun, alen, gslot, Nat.reduceEqDiff, reduceIte, argTs, asliceS, asliceL, bnd, boolV, intV, retQ, aRes, aResV, oneAV, AV.low, AV.low.lows, Nat.reduceAdd, isStringD, isSliceD, isBoolD, setRange, AV.cells, AV.isCell, AV.isAgg, abytes, aconv, aeq, isConst, isByteD, isIfaceD, endQ, Int.reduceToNat, Int.reduceLE, Int.reduceLT, Int.reduceEq, Int.reduceNe, Int.reduceAdd, Int.reduceSub, Int.reduceNeg, Nat.reduceLT, Nat.reduceLeDiff, Ent.ver, Ent.imm, Ent.ty, lits, isEl, newCells, aappend, Nat.reduceBEq, fill, undef, (st1), (st2), (st3), (st4), (st5), (st6), (st7), (st8)]; try simp (disch := omega) only [wrapI64, Int.toNat_natCast, ← Int.natCast_add, nat_add_one, nat_add_two, take_drop_all, List.drop_zero, Nat.sub_zero, Nat.add_sub_cancel_left])
  refine zdraw T0 ⟨[], [2], [1], some [2]⟩ (by kernel_rfl) (by kernel_rfl) (by kernel_rfl) (by kernel_rfl) ?_
  (simp only [zDraw_nil,zDraw_go,zDraw_if,zSlot_some,zGuard_tt,zGuard_ff,zGuard_tf,zGuard_ft,zGuard_un,zOut_some,zOut_pure,zOut_cond,zNext_move,zNext_assign,zNext_buildSlice,zNext_load,zNext_store,zNext_builtin,zNext_fieldAddr, (vm1), (vm2), (vm3), (vm4), aDet, ev, tget, tput, ofC, ofC1, pureR, condR, abin, aun, alen, gslot, Nat.reduceEqDiff, reduceIte, argTs, asliceS, asliceL, bnd, boolV, intV, retQ, aRes, aResV, oneAV, AV.low, AV.low.lows, Nat.reduceAdd, isStringD, isSliceD, isBoolD, setRange, AV.cells, AV.isCell, AV.isAgg, abytes, aconv, aeq, isConst, isByteD, isIfaceD, endQ, Int.reduceToNat, Int.reduceLE, Int.reduceLT, Int.reduceEq, Int.reduceNe, Int.reduceAdd, Int.reduceSub, Int.reduceNeg, Nat.reduceLT, Nat.reduceLeDiff, Ent.ver, Ent.imm, Ent.ty, lits, isEl, newCells, aappend, Nat.reduceBEq, fill, undef, (st1), (st2), (st3), (st4), (st5), (st6), (st7), (st8)]; try simp (disch := omega) only [wrapI64, Int.toNat_natCast, ← Int.natCast_add, nat_add_one, nat_add_two, take_drop_all, List.drop_zero, Nat.sub_zero, Nat.add_sub_cancel_left])
  refine zNext.looseS (r := i64 nx) rfl rfl rfl rfl (fun g' l' hg' hl' => ⟨True, trivial, ?_⟩) ?_
  · have hl2 := hl' 2 (by simp)
    have hs : sget g' l' (σ.length + 2) = some (.arr 3 [i64 nx] 0 0) := by unfold sget; rw [hg', if_neg (by omega), Nat.add_sub_cancel_left, hl2]; rfl
    (simp only [hs, (vm1), (vm2), (vm3), (vm4), aDet, ev, tget, tput, ofC, ofC1, pureR, condR, abin, aun, alen, gslot, Nat.reduceEqDiff, reduceIte, argTs, asliceS, asliceL, bnd, boolV, intV, retQ, aRes, aResV, oneAV, AV.low, AV.low.lows, Nat.reduceAdd, isStringD, isSliceD, isBoolD, setRange, AV.cells, AV.isCell, AV.isAgg, abytes, aconv, aeq, isConst, isByteD, isIfaceD, endQ, Int.reduceToNat, Int.reduceLE, Int.reduceLT, Int.reduceEq, Int.reduceNe, Int.reduceAdd, Int.reduceSub, Int.reduceNeg, Nat.reduceLT, Nat.reduceLeDiff, Ent.ver, Ent.imm, Ent.ty, lits, isEl, newCells, aappend, Nat.reduceBEq, fill, undef, (st1), (st2), (st3), (st4), (st5), (st6), (st7), (st8)]; try simp (disch := omega) only [wrapI64, Int.toNat_natCast, ← Int.natCast_add, nat_add_one, nat_add_two, take_drop_all, List.drop_zero, Nat.sub_zero, Nat.add_sub_cancel_left])
  (simp only [zDraw_nil,zDraw_go,zDraw_if,zSlot_some,zGuard_tt,zGuard_ff,zGuard_tf,zGuard_ft,zGuard_un,zOut_some,zOut_pure,zOut_cond,zNext_move,zNext_assign,zNext_buildSlice,zNext_load,zNext_store,zNext_builtin,zNext_fieldAddr, (vm1), (vm2), (vm3), (vm4), aDet, ev, tget, tput, ofC, ofC1, pureR, condR, abin, aun, alen, gslot, Nat.reduceEqDiff, reduceIte, argTs, asliceS, asliceL, bnd, boolV, intV, retQ, aRes, aResV, oneAV, AV.low, AV.low.lows, Nat.reduceAdd, isStringD, isSliceD, isBoolD, setRange, AV.cells, AV.isCell, AV.isAgg, abytes, aconv, aeq, isConst, isByteD, isIfaceD, endQ, Int.reduceToNat, Int.reduceLE, Int.reduceLT, Int.reduceEq, Int.reduceNe, Int.reduceAdd, Int.reduceSub, Int.reduceNeg, Nat.reduceLT, Nat.reduceLeDiff, Ent.ver, Ent.imm, Ent.ty, lits, isEl, newCells, aappend, Nat.reduceBEq, fill, undef, (st1), (st2), (st3), (st4), (st5), (st6), (st7), (st8)]; try simp (disch := omega) only [wrapI64, Int.toNat_natCast, ← Int.natCast_add, nat_add_one, nat_add_two, take_drop_all, List.drop_zero, Nat.sub_zero, Nat.add_sub_cancel_left])
  refine zNext.softS rfl rfl rfl (by (simp only [(vm1), (vm2), (vm3), (vm4), aDet, ev, tget, tput, ofC, ofC1, pureR, condR, abin, aun, alen, gslot, Nat.reduceEqDiff, reduceIte, argTs, asliceS, asliceL, bnd, boolV, intV, retQ, aRes, aResV, oneAV, AV.low, AV.low.lows, Nat.reduceAdd, isStringD, isSliceD, isBoolD, setRange, AV.cells, AV.isCell, AV.isAgg, abytes, aconv, aeq, isConst, isByteD, isIfaceD, endQ, Int.reduceToNat, Int.reduceLE, Int.reduceLT, Int.reduceEq, Int.reduceNe, Int.reduceAdd, Int.reduceSub, Int.reduceNeg, Nat.reduceLT, Nat.reduceLeDiff, Ent.ver, Ent.imm, Ent.ty, lits, isEl, newCells, aappend, Nat.reduceBEq, fill, undef, (st1), (st2), (st3), (st4), (st5), (st6), (st7), (st8)]; try simp (disch := omega) only [wrapI64, Int.toNat_natCast, ← Int.natCast_add, nat_add_one, nat_add_two, take_drop_all, List.drop_zero, Nat.sub_zero, Nat.add_sub_cancel_left]); exact rfl) ?_ ?_ ?_ ?_
  · trivial
  · rfl
  · intro n hn
    obtain rfl : n = 2 := by simpa using hn
    simp
  (simp only [zDraw_nil,zDraw_go,zDraw_if,zSlot_some,zGuard_tt,zGuard_ff,zGuard_tf,zGuard_ft,zGuard_un,zOut_some,zOut_pure,zOut_cond,zNext_move,zNext_assign,zNext_buildSlice,zNext_load,zNext_store,zNext_builtin,zNext_fieldAddr, (vm1), (vm2), (vm3), (vm4), aDet, ev, tget, tput, ofC, ofC1, pureR, condR, abin, aun, alen, gslot, Nat.reduceEqDiff, reduceIte, argTs, asliceS, asliceL, bnd, boolV, intV, retQ, aRes, aResV, oneAV, AV.low, AV.low.lows, Nat.reduceAdd, isStringD, isSliceD, isBoolD, setRange, AV.cells, AV.isCell, AV.isAgg, abytes, aconv, aeq, isConst, isByteD, isIfaceD, endQ, Int.reduceToNat, Int.reduceLE, Int.reduceLT, Int.reduceEq, Int.reduceNe, Int.reduceAdd, Int.reduceSub, Int.reduceNeg, Nat.reduceLT, Nat.reduceLeDiff, Ent.ver, Ent.imm, Ent.ty, lits, isEl, newCells, aappend, Nat.reduceBEq, fill, undef, (st1), (st2), (st3), (st4), (st5), (st6), (st7), (st8)]; try simp (disch := omega) only [wrapI64, Int.toNat_natCast, ← Int.natCast_add, nat_add_one, nat_add_two, take_drop_all, List.drop_zero, Nat.sub_zero, Nat.add_sub_cancel_left])
  exact ⟨_, .refl _, by simp only [AV.low, AV.low.lows, ivs_low, rtysV_low, Bool.and_self], rfl⟩
end Go.D

/- The example: a list of pairs laid out, and its text. -/
set_option linter.unusedVariables false
set_option linter.unusedSimpArgs false
set_option maxRecDepth 100000
namespace Go.D
open Go Go.Vm Go.Proofs Go.RowKit

def exT : Tr := .mk kiList [] [.mk kiPair [] [.mk kiInt [] [], .mk kiText [] []]]
def exR : RTr := .mk kiList [] 3 [] [.mk kiPair [] 4 [] [.mk kiInt [] 0 [] [], .mk kiText [] 5 [] []]]
theorem ex_laid : laidT exT 3 = (exR, 6) := by
  simp [exT, exR, laidT, laidTs, shapeB, kiList, kiPair, kiInt, kiText, kiBool, kiUnit, kiData, kiArray]
theorem ex_closed : closedB exT = true := by decide +kernel
theorem ex_valid : validB' exR = true := by decide +kernel
def exS : List UInt8 := [40,40,105,110,116,32,42,32,116,101,120,116,64,53,41,64,52,32,108,105,115,116,41,64,51]
theorem ex_text : fmtT exR = exS := by decide +kernel
theorem ex_len : lenT exT := by simp [exT, lenT, lenTs]
theorem ex_lenR : lenR exR := by simp [exR, lenR, lenRs]

set_option maxHeartbeats 4000000 in
theorem awake_ok : AwakeOK := by
  intro σ
  refine xacalls T0 .drop [] Tryz.func15 rfl (by kernel_rfl) (by kernel_rfl) (by simp [Tryz.ntmps15]) ?_
  (simp only [(vm1), (vm2), (vm3), (vm4), aDet, ev, tget, tput, ofC, ofC1, pureR, condR, abin, aun, alen, gslot, Nat.reduceEqDiff, reduceIte, argTs, asliceS, asliceL, bnd, boolV, intV, retQ, aRes, aResV, oneAV, AV.low, AV.low.lows, Nat.reduceAdd, isStringD, isSliceD, isBoolD, setRange, AV.cells, AV.isCell, AV.isAgg, abytes, aconv, aeq, isConst, isByteD, isIfaceD, endQ, Int.reduceToNat, Int.reduceLE, Int.reduceLT, Int.reduceEq, Int.reduceNe, Int.reduceAdd, Int.reduceSub, Int.reduceNeg, Nat.reduceLT, Nat.reduceLeDiff, Ent.ver, Ent.imm, Ent.ty, lits, isEl, newCells, aappend, Nat.reduceBEq, fill, undef, (st1), (st2), (st3), (st4), (st5), (st6), (st7), (st8)]; try simp (disch := omega) only [wrapI64, Int.toNat_natCast, ← Int.natCast_add, nat_add_one, nat_add_two, take_drop_all, List.drop_zero, Nat.sub_zero, Nat.add_sub_cancel_left])
  have hs := fun σ' => Spread_ok exT 3 ex_len (by omega) ex_closed (by rw [ex_laid]; omega) σ'
  simp only [ex_laid] at hs
  simp only [exT, tyV, tysV] at hs
  refine xWait.wk ?_ (xWait.go (hs _) ?_)
  · repeat' first | exact .nil | exact .refl _ | exact WkL.nil | apply Wk.agg | apply Wk.sl | apply WkL.cons
  have hF := fun σ' => FormatType_ok exR ex_lenR σ'
  simp only [ex_valid, if_true, ex_text] at hF
  simp only [exR, rtyV, rtysV] at hF
  (simp only [exR, rtyV, rtysV, (vm1), (vm2), (vm3), (vm4), aDet, ev, tget, tput, ofC, ofC1, pureR, condR, abin, aun, alen, gslot, Nat.reduceEqDiff, reduceIte, argTs, asliceS, asliceL, bnd, boolV, intV, retQ, aRes, aResV, oneAV, AV.low, AV.low.lows, Nat.reduceAdd, isStringD, isSliceD, isBoolD, setRange, AV.cells, AV.isCell, AV.isAgg, abytes, aconv, aeq, isConst, isByteD, isIfaceD, endQ, Int.reduceToNat, Int.reduceLE, Int.reduceLT, Int.reduceEq, Int.reduceNe, Int.reduceAdd, Int.reduceSub, Int.reduceNeg, Nat.reduceLT, Nat.reduceLeDiff, Ent.ver, Ent.imm, Ent.ty, lits, isEl, newCells, aappend, Nat.reduceBEq, fill, undef, (st1), (st2), (st3), (st4), (st5), (st6), (st7), (st8)]; try simp (disch := omega) only [wrapI64, Int.toNat_natCast, ← Int.natCast_add, nat_add_one, nat_add_two, take_drop_all, List.drop_zero, Nat.sub_zero, Nat.add_sub_cancel_left])
  refine xWait.go (hF _) ?_
  (simp only [exS, (vm1), (vm2), (vm3), (vm4), aDet, ev, tget, tput, ofC, ofC1, pureR, condR, abin, aun, alen, gslot, Nat.reduceEqDiff, reduceIte, argTs, asliceS, asliceL, bnd, boolV, intV, retQ, aRes, aResV, oneAV, AV.low, AV.low.lows, Nat.reduceAdd, isStringD, isSliceD, isBoolD, setRange, AV.cells, AV.isCell, AV.isAgg, abytes, aconv, aeq, isConst, isByteD, isIfaceD, endQ, Int.reduceToNat, Int.reduceLE, Int.reduceLT, Int.reduceEq, Int.reduceNe, Int.reduceAdd, Int.reduceSub, Int.reduceNeg, Nat.reduceLT, Nat.reduceLeDiff, Ent.ver, Ent.imm, Ent.ty, lits, isEl, newCells, aappend, Nat.reduceBEq, fill, undef, (st1), (st2), (st3), (st4), (st5), (st6), (st7), (st8)]; try simp (disch := omega) only [wrapI64, Int.toNat_natCast, ← Int.natCast_add, nat_add_one, nat_add_two, take_drop_all, List.drop_zero, Nat.sub_zero, Nat.add_sub_cancel_left])
end Go.D
