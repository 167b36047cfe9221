/- The machine of a Replacer at work. -/
import Derived.Test.YtikjefmoclienaaGreatDoorFnQ
import Derived.Test.YtikjefmoclienaaGreatDoorPlainA
set_option linter.unusedVariables false
set_option linter.unusedSimpArgs false
set_option maxRecDepth 100000
namespace Go.D
open Go Go.Vm Go.Proofs Go.RowKit

theorem tb3_at (b : UInt8) (r : List AV) : (tb 3 ++ r)[b.toNat]? = some (if sp b = true then .sl ((qb b).map byteAV) else .v (.slice none 0 0)) := by
  refine tb_get b.toNat_lt ?_ r
  have e34 : b = 34 ↔ b.toNat = 34 := ⟨fun h => by rw [h]; rfl, fun h => UInt8.toNat_inj.1 h⟩
  have e10 : b = 10 ↔ b.toNat = 10 := ⟨fun h => by rw [h]; rfl, fun h => UInt8.toNat_inj.1 h⟩
  have e92 : b = 92 ↔ b.toNat = 92 := ⟨fun h => by rw [h]; rfl, fun h => UInt8.toNat_inj.1 h⟩
  have hlt := b.toNat_lt
  simp only [tb, slot, prs, List.take, List.foldl, List.getElem?_set, List.length_set, List.length_replicate, List.getElem?_replicate, sp, qb, Bool.or_eq_true, decide_eq_true_eq, e34, e10, e92]
  by_cases h1 : b.toNat = 34
  · simp [h1]
  · by_cases h2 : b.toNat = 10
    · simp [h2]
    · by_cases h3 : b.toNat = 92
      · simp [h3]
      · rw [if_neg (by omega), if_neg (by omega), if_neg (by omega), if_pos (by omega), if_neg (by omega)]

theorem setRange_mid : ∀ (cs pre cells post : List AV), cells.length = cs.length → setRange (pre ++ cells ++ post) pre.length cs = pre ++ cs ++ post
  | [], pre, cells, post, h => by obtain rfl : cells = [] := by simpa using h
                                  rfl
  | c :: cs, pre, [], post, h => by simp at h
  | c :: cs, pre, d :: cells, post, h => by
    have := setRange_mid cs (pre ++ [c]) cells post (by simpa using h)
    unfold setRange
    rw [show (pre ++ d :: cells ++ post).set pre.length c = (pre ++ [c]) ++ cells ++ post by simp]
    simpa using this
/-- A buffer, filled from its left. -/
def buf (N : Nat) (q : List UInt8) : List AV := q.map byteAV ++ List.replicate (N - q.length) (u8 0)
theorem buf_put (N : Nat) (q x : List UInt8) (h : q.length + x.length ≤ N) : setRange (buf N q) q.length (x.map byteAV) = buf N (q ++ x) := by
  unfold buf
  have h1 : List.replicate (N - q.length) (u8 0) = List.replicate x.length (u8 0) ++ List.replicate (N - (q ++ x).length) (u8 0) := by
    rw [List.replicate_append_replicate]; congr 1; simp; omega
  have := setRange_mid (x.map byteAV) (q.map byteAV) (List.replicate x.length (u8 0)) (List.replicate (N - (q ++ x).length) (u8 0)) (by simp)
  rw [List.length_map] at this
  rw [h1, ← List.append_assoc, this, List.map_append]
theorem buf_len (N : Nat) (q : List UInt8) (h : q.length ≤ N) : (buf N q).length = N := by unfold buf; simp; omega
theorem buf_full (q : List UInt8) : buf q.length q = q.map byteAV := by unfold buf; simp

theorem work_ok (l : List UInt8) (hl : l.length ≤ 1099511627776) (σ : List Ent) (m k : Nat) (hk : σ[k]? = some (.arr 9 [.str [34], .str [10], .str [92]] 3 0)) (hm : σ[m]? = some (.arr 147 (tb 3 ++ [.rsl k 3 0 3 1]) 0 0)) :
    ACalls E 189 [.ref m 0 0, .str l] σ fun r τ => r = .str (quoteS l) ∧ τ = σ := by
  have gk : ∀ l, sget σ l k = some (.arr 9 [.str [34], .str [10], .str [92]] 3 0) := fun l => by unfold sget; rw [if_pos (lt_of_get hk), hk]
  have gm : ∀ l, sget σ l m = some (.arr 147 (tb 3 ++ [.rsl k 3 0 3 1]) 0 0) := fun l => by unfold sget; rw [if_pos (lt_of_get hm), hm]
  refine xacalls T0 .drop [] Tryz.func189 rfl (by kernel_rfl) (by kernel_rfl) (by simp [Tryz.ntmps189]) ?_
  (simp only [gk, gm, tab_147, tab_145, tb_end, wrapI64, (vm1), (vm2), (vm3), (vm4), aDet, ev, tget, tput, ofC, ofC1, pureR, condR, abin, aun, alen, gslot, Nat.reduceEqDiff, reduceIte, argTs, asliceS, asliceL, bnd, boolV, intV, retQ, aRes, aResV, oneAV, AV.low, AV.low.lows, Nat.reduceAdd, isStringD, isSliceD, isBoolD, setRange, AV.cells, AV.isCell, AV.isAgg, abytes, aconv, aeq, isConst, isByteD, isIfaceD, endQ, Int.reduceToNat, Int.reduceLE, Int.reduceLT, Int.reduceEq, Int.reduceNe, Int.reduceAdd, Int.reduceSub, Int.reduceNeg, Nat.reduceLT, Nat.reduceLeDiff, Ent.ver, Ent.imm, Ent.ty, lits, isEl, newCells, aappend, Nat.reduceBEq, fill, undef, (st1), (st2), (st3), (st4), (st5)]; try simp (disch := omega) only [wrapI64, Int.toNat_natCast, ← Int.natCast_add, nat_add_one, nat_add_two, take_drop_all, List.drop_zero, Nat.sub_zero, Nat.add_sub_cancel_left])
  refine xCond.cut (.cut (fun ts g l' => Sub ts [(0, .ref m 0 0), (1, .str l), (5, i64 ((quoteS l).length)), (6, boolV (decide (0 < l.countP sp)))] ∧ g = σ ∧ l' = []) ?_) ?_
  · rintro ts g l' ⟨hts, rfl, rfl⟩
    simp only [sub_cons, sub_nil, and_true] at hts
    obtain ⟨h0, h1, h5, h6⟩ := hts
    have hql := quoteS_len l
    have hc := List.countP_le_length (p := sp) (l := l)
    by_cases hp : 0 < l.countP sp
    · (simp only [h0, h1, h5, h6, hp, (vm1), (vm2), (vm3), (vm4), aDet, ev, tget, tput, ofC, ofC1, pureR, condR, abin, aun, alen, gslot, Nat.reduceEqDiff, reduceIte, argTs, asliceS, asliceL, bnd, boolV, intV, retQ, aRes, aResV, oneAV, AV.low, AV.low.lows, Nat.reduceAdd, isStringD, isSliceD, isBoolD, setRange, AV.cells, AV.isCell, AV.isAgg, abytes, aconv, aeq, isConst, isByteD, isIfaceD, endQ, Int.reduceToNat, Int.reduceLE, Int.reduceLT, Int.reduceEq, Int.reduceNe, Int.reduceAdd, Int.reduceSub, Int.reduceNeg, Nat.reduceLT, Nat.reduceLeDiff, Ent.ver, Ent.imm, Ent.ty, lits, isEl, newCells, aappend, Nat.reduceBEq, fill, undef, (st1), (st2), (st3), (st4), (st5)]; try simp (disch := omega) only [wrapI64, Int.toNat_natCast, ← Int.natCast_add, nat_add_one, nat_add_two, take_drop_all, List.drop_zero, Nat.sub_zero, Nat.add_sub_cancel_left])
      refine ⟨by unfold maxRoom; omega, ?_⟩
      generalize hN : (quoteS l).length = N at *
      refine xloop (α := Nat) T0 (fun i => [(14, i64 i), (13, i64 (quoteS (l.take i)).length), (12, .rsl g.length 0 0 N 1), (0, .ref m 0 0), (1, .str l)])
        (fun _ => g) (fun i => [.arr 5 (buf N (quoteS (l.take i))) 0 0]) (fun i => i ≤ l.length) (fun i => l.length - i) (by kernel_rfl) ⟨0, by simp, by (simp only [h0, h1, (vm1), (vm2), (vm3), (vm4), aDet, ev, tget, tput, ofC, ofC1, pureR, condR, abin, aun, alen, gslot, Nat.reduceEqDiff, reduceIte, argTs, asliceS, asliceL, bnd, boolV, intV, retQ, aRes, aResV, oneAV, AV.low, AV.low.lows, Nat.reduceAdd, isStringD, isSliceD, isBoolD, setRange, AV.cells, AV.isCell, AV.isAgg, abytes, aconv, aeq, isConst, isByteD, isIfaceD, endQ, Int.reduceToNat, Int.reduceLE, Int.reduceLT, Int.reduceEq, Int.reduceNe, Int.reduceAdd, Int.reduceSub, Int.reduceNeg, Nat.reduceLT, Nat.reduceLeDiff, Ent.ver, Ent.imm, Ent.ty, lits, isEl, newCells, aappend, Nat.reduceBEq, fill, undef, (st1), (st2), (st3), (st4), (st5), Int.natCast_zero]; try simp (disch := omega) only [wrapI64, Int.toNat_natCast, ← Int.natCast_add, nat_add_one, nat_add_two, take_drop_all, List.drop_zero, Nat.sub_zero, Nat.add_sub_cancel_left]); simp [quoteS], rfl, by simp [quoteS, buf]⟩ ?_
      intro i hi
      have hle := quoteS_le l i
      rw [hN] at hle
      by_cases h : (i : Int) < l.length
      · have ht := quoteS_take l i (by omega)
        have hle2 := quoteS_le l (i + 1)
        rw [hN, ht, List.length_append] at hle2
        (simp only [h, gk, gm, tab_147, tab_145, tb_end, tb3_at, wrapI64, Int.reduceMul, (vm1), (vm2), (vm3), (vm4), aDet, ev, tget, tput, ofC, ofC1, pureR, condR, abin, aun, alen, gslot, Nat.reduceEqDiff, reduceIte, argTs, asliceS, asliceL, bnd, boolV, intV, retQ, aRes, aResV, oneAV, AV.low, AV.low.lows, Nat.reduceAdd, isStringD, isSliceD, isBoolD, setRange, AV.cells, AV.isCell, AV.isAgg, abytes, aconv, aeq, isConst, isByteD, isIfaceD, endQ, Int.reduceToNat, Int.reduceLE, Int.reduceLT, Int.reduceEq, Int.reduceNe, Int.reduceAdd, Int.reduceSub, Int.reduceNeg, Nat.reduceLT, Nat.reduceLeDiff, Ent.ver, Ent.imm, Ent.ty, lits, isEl, newCells, aappend, Nat.reduceBEq, fill, undef, (st1), (st2), (st3), (st4), (st5)]; try simp (disch := omega) only [wrapI64, Int.toNat_natCast, ← Int.natCast_add, nat_add_one, nat_add_two, take_drop_all, List.drop_zero, Nat.sub_zero, Nat.add_sub_cancel_left])
        have hb := (l.getD i 0).toNat_lt
        refine ⟨by omega, ?_⟩
        by_cases hsp : sp (l.getD i 0) = true
        · have hq : (qb (l.getD i 0)).length = 2 := by rw [qb_len, if_pos hsp]
          (simp only [hsp, gk, gm, tab_147, tab_145, tb_end, tb3_at, wrapI64, Int.reduceMul, List.length_map, hq, (vm1), (vm2), (vm3), (vm4), aDet, ev, tget, tput, ofC, ofC1, pureR, condR, abin, aun, alen, gslot, Nat.reduceEqDiff, reduceIte, argTs, asliceS, asliceL, bnd, boolV, intV, retQ, aRes, aResV, oneAV, AV.low, AV.low.lows, Nat.reduceAdd, isStringD, isSliceD, isBoolD, setRange, AV.cells, AV.isCell, AV.isAgg, abytes, aconv, aeq, isConst, isByteD, isIfaceD, endQ, Int.reduceToNat, Int.reduceLE, Int.reduceLT, Int.reduceEq, Int.reduceNe, Int.reduceAdd, Int.reduceSub, Int.reduceNeg, Nat.reduceLT, Nat.reduceLeDiff, Ent.ver, Ent.imm, Ent.ty, lits, isEl, newCells, aappend, Nat.reduceBEq, fill, undef, (st1), (st2), (st3), (st4), (st5)]; try simp (disch := omega) only [wrapI64, Int.toNat_natCast, ← Int.natCast_add, nat_add_one, nat_add_two, take_drop_all, List.drop_zero, Nat.sub_zero, Nat.add_sub_cancel_left])
          refine ⟨fun e => ?_, ?_⟩
          · have := congrArg List.length e
            rw [List.length_map, hq] at this; simp at this
          refine ydraw T0 [10] (by kernel_rfl) (by kernel_rfl) (by kernel_rfl) (by kernel_rfl) ?_
          (simp only [hsp, gk, gm, tab_147, tab_145, tb_end, tb3_at, wrapI64, Int.reduceMul, List.length_map, hq, (vm1), (vm2), (vm3), (vm4), aDet, ev, tget, tput, ofC, ofC1, pureR, condR, abin, aun, alen, gslot, Nat.reduceEqDiff, reduceIte, argTs, asliceS, asliceL, bnd, boolV, intV, retQ, aRes, aResV, oneAV, AV.low, AV.low.lows, Nat.reduceAdd, isStringD, isSliceD, isBoolD, setRange, AV.cells, AV.isCell, AV.isAgg, abytes, aconv, aeq, isConst, isByteD, isIfaceD, endQ, Int.reduceToNat, Int.reduceLE, Int.reduceLT, Int.reduceEq, Int.reduceNe, Int.reduceAdd, Int.reduceSub, Int.reduceNeg, Nat.reduceLT, Nat.reduceLeDiff, Ent.ver, Ent.imm, Ent.ty, lits, isEl, newCells, aappend, Nat.reduceBEq, fill, undef, (st1), (st2), (st3), (st4), (st5)]; try simp (disch := omega) only [wrapI64, Int.toNat_natCast, ← Int.natCast_add, nat_add_one, nat_add_two, take_drop_all, List.drop_zero, Nat.sub_zero, Nat.add_sub_cancel_left])
          rw [hq] at hle2
          have hmin : min (N - (quoteS (l.take i)).length) 2 = 2 := by omega
          rw [hmin, show ((qb (l.getD i 0)).map byteAV).take 2 = (qb (l.getD i 0)).map byteAV from List.take_of_length_le (by rw [List.length_map, hq]; exact Nat.le_refl _)]
          refine ⟨by omega, by omega, ⟨by omega, ?_, by omega, fun x hx => ?_⟩, i + 1, by omega, by omega, ⟨rfl, ?_⟩, ?_⟩
          · rw [buf_len N _ hle]; omega
          · obtain ⟨b, _, rfl⟩ := List.mem_map.1 hx; rfl
          · rw [ht, List.length_append, hq]
          · rw [buf_put N _ _ (by omega), ht]
        · (simp only [hsp, gk, gm, tab_147, tab_145, tb_end, tb3_at, wrapI64, Int.reduceMul, (vm1), (vm2), (vm3), (vm4), aDet, ev, tget, tput, ofC, ofC1, pureR, condR, abin, aun, alen, gslot, Nat.reduceEqDiff, reduceIte, argTs, asliceS, asliceL, bnd, boolV, intV, retQ, aRes, aResV, oneAV, AV.low, AV.low.lows, Nat.reduceAdd, isStringD, isSliceD, isBoolD, setRange, AV.cells, AV.isCell, AV.isAgg, abytes, aconv, aeq, isConst, isByteD, isIfaceD, endQ, Int.reduceToNat, Int.reduceLE, Int.reduceLT, Int.reduceEq, Int.reduceNe, Int.reduceAdd, Int.reduceSub, Int.reduceNeg, Nat.reduceLT, Nat.reduceLeDiff, Ent.ver, Ent.imm, Ent.ty, lits, isEl, newCells, aappend, Nat.reduceBEq, fill, undef, (st1), (st2), (st3), (st4), (st5)]; try simp (disch := omega) only [wrapI64, Int.toNat_natCast, ← Int.natCast_add, nat_add_one, nat_add_two, take_drop_all, List.drop_zero, Nat.sub_zero, Nat.add_sub_cancel_left])
          have hq : (qb (l.getD i 0)) = [l.getD i 0] := by
            unfold sp at hsp
            simp only [Bool.or_eq_true, decide_eq_true_eq, not_or] at hsp
            unfold qb; rw [if_neg hsp.1.1, if_neg hsp.1.2, if_neg hsp.2]
          rw [hq] at hle2 ht
          simp only [List.length_singleton] at hle2
          have hput := buf_put N (quoteS (l.take i)) [l.getD i 0] (by simpa using hle2)
          refine ⟨by omega, ⟨by omega, ?_⟩, i + 1, by omega, by omega, ⟨rfl, ?_⟩, ?_⟩
          · rw [buf_len N _ hle]; omega
          · rw [ht, List.length_append]; rfl
          · rw [ht, ← hput]; rfl
      · have hti : l.take i = l := List.take_of_length_le (by omega)
        have hbf : buf N (quoteS l) = (quoteS l).map byteAV := by rw [← hN, buf_full]
        have hln : ((quoteS l).map byteAV).length = N := by rw [List.length_map, hN]
        (simp only [h, hti, hbf, List.take_of_length_le (Nat.le_of_eq hln), avBytes_map, Option.map_some, Option.bind_some, Tryz.results189, gk, gm, tab_147, tab_145, tb_end, wrapI64, Int.reduceMul, (vm1), (vm2), (vm3), (vm4), aDet, ev, tget, tput, ofC, ofC1, pureR, condR, abin, aun, alen, gslot, Nat.reduceEqDiff, reduceIte, argTs, asliceS, asliceL, bnd, boolV, intV, retQ, aRes, aResV, oneAV, AV.low, AV.low.lows, Nat.reduceAdd, isStringD, isSliceD, isBoolD, setRange, AV.cells, AV.isCell, AV.isAgg, abytes, aconv, aeq, isConst, isByteD, isIfaceD, endQ, Int.reduceToNat, Int.reduceLE, Int.reduceLT, Int.reduceEq, Int.reduceNe, Int.reduceAdd, Int.reduceSub, Int.reduceNeg, Nat.reduceLT, Nat.reduceLeDiff, Ent.ver, Ent.imm, Ent.ty, lits, isEl, newCells, aappend, Nat.reduceBEq, fill, undef, (st1), (st2), (st3), (st4), (st5)]; try simp (disch := omega) only [wrapI64, Int.toNat_natCast, ← Int.natCast_add, nat_add_one, nat_add_two, take_drop_all, List.drop_zero, Nat.sub_zero, Nat.add_sub_cancel_left])
        exact ⟨by omega, by omega⟩
    · (simp only [h0, h1, h5, h6, hp, (vm1), (vm2), (vm3), (vm4), aDet, ev, tget, tput, ofC, ofC1, pureR, condR, abin, aun, alen, gslot, Nat.reduceEqDiff, reduceIte, argTs, asliceS, asliceL, bnd, boolV, intV, retQ, aRes, aResV, oneAV, AV.low, AV.low.lows, Nat.reduceAdd, isStringD, isSliceD, isBoolD, setRange, AV.cells, AV.isCell, AV.isAgg, abytes, aconv, aeq, isConst, isByteD, isIfaceD, endQ, Int.reduceToNat, Int.reduceLE, Int.reduceLT, Int.reduceEq, Int.reduceNe, Int.reduceAdd, Int.reduceSub, Int.reduceNeg, Nat.reduceLT, Nat.reduceLeDiff, Ent.ver, Ent.imm, Ent.ty, lits, isEl, newCells, aappend, Nat.reduceBEq, fill, undef, (st1), (st2), (st3), (st4), (st5)]; try simp (disch := omega) only [wrapI64, Int.toNat_natCast, ← Int.natCast_add, nat_add_one, nat_add_two, take_drop_all, List.drop_zero, Nat.sub_zero, Nat.add_sub_cancel_left])
      (simp only [Tryz.results189, quoteS_plain l (by omega), (vm1), (vm2), (vm3), (vm4), aDet, ev, tget, tput, ofC, ofC1, pureR, condR, abin, aun, alen, gslot, Nat.reduceEqDiff, reduceIte, argTs, asliceS, asliceL, bnd, boolV, intV, retQ, aRes, aResV, oneAV, AV.low, AV.low.lows, Nat.reduceAdd, isStringD, isSliceD, isBoolD, setRange, AV.cells, AV.isCell, AV.isAgg, abytes, aconv, aeq, isConst, isByteD, isIfaceD, endQ, Int.reduceToNat, Int.reduceLE, Int.reduceLT, Int.reduceEq, Int.reduceNe, Int.reduceAdd, Int.reduceSub, Int.reduceNeg, Nat.reduceLT, Nat.reduceLeDiff, Ent.ver, Ent.imm, Ent.ty, lits, isEl, newCells, aappend, Nat.reduceBEq, fill, undef, (st1), (st2), (st3), (st4), (st5)]; try simp (disch := omega) only [wrapI64, Int.toNat_natCast, ← Int.natCast_add, nat_add_one, nat_add_two, take_drop_all, List.drop_zero, Nat.sub_zero, Nat.add_sub_cancel_left])
  have hql := quoteS_len l
  have hc := List.countP_le_length (p := sp) (l := l)
  by_cases h24 : (24 : Int) ≤ l.length <;> (simp only [h24, gk, gm, tab_147, tab_145, tb_end, wrapI64, Int.reduceMul, (vm1), (vm2), (vm3), (vm4), aDet, ev, tget, tput, ofC, ofC1, pureR, condR, abin, aun, alen, gslot, Nat.reduceEqDiff, reduceIte, argTs, asliceS, asliceL, bnd, boolV, intV, retQ, aRes, aResV, oneAV, AV.low, AV.low.lows, Nat.reduceAdd, isStringD, isSliceD, isBoolD, setRange, AV.cells, AV.isCell, AV.isAgg, abytes, aconv, aeq, isConst, isByteD, isIfaceD, endQ, Int.reduceToNat, Int.reduceLE, Int.reduceLT, Int.reduceEq, Int.reduceNe, Int.reduceAdd, Int.reduceSub, Int.reduceNeg, Nat.reduceLT, Nat.reduceLeDiff, Ent.ver, Ent.imm, Ent.ty, lits, isEl, newCells, aappend, Nat.reduceBEq, fill, undef, (st1), (st2), (st3), (st4), (st5)]; try simp (disch := omega) only [wrapI64, Int.toNat_natCast, ← Int.natCast_add, nat_add_one, nat_add_two, take_drop_all, List.drop_zero, Nat.sub_zero, Nat.add_sub_cancel_left])
  · refine xloop (α := Nat) T0 (fun i => [(32, i64 i), (31, i64 3), (30, .rsl k 3 0 3 1), (5, i64 (l.length + cnt l i : Nat)), (6, boolV (decide (0 < cnt l i))), (0, .ref m 0 0), (1, .str l), (4, .str [])])
      (fun _ => σ) (fun _ => []) (fun i => i ≤ 3) (fun i => 3 - i) (by kernel_rfl) ⟨0, by simp, by (simp only [(vm1), (vm2), (vm3), (vm4), aDet, ev, tget, tput, ofC, ofC1, pureR, condR, abin, aun, alen, gslot, Nat.reduceEqDiff, reduceIte, argTs, asliceS, asliceL, bnd, boolV, intV, retQ, aRes, aResV, oneAV, AV.low, AV.low.lows, Nat.reduceAdd, isStringD, isSliceD, isBoolD, setRange, AV.cells, AV.isCell, AV.isAgg, abytes, aconv, aeq, isConst, isByteD, isIfaceD, endQ, Int.reduceToNat, Int.reduceLE, Int.reduceLT, Int.reduceEq, Int.reduceNe, Int.reduceAdd, Int.reduceSub, Int.reduceNeg, Nat.reduceLT, Nat.reduceLeDiff, Ent.ver, Ent.imm, Ent.ty, lits, isEl, newCells, aappend, Nat.reduceBEq, fill, undef, (st1), (st2), (st3), (st4), (st5), Int.natCast_zero]; try simp (disch := omega) only [wrapI64, Int.toNat_natCast, ← Int.natCast_add, nat_add_one, nat_add_two, take_drop_all, List.drop_zero, Nat.sub_zero, Nat.add_sub_cancel_left]); simp [cnt], rfl, rfl⟩ ?_
    intro i hi
    have h3 : i = 0 ∨ i = 1 ∨ i = 2 ∨ i = 3 := by omega
    rcases h3 with rfl | rfl | rfl | rfl
    · (simp only [Int.natCast_zero, Int.cast_ofNat_Int, gk, gm, tab_147, tab_145, tb_end, wrapI64, Int.reduceMul, (vm1), (vm2), (vm3), (vm4), aDet, ev, tget, tput, ofC, ofC1, pureR, condR, abin, aun, alen, gslot, Nat.reduceEqDiff, reduceIte, argTs, asliceS, asliceL, bnd, boolV, intV, retQ, aRes, aResV, oneAV, AV.low, AV.low.lows, Nat.reduceAdd, isStringD, isSliceD, isBoolD, setRange, AV.cells, AV.isCell, AV.isAgg, abytes, aconv, aeq, isConst, isByteD, isIfaceD, endQ, Int.reduceToNat, Int.reduceLE, Int.reduceLT, Int.reduceEq, Int.reduceNe, Int.reduceAdd, Int.reduceSub, Int.reduceNeg, Nat.reduceLT, Nat.reduceLeDiff, Ent.ver, Ent.imm, Ent.ty, lits, isEl, newCells, aappend, Nat.reduceBEq, fill, undef, (st1), (st2), (st3), (st4), (st5)]; try simp (disch := omega) only [wrapI64, Int.toNat_natCast, ← Int.natCast_add, nat_add_one, nat_add_two, take_drop_all, List.drop_zero, Nat.sub_zero, Nat.add_sub_cancel_left])
      refine xWait.go (Count_ok l 34 σ) ?_
      have hcc : (cnt l 1 : Nat) = cnt l 0 + Lib.countByte l 34 := by simp [cnt, Lib.countByte]
      have hcl := cnt_le l 1
      by_cases hz : (Lib.countByte l 34 : Int) = 0
      · (simp only [hz, gk, gm, tab_147, tab_145, tb_end, wrapI64, Int.reduceMul, (vm1), (vm2), (vm3), (vm4), aDet, ev, tget, tput, ofC, ofC1, pureR, condR, abin, aun, alen, gslot, Nat.reduceEqDiff, reduceIte, argTs, asliceS, asliceL, bnd, boolV, intV, retQ, aRes, aResV, oneAV, AV.low, AV.low.lows, Nat.reduceAdd, isStringD, isSliceD, isBoolD, setRange, AV.cells, AV.isCell, AV.isAgg, abytes, aconv, aeq, isConst, isByteD, isIfaceD, endQ, Int.reduceToNat, Int.reduceLE, Int.reduceLT, Int.reduceEq, Int.reduceNe, Int.reduceAdd, Int.reduceSub, Int.reduceNeg, Nat.reduceLT, Nat.reduceLeDiff, Ent.ver, Ent.imm, Ent.ty, lits, isEl, newCells, aappend, Nat.reduceBEq, fill, undef, (st1), (st2), (st3), (st4), (st5)]; try simp (disch := omega) only [wrapI64, Int.toNat_natCast, ← Int.natCast_add, nat_add_one, nat_add_two, take_drop_all, List.drop_zero, Nat.sub_zero, Nat.add_sub_cancel_left])
        exact ⟨1, by omega, by omega, rfl, by rw [show cnt l 1 = cnt l 0 by omega], by rw [show cnt l 1 = cnt l 0 by omega]⟩
      · (simp only [hz, gk, gm, tab_147, tab_145, tb_end, wrapI64, Int.reduceMul, (vm1), (vm2), (vm3), (vm4), aDet, ev, tget, tput, ofC, ofC1, pureR, condR, abin, aun, alen, gslot, Nat.reduceEqDiff, reduceIte, argTs, asliceS, asliceL, bnd, boolV, intV, retQ, aRes, aResV, oneAV, AV.low, AV.low.lows, Nat.reduceAdd, isStringD, isSliceD, isBoolD, setRange, AV.cells, AV.isCell, AV.isAgg, abytes, aconv, aeq, isConst, isByteD, isIfaceD, endQ, Int.reduceToNat, Int.reduceLE, Int.reduceLT, Int.reduceEq, Int.reduceNe, Int.reduceAdd, Int.reduceSub, Int.reduceNeg, Nat.reduceLT, Nat.reduceLeDiff, Ent.ver, Ent.imm, Ent.ty, lits, isEl, newCells, aappend, Nat.reduceBEq, fill, undef, (st1), (st2), (st3), (st4), (st5)]; try simp (disch := omega) only [wrapI64, Int.toNat_natCast, ← Int.natCast_add, nat_add_one, nat_add_two, take_drop_all, List.drop_zero, Nat.sub_zero, Nat.add_sub_cancel_left])
        refine ydraw T0 [] (by kernel_rfl) (by kernel_rfl) (by kernel_rfl) (by kernel_rfl) ?_
        simp only [show (([34] : List UInt8).getD 0 0).toNat = 34 from rfl, tb_get (k := 3) (i := 34) (x := .sl [byteAV 92, byteAV 34]) (by decide) rfl, Int.mul_one, Int.cast_ofNat_Int, gk, gm, tab_147, tab_145, tb_end, wrapI64, Int.reduceMul, (vm1), (vm2), (vm3), (vm4), aDet, ev, tget, tput, ofC, ofC1, pureR, condR, abin, aun, alen, gslot, Nat.reduceEqDiff, reduceIte, argTs, asliceS, asliceL, bnd, boolV, intV, retQ, aRes, aResV, oneAV, AV.low, AV.low.lows, Nat.reduceAdd, isStringD, isSliceD, isBoolD, setRange, AV.cells, AV.isCell, AV.isAgg, abytes, aconv, aeq, isConst, isByteD, isIfaceD, endQ, Int.reduceToNat, Int.reduceLE, Int.reduceLT, Int.reduceEq, Int.reduceNe, Int.reduceAdd, Int.reduceSub, Int.reduceNeg, Nat.reduceLT, Nat.reduceLeDiff, Ent.ver, Ent.imm, Ent.ty, lits, isEl, newCells, aappend, Nat.reduceBEq, fill, undef, (st1), (st2), (st3), (st4), (st5)]
        refine ⟨1, by omega, by omega, rfl, ?_, ?_⟩
        · rw [wrapI64 (x := (Lib.countByte l 34 : Nat)) (by omega) (by omega), wrapI64 (by omega) (by omega), hcc]
          simp only [i64]
          rw [show ((l.length + cnt l 0 : Nat) : Int) + ((Lib.countByte l 34 : Nat) : Int) = ((l.length + (cnt l 0 + Lib.countByte l 34) : Nat) : Int) by omega]
        · rw [show decide (0 < cnt l 1) = true by simp; omega]
    · (simp only [Int.natCast_one, Int.cast_ofNat_Int, gk, gm, tab_147, tab_145, tb_end, wrapI64, Int.reduceMul, (vm1), (vm2), (vm3), (vm4), aDet, ev, tget, tput, ofC, ofC1, pureR, condR, abin, aun, alen, gslot, Nat.reduceEqDiff, reduceIte, argTs, asliceS, asliceL, bnd, boolV, intV, retQ, aRes, aResV, oneAV, AV.low, AV.low.lows, Nat.reduceAdd, isStringD, isSliceD, isBoolD, setRange, AV.cells, AV.isCell, AV.isAgg, abytes, aconv, aeq, isConst, isByteD, isIfaceD, endQ, Int.reduceToNat, Int.reduceLE, Int.reduceLT, Int.reduceEq, Int.reduceNe, Int.reduceAdd, Int.reduceSub, Int.reduceNeg, Nat.reduceLT, Nat.reduceLeDiff, Ent.ver, Ent.imm, Ent.ty, lits, isEl, newCells, aappend, Nat.reduceBEq, fill, undef, (st1), (st2), (st3), (st4), (st5)]; try simp (disch := omega) only [wrapI64, Int.toNat_natCast, ← Int.natCast_add, nat_add_one, nat_add_two, take_drop_all, List.drop_zero, Nat.sub_zero, Nat.add_sub_cancel_left])
      refine xWait.go (Count_ok l 10 σ) ?_
      have hcc : (cnt l 2 : Nat) = cnt l 1 + Lib.countByte l 10 := by simp [cnt, Lib.countByte]
      have hcl := cnt_le l 2
      by_cases hz : (Lib.countByte l 10 : Int) = 0
      · (simp only [hz, gk, gm, tab_147, tab_145, tb_end, wrapI64, Int.reduceMul, (vm1), (vm2), (vm3), (vm4), aDet, ev, tget, tput, ofC, ofC1, pureR, condR, abin, aun, alen, gslot, Nat.reduceEqDiff, reduceIte, argTs, asliceS, asliceL, bnd, boolV, intV, retQ, aRes, aResV, oneAV, AV.low, AV.low.lows, Nat.reduceAdd, isStringD, isSliceD, isBoolD, setRange, AV.cells, AV.isCell, AV.isAgg, abytes, aconv, aeq, isConst, isByteD, isIfaceD, endQ, Int.reduceToNat, Int.reduceLE, Int.reduceLT, Int.reduceEq, Int.reduceNe, Int.reduceAdd, Int.reduceSub, Int.reduceNeg, Nat.reduceLT, Nat.reduceLeDiff, Ent.ver, Ent.imm, Ent.ty, lits, isEl, newCells, aappend, Nat.reduceBEq, fill, undef, (st1), (st2), (st3), (st4), (st5)]; try simp (disch := omega) only [wrapI64, Int.toNat_natCast, ← Int.natCast_add, nat_add_one, nat_add_two, take_drop_all, List.drop_zero, Nat.sub_zero, Nat.add_sub_cancel_left])
        exact ⟨2, by omega, by omega, rfl, by rw [show cnt l 2 = cnt l 1 by omega], by rw [show cnt l 2 = cnt l 1 by omega]⟩
      · (simp only [hz, gk, gm, tab_147, tab_145, tb_end, wrapI64, Int.reduceMul, (vm1), (vm2), (vm3), (vm4), aDet, ev, tget, tput, ofC, ofC1, pureR, condR, abin, aun, alen, gslot, Nat.reduceEqDiff, reduceIte, argTs, asliceS, asliceL, bnd, boolV, intV, retQ, aRes, aResV, oneAV, AV.low, AV.low.lows, Nat.reduceAdd, isStringD, isSliceD, isBoolD, setRange, AV.cells, AV.isCell, AV.isAgg, abytes, aconv, aeq, isConst, isByteD, isIfaceD, endQ, Int.reduceToNat, Int.reduceLE, Int.reduceLT, Int.reduceEq, Int.reduceNe, Int.reduceAdd, Int.reduceSub, Int.reduceNeg, Nat.reduceLT, Nat.reduceLeDiff, Ent.ver, Ent.imm, Ent.ty, lits, isEl, newCells, aappend, Nat.reduceBEq, fill, undef, (st1), (st2), (st3), (st4), (st5)]; try simp (disch := omega) only [wrapI64, Int.toNat_natCast, ← Int.natCast_add, nat_add_one, nat_add_two, take_drop_all, List.drop_zero, Nat.sub_zero, Nat.add_sub_cancel_left])
        refine ydraw T0 [] (by kernel_rfl) (by kernel_rfl) (by kernel_rfl) (by kernel_rfl) ?_
        simp only [show (([10] : List UInt8).getD 0 0).toNat = 10 from rfl, tb_get (k := 3) (i := 10) (x := .sl [byteAV 92, byteAV 110]) (by decide) rfl, Int.mul_one, Int.cast_ofNat_Int, gk, gm, tab_147, tab_145, tb_end, wrapI64, Int.reduceMul, (vm1), (vm2), (vm3), (vm4), aDet, ev, tget, tput, ofC, ofC1, pureR, condR, abin, aun, alen, gslot, Nat.reduceEqDiff, reduceIte, argTs, asliceS, asliceL, bnd, boolV, intV, retQ, aRes, aResV, oneAV, AV.low, AV.low.lows, Nat.reduceAdd, isStringD, isSliceD, isBoolD, setRange, AV.cells, AV.isCell, AV.isAgg, abytes, aconv, aeq, isConst, isByteD, isIfaceD, endQ, Int.reduceToNat, Int.reduceLE, Int.reduceLT, Int.reduceEq, Int.reduceNe, Int.reduceAdd, Int.reduceSub, Int.reduceNeg, Nat.reduceLT, Nat.reduceLeDiff, Ent.ver, Ent.imm, Ent.ty, lits, isEl, newCells, aappend, Nat.reduceBEq, fill, undef, (st1), (st2), (st3), (st4), (st5)]
        refine ⟨2, by omega, by omega, rfl, ?_, ?_⟩
        · rw [wrapI64 (x := (Lib.countByte l 10 : Nat)) (by omega) (by omega), wrapI64 (by omega) (by omega), hcc]
          simp only [i64]
          rw [show ((l.length + cnt l 1 : Nat) : Int) + ((Lib.countByte l 10 : Nat) : Int) = ((l.length + (cnt l 1 + Lib.countByte l 10) : Nat) : Int) by omega]
        · rw [show decide (0 < cnt l 2) = true by simp; omega]
    · (simp only [Int.cast_ofNat_Int, gk, gm, tab_147, tab_145, tb_end, wrapI64, Int.reduceMul, (vm1), (vm2), (vm3), (vm4), aDet, ev, tget, tput, ofC, ofC1, pureR, condR, abin, aun, alen, gslot, Nat.reduceEqDiff, reduceIte, argTs, asliceS, asliceL, bnd, boolV, intV, retQ, aRes, aResV, oneAV, AV.low, AV.low.lows, Nat.reduceAdd, isStringD, isSliceD, isBoolD, setRange, AV.cells, AV.isCell, AV.isAgg, abytes, aconv, aeq, isConst, isByteD, isIfaceD, endQ, Int.reduceToNat, Int.reduceLE, Int.reduceLT, Int.reduceEq, Int.reduceNe, Int.reduceAdd, Int.reduceSub, Int.reduceNeg, Nat.reduceLT, Nat.reduceLeDiff, Ent.ver, Ent.imm, Ent.ty, lits, isEl, newCells, aappend, Nat.reduceBEq, fill, undef, (st1), (st2), (st3), (st4), (st5)]; try simp (disch := omega) only [wrapI64, Int.toNat_natCast, ← Int.natCast_add, nat_add_one, nat_add_two, take_drop_all, List.drop_zero, Nat.sub_zero, Nat.add_sub_cancel_left])
      refine xWait.go (Count_ok l 92 σ) ?_
      have hcc : (cnt l 3 : Nat) = cnt l 2 + Lib.countByte l 92 := by simp [cnt, Lib.countByte]
      have hcl := cnt_le l 3
      by_cases hz : (Lib.countByte l 92 : Int) = 0
      · (simp only [hz, gk, gm, tab_147, tab_145, tb_end, wrapI64, Int.reduceMul, (vm1), (vm2), (vm3), (vm4), aDet, ev, tget, tput, ofC, ofC1, pureR, condR, abin, aun, alen, gslot, Nat.reduceEqDiff, reduceIte, argTs, asliceS, asliceL, bnd, boolV, intV, retQ, aRes, aResV, oneAV, AV.low, AV.low.lows, Nat.reduceAdd, isStringD, isSliceD, isBoolD, setRange, AV.cells, AV.isCell, AV.isAgg, abytes, aconv, aeq, isConst, isByteD, isIfaceD, endQ, Int.reduceToNat, Int.reduceLE, Int.reduceLT, Int.reduceEq, Int.reduceNe, Int.reduceAdd, Int.reduceSub, Int.reduceNeg, Nat.reduceLT, Nat.reduceLeDiff, Ent.ver, Ent.imm, Ent.ty, lits, isEl, newCells, aappend, Nat.reduceBEq, fill, undef, (st1), (st2), (st3), (st4), (st5)]; try simp (disch := omega) only [wrapI64, Int.toNat_natCast, ← Int.natCast_add, nat_add_one, nat_add_two, take_drop_all, List.drop_zero, Nat.sub_zero, Nat.add_sub_cancel_left])
        exact ⟨3, by omega, by omega, rfl, by rw [show cnt l 3 = cnt l 2 by omega], by rw [show cnt l 3 = cnt l 2 by omega]⟩
      · (simp only [hz, gk, gm, tab_147, tab_145, tb_end, wrapI64, Int.reduceMul, (vm1), (vm2), (vm3), (vm4), aDet, ev, tget, tput, ofC, ofC1, pureR, condR, abin, aun, alen, gslot, Nat.reduceEqDiff, reduceIte, argTs, asliceS, asliceL, bnd, boolV, intV, retQ, aRes, aResV, oneAV, AV.low, AV.low.lows, Nat.reduceAdd, isStringD, isSliceD, isBoolD, setRange, AV.cells, AV.isCell, AV.isAgg, abytes, aconv, aeq, isConst, isByteD, isIfaceD, endQ, Int.reduceToNat, Int.reduceLE, Int.reduceLT, Int.reduceEq, Int.reduceNe, Int.reduceAdd, Int.reduceSub, Int.reduceNeg, Nat.reduceLT, Nat.reduceLeDiff, Ent.ver, Ent.imm, Ent.ty, lits, isEl, newCells, aappend, Nat.reduceBEq, fill, undef, (st1), (st2), (st3), (st4), (st5)]; try simp (disch := omega) only [wrapI64, Int.toNat_natCast, ← Int.natCast_add, nat_add_one, nat_add_two, take_drop_all, List.drop_zero, Nat.sub_zero, Nat.add_sub_cancel_left])
        refine ydraw T0 [] (by kernel_rfl) (by kernel_rfl) (by kernel_rfl) (by kernel_rfl) ?_
        simp only [show (([92] : List UInt8).getD 0 0).toNat = 92 from rfl, tb_get (k := 3) (i := 92) (x := .sl [byteAV 92, byteAV 92]) (by decide) rfl, Int.mul_one, Int.cast_ofNat_Int, gk, gm, tab_147, tab_145, tb_end, wrapI64, Int.reduceMul, (vm1), (vm2), (vm3), (vm4), aDet, ev, tget, tput, ofC, ofC1, pureR, condR, abin, aun, alen, gslot, Nat.reduceEqDiff, reduceIte, argTs, asliceS, asliceL, bnd, boolV, intV, retQ, aRes, aResV, oneAV, AV.low, AV.low.lows, Nat.reduceAdd, isStringD, isSliceD, isBoolD, setRange, AV.cells, AV.isCell, AV.isAgg, abytes, aconv, aeq, isConst, isByteD, isIfaceD, endQ, Int.reduceToNat, Int.reduceLE, Int.reduceLT, Int.reduceEq, Int.reduceNe, Int.reduceAdd, Int.reduceSub, Int.reduceNeg, Nat.reduceLT, Nat.reduceLeDiff, Ent.ver, Ent.imm, Ent.ty, lits, isEl, newCells, aappend, Nat.reduceBEq, fill, undef, (st1), (st2), (st3), (st4), (st5)]
        refine ⟨3, by omega, by omega, rfl, ?_, ?_⟩
        · rw [wrapI64 (x := (Lib.countByte l 92 : Nat)) (by omega) (by omega), wrapI64 (by omega) (by omega), hcc]
          simp only [i64]
          rw [show ((l.length + cnt l 2 : Nat) : Int) + ((Lib.countByte l 92 : Nat) : Int) = ((l.length + (cnt l 2 + Lib.countByte l 92) : Nat) : Int) by omega]
        · rw [show decide (0 < cnt l 3) = true by simp; omega]
    · (simp only [Int.cast_ofNat_Int, gk, gm, tab_147, tab_145, tb_end, wrapI64, Int.reduceMul, (vm1), (vm2), (vm3), (vm4), aDet, ev, tget, tput, ofC, ofC1, pureR, condR, abin, aun, alen, gslot, Nat.reduceEqDiff, reduceIte, argTs, asliceS, asliceL, bnd, boolV, intV, retQ, aRes, aResV, oneAV, AV.low, AV.low.lows, Nat.reduceAdd, isStringD, isSliceD, isBoolD, setRange, AV.cells, AV.isCell, AV.isAgg, abytes, aconv, aeq, isConst, isByteD, isIfaceD, endQ, Int.reduceToNat, Int.reduceLE, Int.reduceLT, Int.reduceEq, Int.reduceNe, Int.reduceAdd, Int.reduceSub, Int.reduceNeg, Nat.reduceLT, Nat.reduceLeDiff, Ent.ver, Ent.imm, Ent.ty, lits, isEl, newCells, aappend, Nat.reduceBEq, fill, undef, (st1), (st2), (st3), (st4), (st5)]; try simp (disch := omega) only [wrapI64, Int.toNat_natCast, ← Int.natCast_add, nat_add_one, nat_add_two, take_drop_all, List.drop_zero, Nat.sub_zero, Nat.add_sub_cancel_left])
      rw [cnt_3, hql]
      exact ⟨rfl, rfl⟩
  · refine xloop (α := Nat) T0 (fun i => [(10, i64 i), (5, i64 (l.length + (l.take i).countP sp : Nat)), (6, boolV (decide (0 < (l.take i).countP sp))), (0, .ref m 0 0), (1, .str l), (4, .str [])])
      (fun _ => σ) (fun _ => []) (fun i => i ≤ l.length) (fun i => l.length - i) (by kernel_rfl) ⟨0, by simp, by (simp only [(vm1), (vm2), (vm3), (vm4), aDet, ev, tget, tput, ofC, ofC1, pureR, condR, abin, aun, alen, gslot, Nat.reduceEqDiff, reduceIte, argTs, asliceS, asliceL, bnd, boolV, intV, retQ, aRes, aResV, oneAV, AV.low, AV.low.lows, Nat.reduceAdd, isStringD, isSliceD, isBoolD, setRange, AV.cells, AV.isCell, AV.isAgg, abytes, aconv, aeq, isConst, isByteD, isIfaceD, endQ, Int.reduceToNat, Int.reduceLE, Int.reduceLT, Int.reduceEq, Int.reduceNe, Int.reduceAdd, Int.reduceSub, Int.reduceNeg, Nat.reduceLT, Nat.reduceLeDiff, Ent.ver, Ent.imm, Ent.ty, lits, isEl, newCells, aappend, Nat.reduceBEq, fill, undef, (st1), (st2), (st3), (st4), (st5), Int.natCast_zero]; try simp (disch := omega) only [wrapI64, Int.toNat_natCast, ← Int.natCast_add, nat_add_one, nat_add_two, take_drop_all, List.drop_zero, Nat.sub_zero, Nat.add_sub_cancel_left]); simp, rfl, rfl⟩ ?_
    intro i hi
    by_cases h : (i : Int) < l.length
    · (simp only [h, gk, gm, tab_147, tab_145, tb_end, tb3_at, wrapI64, Int.reduceMul, (vm1), (vm2), (vm3), (vm4), aDet, ev, tget, tput, ofC, ofC1, pureR, condR, abin, aun, alen, gslot, Nat.reduceEqDiff, reduceIte, argTs, asliceS, asliceL, bnd, boolV, intV, retQ, aRes, aResV, oneAV, AV.low, AV.low.lows, Nat.reduceAdd, isStringD, isSliceD, isBoolD, setRange, AV.cells, AV.isCell, AV.isAgg, abytes, aconv, aeq, isConst, isByteD, isIfaceD, endQ, Int.reduceToNat, Int.reduceLE, Int.reduceLT, Int.reduceEq, Int.reduceNe, Int.reduceAdd, Int.reduceSub, Int.reduceNeg, Nat.reduceLT, Nat.reduceLeDiff, Ent.ver, Ent.imm, Ent.ty, lits, isEl, newCells, aappend, Nat.reduceBEq, fill, undef, (st1), (st2), (st3), (st4), (st5)]; try simp (disch := omega) only [wrapI64, Int.toNat_natCast, ← Int.natCast_add, nat_add_one, nat_add_two, take_drop_all, List.drop_zero, Nat.sub_zero, Nat.add_sub_cancel_left])
      have hb := (l.getD i 0).toNat_lt
      refine ⟨by omega, ?_⟩
      have ht := countP_take l i (by omega)
      have hle := countP_le l i
      by_cases hsp : sp (l.getD i 0) = true
      · have hq : (qb (l.getD i 0)).length = 2 := by rw [qb_len, if_pos hsp]
        rw [if_pos hsp] at ht
        (simp only [hsp, gk, gm, tab_147, tab_145, tb_end, tb3_at, wrapI64, Int.reduceMul, List.length_map, hq, (vm1), (vm2), (vm3), (vm4), aDet, ev, tget, tput, ofC, ofC1, pureR, condR, abin, aun, alen, gslot, Nat.reduceEqDiff, reduceIte, argTs, asliceS, asliceL, bnd, boolV, intV, retQ, aRes, aResV, oneAV, AV.low, AV.low.lows, Nat.reduceAdd, isStringD, isSliceD, isBoolD, setRange, AV.cells, AV.isCell, AV.isAgg, abytes, aconv, aeq, isConst, isByteD, isIfaceD, endQ, Int.reduceToNat, Int.reduceLE, Int.reduceLT, Int.reduceEq, Int.reduceNe, Int.reduceAdd, Int.reduceSub, Int.reduceNeg, Nat.reduceLT, Nat.reduceLeDiff, Ent.ver, Ent.imm, Ent.ty, lits, isEl, newCells, aappend, Nat.reduceBEq, fill, undef, (st1), (st2), (st3), (st4), (st5)]; try simp (disch := omega) only [wrapI64, Int.toNat_natCast, ← Int.natCast_add, nat_add_one, nat_add_two, take_drop_all, List.drop_zero, Nat.sub_zero, Nat.add_sub_cancel_left])
        refine ⟨fun e => ?_, by omega, i + 1, by omega, by omega, rfl, ?_, ?_⟩
        · have := congrArg List.length e
          rw [List.length_map, hq] at this; simp at this
        · rw [ht]; rfl
        · rw [ht]; simp
      · rw [if_neg hsp] at ht
        (simp only [hsp, gk, gm, tab_147, tab_145, tb_end, tb3_at, wrapI64, Int.reduceMul, (vm1), (vm2), (vm3), (vm4), aDet, ev, tget, tput, ofC, ofC1, pureR, condR, abin, aun, alen, gslot, Nat.reduceEqDiff, reduceIte, argTs, asliceS, asliceL, bnd, boolV, intV, retQ, aRes, aResV, oneAV, AV.low, AV.low.lows, Nat.reduceAdd, isStringD, isSliceD, isBoolD, setRange, AV.cells, AV.isCell, AV.isAgg, abytes, aconv, aeq, isConst, isByteD, isIfaceD, endQ, Int.reduceToNat, Int.reduceLE, Int.reduceLT, Int.reduceEq, Int.reduceNe, Int.reduceAdd, Int.reduceSub, Int.reduceNeg, Nat.reduceLT, Nat.reduceLeDiff, Ent.ver, Ent.imm, Ent.ty, lits, isEl, newCells, aappend, Nat.reduceBEq, fill, undef, (st1), (st2), (st3), (st4), (st5)]; try simp (disch := omega) only [wrapI64, Int.toNat_natCast, ← Int.natCast_add, nat_add_one, nat_add_two, take_drop_all, List.drop_zero, Nat.sub_zero, Nat.add_sub_cancel_left])
        refine ⟨i + 1, by omega, by omega, rfl, ?_, ?_⟩
        · rw [ht]; rfl
        · rw [ht]; rfl
    · (simp only [h, gk, gm, tab_147, tab_145, tb_end, wrapI64, Int.reduceMul, (vm1), (vm2), (vm3), (vm4), aDet, ev, tget, tput, ofC, ofC1, pureR, condR, abin, aun, alen, gslot, Nat.reduceEqDiff, reduceIte, argTs, asliceS, asliceL, bnd, boolV, intV, retQ, aRes, aResV, oneAV, AV.low, AV.low.lows, Nat.reduceAdd, isStringD, isSliceD, isBoolD, setRange, AV.cells, AV.isCell, AV.isAgg, abytes, aconv, aeq, isConst, isByteD, isIfaceD, endQ, Int.reduceToNat, Int.reduceLE, Int.reduceLT, Int.reduceEq, Int.reduceNe, Int.reduceAdd, Int.reduceSub, Int.reduceNeg, Nat.reduceLT, Nat.reduceLeDiff, Ent.ver, Ent.imm, Ent.ty, lits, isEl, newCells, aappend, Nat.reduceBEq, fill, undef, (st1), (st2), (st3), (st4), (st5)]; try simp (disch := omega) only [wrapI64, Int.toNat_natCast, ← Int.natCast_add, nat_add_one, nat_add_two, take_drop_all, List.drop_zero, Nat.sub_zero, Nat.add_sub_cancel_left])
      rw [List.take_of_length_le (by omega), hql]
      exact ⟨rfl, rfl⟩
end Go.D

/- quote. -/
set_option linter.unusedVariables false
set_option linter.unusedSimpArgs false
set_option maxRecDepth 100000
namespace Go.D
open Go Go.Vm Go.Proofs Go.RowKit

theorem meth148 : Meth E.P 148 "Replace" 189 := by
  intro v w
  have hinf : Tryz.prog.info? 148 = some Tryz.t148 := by kernel_rfl
  have hu := Tryz.runUnderlying148
  show (method ((Tryz.prog.types.size + 99) + 1) 148 v "Replace").run Tryz.prog w = _
  unfold method
  simp [typeInfo, hinf, Tryz.t148, follow, receiverAt, hu, Place.get]

/-- '(*strings.Replacer).Replace' of the Replacer of the three pairs, not used before. -/
theorem replace_ok (l : List UInt8) (hl : l.length ≤ 1099511627776) (σ : List Ent) (id n : Nat) (hn : σ[n]? = some (.arr 9 pairs 0 0)) (hne : n ≠ id) (h : σ[id]? = some (.arr 98 [u32 0, i32 0, u32 0, .v .nilIface, .rsl n 0 0 6 1] 0 0)) :
    ACalls E 56 [.ref id 0 0, .str l] σ fun r τ => r = .str (quoteS l) ∧ τ = σ.set id (.arr 98 [u32 1, i32 0, u32 0, .ifc 148 (.ref (σ.length + 1) 0 0), .v (.slice none 0 0)] 0 0) ++ quoteTab σ.length := by
  have hid := lt_of_get h
  refine xacalls T0 .stay [] Tryz.func56 rfl (by kernel_rfl) (by kernel_rfl) (by simp [Tryz.ntmps56]) ?_
  (simp only [(vm1), (vm2), (vm3), (vm4), aDet, ev, tget, tput, ofC, ofC1, pureR, condR, abin, aun, alen, gslot, Nat.reduceEqDiff, reduceIte, argTs, asliceS, asliceL, bnd, boolV, intV, retQ, aRes, aResV, oneAV, AV.low, AV.low.lows, Nat.reduceAdd, isStringD, isSliceD, isBoolD, setRange, AV.cells, AV.isCell, AV.isAgg, abytes, aconv, aeq, isConst, isByteD, isIfaceD, endQ, Int.reduceToNat, Int.reduceLE, Int.reduceLT, Int.reduceEq, Int.reduceNe, Int.reduceAdd, Int.reduceSub, Int.reduceNeg, Nat.reduceLT, Nat.reduceLeDiff, Ent.ver, Ent.imm, Ent.ty, lits, isEl, newCells, aappend, Nat.reduceBEq, fill, undef, (st1), (st2), (st3), (st4), (st5)]; try simp (disch := omega) only [wrapI64, Int.toNat_natCast, ← Int.natCast_add, nat_add_one, nat_add_two, take_drop_all, List.drop_zero, Nat.sub_zero, Nat.add_sub_cancel_left])
  refine xWait.of (do_ok (R := fun r τ => r = .tup [] ∧ τ = σ.set id (.arr 98 [u32 1, i32 0, u32 0, .ifc 148 (.ref (σ.length + 1) 0 0), .v (.slice none 0 0)] 0 0) ++ quoteTab σ.length) h rfl rfl
    (buildOnce_ok _ id n (by rw [get_set_ne (Ne.symm hne)]; exact hn) (u32 0) (i32 1) (u32 0) (.v .nilIface) (get_set_self h)) ?_) ?_
  · rintro r τ ⟨rfl, rfl⟩
    rw [List.set_set, List.length_set]
    have hid2 : id < (σ.set id (.arr 98 [u32 0, i32 1, u32 0, .ifc 148 (.ref (σ.length + 1) 0 0), .v (.slice none 0 0)] 0 0)).length := by rw [List.length_set]; exact hid
    refine ⟨[u32 0, i32 1, u32 0, .ifc 148 (.ref (σ.length + 1) 0 0), .v (.slice none 0 0)], ?_, rfl, rfl, rfl, ?_⟩
    · rw [List.getElem?_append_left hid2]; exact get_set_self h
    · rw [List.set_append_left _ _ hid2, List.set_set]; rfl
  rintro r τ ⟨rfl, rfl⟩
  generalize hσ' : σ.set id (.arr 98 [u32 1, i32 0, u32 0, .ifc 148 (.ref (σ.length + 1) 0 0), .v (.slice none 0 0)] 0 0) = σ'
  have hlen : σ'.length = σ.length := by rw [← hσ']; simp
  have hget : ∀ l, sget σ' l id = some (.arr 98 [u32 1, i32 0, u32 0, .ifc 148 (.ref (σ.length + 1) 0 0), .v (.slice none 0 0)] 0 0) := fun l => by
    unfold sget; rw [if_pos (by omega), ← hσ']; exact get_set_self h
  rw [← hlen]
  rw [← hlen] at hget
  (simp only [hget, (vm1), (vm2), (vm3), (vm4), aDet, ev, tget, tput, ofC, ofC1, pureR, condR, abin, aun, alen, gslot, Nat.reduceEqDiff, reduceIte, argTs, asliceS, asliceL, bnd, boolV, intV, retQ, aRes, aResV, oneAV, AV.low, AV.low.lows, Nat.reduceAdd, isStringD, isSliceD, isBoolD, setRange, AV.cells, AV.isCell, AV.isAgg, abytes, aconv, aeq, isConst, isByteD, isIfaceD, endQ, Int.reduceToNat, Int.reduceLE, Int.reduceLT, Int.reduceEq, Int.reduceNe, Int.reduceAdd, Int.reduceSub, Int.reduceNeg, Nat.reduceLT, Nat.reduceLeDiff, Ent.ver, Ent.imm, Ent.ty, lits, isEl, newCells, aappend, Nat.reduceBEq, fill, undef, (st1), (st2), (st3), (st4), (st5)]; try simp (disch := omega) only [wrapI64, Int.toNat_natCast, ← Int.natCast_add, nat_add_one, nat_add_two, take_drop_all, List.drop_zero, Nat.sub_zero, Nat.add_sub_cancel_left])
  refine xMeth.go meth148 ?_
  refine xWait.go (work_ok l hl _ (σ'.length + 1) σ'.length (by simp) (by simp)) ?_
  (simp only [(vm1), (vm2), (vm3), (vm4), aDet, ev, tget, tput, ofC, ofC1, pureR, condR, abin, aun, alen, gslot, Nat.reduceEqDiff, reduceIte, argTs, asliceS, asliceL, bnd, boolV, intV, retQ, aRes, aResV, oneAV, AV.low, AV.low.lows, Nat.reduceAdd, isStringD, isSliceD, isBoolD, setRange, AV.cells, AV.isCell, AV.isAgg, abytes, aconv, aeq, isConst, isByteD, isIfaceD, endQ, Int.reduceToNat, Int.reduceLE, Int.reduceLT, Int.reduceEq, Int.reduceNe, Int.reduceAdd, Int.reduceSub, Int.reduceNeg, Nat.reduceLT, Nat.reduceLeDiff, Ent.ver, Ent.imm, Ent.ty, lits, isEl, newCells, aappend, Nat.reduceBEq, fill, undef, (st1), (st2), (st3), (st4), (st5)]; try simp (disch := omega) only [wrapI64, Int.toNat_natCast, ← Int.natCast_add, nat_add_one, nat_add_two, take_drop_all, List.drop_zero, Nat.sub_zero, Nat.add_sub_cancel_left])

theorem quote_ok (l : List UInt8) (hl : l.length ≤ 1099511627776) (σ : List Ent) : ACalls E 37 [.str l] σ fun r τ => r = .str (quoteT l) ∧ τ = σ := by
  refine xacalls T0 .drop [] Tryz.func37 rfl (by kernel_rfl) (by kernel_rfl) (by simp [Tryz.ntmps37]) ?_
  (simp only [(vm1), (vm2), (vm3), (vm4), aDet, ev, tget, tput, ofC, ofC1, pureR, condR, abin, aun, alen, gslot, Nat.reduceEqDiff, reduceIte, argTs, asliceS, asliceL, bnd, boolV, intV, retQ, aRes, aResV, oneAV, AV.low, AV.low.lows, Nat.reduceAdd, isStringD, isSliceD, isBoolD, setRange, AV.cells, AV.isCell, AV.isAgg, abytes, aconv, aeq, isConst, isByteD, isIfaceD, endQ, Int.reduceToNat, Int.reduceLE, Int.reduceLT, Int.reduceEq, Int.reduceNe, Int.reduceAdd, Int.reduceSub, Int.reduceNeg, Nat.reduceLT, Nat.reduceLeDiff, Ent.ver, Ent.imm, Ent.ty, lits, isEl, newCells, aappend, Nat.reduceBEq, fill, undef, (st1), (st2), (st3), (st4), (st5)]; try simp (disch := omega) only [wrapI64, Int.toNat_natCast, ← Int.natCast_add, nat_add_one, nat_add_two, take_drop_all, List.drop_zero, Nat.sub_zero, Nat.add_sub_cancel_left])
  refine xWait.go (newReplacer_ok σ) ?_
  (simp only [(vm1), (vm2), (vm3), (vm4), aDet, ev, tget, tput, ofC, ofC1, pureR, condR, abin, aun, alen, gslot, Nat.reduceEqDiff, reduceIte, argTs, asliceS, asliceL, bnd, boolV, intV, retQ, aRes, aResV, oneAV, AV.low, AV.low.lows, Nat.reduceAdd, isStringD, isSliceD, isBoolD, setRange, AV.cells, AV.isCell, AV.isAgg, abytes, aconv, aeq, isConst, isByteD, isIfaceD, endQ, Int.reduceToNat, Int.reduceLE, Int.reduceLT, Int.reduceEq, Int.reduceNe, Int.reduceAdd, Int.reduceSub, Int.reduceNeg, Nat.reduceLT, Nat.reduceLeDiff, Ent.ver, Ent.imm, Ent.ty, lits, isEl, newCells, aappend, Nat.reduceBEq, fill, undef, (st1), (st2), (st3), (st4), (st5)]; try simp (disch := omega) only [wrapI64, Int.toNat_natCast, ← Int.natCast_add, nat_add_one, nat_add_two, take_drop_all, List.drop_zero, Nat.sub_zero, Nat.add_sub_cancel_left])
  refine xWait.go (replace_ok l hl _ (σ.length + 1) σ.length (by simp) (by omega) (by simp)) ?_
  (simp only [(vm1), (vm2), (vm3), (vm4), aDet, ev, tget, tput, ofC, ofC1, pureR, condR, abin, aun, alen, gslot, Nat.reduceEqDiff, reduceIte, argTs, asliceS, asliceL, bnd, boolV, intV, retQ, aRes, aResV, oneAV, AV.low, AV.low.lows, Nat.reduceAdd, isStringD, isSliceD, isBoolD, setRange, AV.cells, AV.isCell, AV.isAgg, abytes, aconv, aeq, isConst, isByteD, isIfaceD, endQ, Int.reduceToNat, Int.reduceLE, Int.reduceLT, Int.reduceEq, Int.reduceNe, Int.reduceAdd, Int.reduceSub, Int.reduceNeg, Nat.reduceLT, Nat.reduceLeDiff, Ent.ver, Ent.imm, Ent.ty, lits, isEl, newCells, aappend, Nat.reduceBEq, fill, undef, (st1), (st2), (st3), (st4), (st5)]; try simp (disch := omega) only [wrapI64, Int.toNat_natCast, ← Int.natCast_add, nat_add_one, nat_add_two, take_drop_all, List.drop_zero, Nat.sub_zero, Nat.add_sub_cancel_left])
  have h1 := quoteS_len l
  have h2 := List.countP_le_length (p := sp) (l := l)
  exact ⟨by omega, by omega, rfl⟩
#print axioms quote_ok
end Go.D
