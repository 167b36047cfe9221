/- The builder of texts, grown at once. -/
import Derived.Test.YtikjefmoclienaaGreatDoorFnW
import Derived.ProofKit
set_option linter.unusedVariables false
set_option linter.unusedSimpArgs false
set_option maxRecDepth 100000
namespace Go.D
open Go Go.Vm Go.Proofs Go.RowKit

/-- A builder that has been grown, with its bytes. -/
def blg (m v : Nat) (out : List UInt8) : List Ent := [.arr 68 [.ref m 0 0, .rsl (m + 1) v 0 out.length 1] 0 0, .arr 5 (out.map byteAV) v 0]

theorem makeNoZero_ok (n : Nat) (hn : n ≤ 281474976710656) (σ : List Ent) : ACalls E 98 [i64 n] σ fun r τ => r = .rsl σ.length 0 0 n 1 ∧ τ = σ ++ [.arr 5 [] 0 0] := by
  refine .inr fun s vs hs hI hΓ hr => ?_
  obtain ⟨v, rfl, hv⟩ := repL1 hr
  rw [rep_v' hv]
  obtain ⟨cs, hrun, hle, hmax⟩ := Lib.run_makeNoZero (P := Tryz.prog) s.w #[3] 52 5 Tryz.underlying52 n hn
  have hb0 : Below s.w.heap.size s.w s.w.drew.drew := (Below.refl _ _).drew.drew
  have hI0 := hI.of_below hb0
  have hE0 := Ext.of_below hI hb0
  have hI1 := HInv.push hI0 [] cs 5 (Nat.zero_le _) (fun j c hj => by simp at hj)
  have hE1 := Ext.push hI0 (.arr 5 [] 0 0) (.cells cs 5) cs.size
  refine ⟨.slice (some ⟨s.w.heap.size, 0, none⟩) n cs.size, .rsl σ.length 0 0 n 1, _, ?_, hI1, hE0.trans hE1, ?_, rfl, ?_⟩
  · show (callFunc 98 _).run Tryz.prog s.w = _
    rw [run_callFunc_extern Tryz.func98 (by kernel_rfl) (by kernel_rfl) (by kernel_rfl) (e := Extern.BytealgMakeNoZero.makeNoZero #[3] #[52]) (by kernel_rfl), hrun]
    rfl
  · unfold Rep
    refine ⟨.arr 5 [] 0 0, ⟨s.w.heap.size, 0, cs.size⟩, ?_, ?_, Nat.le_refl _, s.w.heap.size, 0, cs.size, rfl, fun _ => ⟨fun _ => ⟨rfl, rfl⟩, hle, by simp⟩⟩
    · simp [S.push, ← hs]
    · simp [S.push, ← hs, ← hI.len]
  · simp [S.push, hs]

set_option maxHeartbeats 2000000 in
theorem grow_ok (σ : List Ent) (n : Nat) (hn : n ≤ 1099511627776) : ACalls E 82 [.ref σ.length 0 0, i64 n] (σ ++ [.arr 68 [.ref σ.length 0 0, .v (.slice none 0 0)] 0 0]) fun r τ => r = .tup [] ∧ τ = σ ++ blg σ.length 0 [] := by
  refine .inl ⟨⟨_, Tryz.func82, by kernel_rfl, by kernel_rfl⟩, fun s vs hs hI hΓ hr => ?_⟩
  obtain ⟨p, v, rfl, hp, hv⟩ := repL2 hr
  rw [rep_v' hv]
  have hσ : s.σ[σ.length]? = some (.arr 68 [.ref σ.length 0 0, .v (.slice none 0 0)] 0 0) := by rw [hs]; simp
  obtain ⟨blk, ext, hb, rfl, hlen, hc, hfz⟩ := at_ref hI hσ hp
  obtain ⟨x1, c1, r1, _⟩ := hc 1 _ rfl
  unfold Rep at r1
  subst r1
  have f1 := hfz 1 (Nat.zero_le _) (by simp only [List.length_cons, List.length_nil] at hlen; omega)
  obtain ⟨cs, hrun, hle, hmax⟩ := Lib.run_makeNoZero (P := Tryz.prog) s.w.drew #[3] 52 5 Tryz.underlying52 n (by omega)
  have hw : IntKind.i64.wrap (IntKind.i64.wrap 0 + (n : Int)) = n := by
    rw [IntKind.wrap_i64, IntKind.wrap_i64]
    omega
  have hcall : (callFunc 98 #[.int .i64 (IntKind.i64.wrap (IntKind.i64.wrap 0 + (n : Int)))]).run Tryz.prog s.w.drew = .ok (.value (.slice (some ⟨s.w.drew.heap.size, 0, none⟩) n cs.size)) (s.w.drew.drew.drew.alloc (.cells cs 5)) := by
    rw [hw, run_callFunc_extern Tryz.func98 (by kernel_rfl) (by kernel_rfl) (by kernel_rfl) (e := Extern.BytealgMakeNoZero.makeNoZero #[3] #[52]) (by kernel_rfl), hrun]
    rfl
  have hbs := (hI.slot _ _ hb).2
  simp only at hbs
  have c1' : s.w.drew.cell? ⟨blk, 1, none⟩ = some (.slice none 0 0) := c1
  have c2 : (s.w.alloc (.cells cs 5)).cell? ⟨blk, 1, none⟩ = some (.slice none 0 0) := (World.cell?_below (below_alloc _ _) hbs).trans c1
  have f2 : (s.w.alloc (.cells cs 5)).frozen? ⟨blk, 1, none⟩ = false := (World.frozen?_below (below_alloc _ _) hbs).trans f1
  have hcopy : ∀ W : World, (Builtin.copy_ #[52, 52] 3 #[.slice (some ⟨s.w.heap.size, 0, none⟩) 0 cs.size, .slice none 0 0]).run Tryz.prog W = .ok (goInt 0) W :=
    fun W => run_copy_none W 52 52 3 5 _ _ 0 cs.size 0 0 Tryz.underlying52 (by kernel_rfl) rfl
  have hlt : σ.length < s.σ.length := lt_of_get hσ
  have hb0 : Below s.w.heap.size s.w s.w.drew.drew.drew := (Below.refl _ _).drew.drew.drew
  have hI0 := hI.of_below hb0
  have hE0 := Ext.of_below hI hb0
  have hI1 := HInv.push hI0 [] cs 5 (Nat.zero_le _) (fun j c hj => by simp at hj)
  have hE1 := Ext.push hI0 (.arr 5 [] 0 0) (.cells cs 5) cs.size
  have hs1 : s.σ.length = σ.length + 1 := by rw [hs]; simp
  have hσ1 : (S.push { s with w := s.w.drew.drew.drew } (.arr 5 [] 0 0) ⟨s.w.heap.size, 0, cs.size⟩ (s.w.drew.drew.drew.alloc (.cells cs 5))).σ[σ.length]? = some (.arr 68 [.ref σ.length 0 0, .v (.slice none 0 0)] 0 0) := by
    simp only [S.push]
    rw [List.getElem?_append_left hlt]; exact hσ
  have hb1 : (S.push { s with w := s.w.drew.drew.drew } (.arr 5 [] 0 0) ⟨s.w.heap.size, 0, cs.size⟩ (s.w.drew.drew.drew.alloc (.cells cs 5))).β[σ.length]? = some ⟨blk, 0, ext⟩ := by
    simp only [S.push]
    rw [List.getElem?_append_left (lt_of_get hb)]; exact hb
  have hext : 1 < ext := by simp only [List.length_cons, List.length_nil] at hlen; omega
  have hr : Rep (S.push { s with w := s.w.drew.drew.drew } (.arr 5 [] 0 0) ⟨s.w.heap.size, 0, cs.size⟩ (s.w.drew.drew.drew.alloc (.cells cs 5))) (.rsl (σ.length + 1) 0 0 0 1) (.slice (some ⟨s.w.heap.size, 0, none⟩) 0 cs.size) := by
    unfold Rep
    refine ⟨.arr 5 [] 0 0, ⟨s.w.heap.size, 0, cs.size⟩, ?_, ?_, Nat.le_refl _, s.w.heap.size, 0, cs.size, rfl, fun _ => ⟨fun _ => ⟨rfl, rfl⟩, Nat.zero_le _, by simp⟩⟩
    · simp only [S.push]; rw [← hs1]; simp
    · simp only [S.push]; rw [← hs1, ← hI.len]; simp
  have hI2 := HInv.put hI1 hσ1 hb1 hext (Nat.zero_le 1) hr (by simp [cellV])
  have hE2 := Ext.put hI1 hσ1 hb1 hext (Nat.zero_le 1) (c := .rsl (σ.length + 1) 0 0 0 1) (y := .slice (some ⟨s.w.heap.size, 0, none⟩) 0 cs.size)
  have fin : ∃ v r s', Ending.returned (.tuple #[]) = .returned v ∧ s'.w = ((s.w.setCell ⟨blk, 1, none⟩ (.slice (some ⟨s.w.heap.size, 0, none⟩) 0 cs.size)).alloc (.cells cs 5)).drew.drew.drew ∧
      HInv s' ∧ Ext s s' ∧ Rep s' r v ∧ r = .tup [] ∧ s'.σ = σ ++ blg σ.length 0 [] := by
    refine ⟨_, .tup [], _, rfl, ?_, hI2, (hE0.trans hE1).trans hE2, ?_, rfl, ?_⟩
    · simp only [S.put, S.push, Nat.zero_add]
      rw [World.setCell_alloc_past _ _ _ _ (by simpa using hbs)]
      rfl
    · unfold Rep RepL; exact ⟨#[], rfl, rfl⟩
    · simp only [S.put, S.push, hs, blg]
      simp
  clear hw hI2 hE2 hr hσ1 hb1 hI1 hE1 hI0 hE0 hb0
  have mixed : Tryz.prog.follows .mixedOrders = true := by kernel_rfl
  change Calls Tryz.prog 82 _ _ _
  go_enter Tryz.func82, Tryz.ntmps82
  go_wp2
  go_region_o
  all_goals (go_wp2; go_end0; exact fin)
end Go.D

/- strings.Join with a space. -/
set_option linter.unusedVariables false
set_option linter.unusedSimpArgs false
set_option maxRecDepth 100000
namespace Go.D
open Go Go.Vm Go.Proofs Go.RowKit

theorem Grow_ok (σ : List Ent) (n : Nat) (hn : n ≤ 1099511627776) (h0 : 0 < n) : ACalls E 57 [.ref σ.length 0 0, i64 n] (σ ++ bl σ.length []) fun r τ => r = .tup [] ∧ τ = σ ++ blg σ.length 0 [] := by
  refine xacalls T0 .stay [] Tryz.func57 rfl (by kernel_rfl) (by kernel_rfl) (by simp [Tryz.ntmps57]) ?_
  (simp only [bl, (vm1), (vm2), (vm3), (vm4), aDet, ev, tget, tput, ofC, ofC1, pureR, condR, abin, aun, alen, gslot, Nat.reduceEqDiff, reduceIte, argTs, asliceS, asliceL, bnd, boolV, intV, retQ, aRes, aResV, oneAV, AV.low, AV.low.lows, Nat.reduceAdd, isStringD, isSliceD, isBoolD, setRange, AV.cells, AV.isCell, AV.isAgg, abytes, aconv, aeq, isConst, isByteD, isIfaceD, endQ, Int.reduceToNat, Int.reduceLE, Int.reduceLT, Int.reduceEq, Int.reduceNe, Int.reduceAdd, Int.reduceSub, Int.reduceNeg, Nat.reduceLT, Nat.reduceLeDiff, Ent.ver, Ent.imm, Ent.ty, lits, isEl, newCells, aappend, Nat.reduceBEq, fill, undef, (st1), (st2), (st3), (st4), (st5)]; try simp (disch := omega) only [wrapI64, Int.toNat_natCast, ← Int.natCast_add, nat_add_one, nat_add_two, take_drop_all, List.drop_zero, Nat.sub_zero, Nat.add_sub_cancel_left])
  refine xWait.go (copyCheck_new σ _) ?_
  have h1 : ¬ (n : Int) < 0 := by omega
  (simp only [h1, (vm1), (vm2), (vm3), (vm4), aDet, ev, tget, tput, ofC, ofC1, pureR, condR, abin, aun, alen, gslot, Nat.reduceEqDiff, reduceIte, argTs, asliceS, asliceL, bnd, boolV, intV, retQ, aRes, aResV, oneAV, AV.low, AV.low.lows, Nat.reduceAdd, isStringD, isSliceD, isBoolD, setRange, AV.cells, AV.isCell, AV.isAgg, abytes, aconv, aeq, isConst, isByteD, isIfaceD, endQ, Int.reduceToNat, Int.reduceLE, Int.reduceLT, Int.reduceEq, Int.reduceNe, Int.reduceAdd, Int.reduceSub, Int.reduceNeg, Nat.reduceLT, Nat.reduceLeDiff, Ent.ver, Ent.imm, Ent.ty, lits, isEl, newCells, aappend, Nat.reduceBEq, fill, undef, (st1), (st2), (st3), (st4), (st5)]; try simp (disch := omega) only [wrapI64, Int.toNat_natCast, ← Int.natCast_add, nat_add_one, nat_add_two, take_drop_all, List.drop_zero, Nat.sub_zero, Nat.add_sub_cancel_left])
  refine ydraw T0 [] (by kernel_rfl) (by kernel_rfl) (by kernel_rfl) (by kernel_rfl) ?_
  have h2 : (0 : Int) < n := by omega
  (simp only [h2, Int.sub_zero, wrapI64, (vm1), (vm2), (vm3), (vm4), aDet, ev, tget, tput, ofC, ofC1, pureR, condR, abin, aun, alen, gslot, Nat.reduceEqDiff, reduceIte, argTs, asliceS, asliceL, bnd, boolV, intV, retQ, aRes, aResV, oneAV, AV.low, AV.low.lows, Nat.reduceAdd, isStringD, isSliceD, isBoolD, setRange, AV.cells, AV.isCell, AV.isAgg, abytes, aconv, aeq, isConst, isByteD, isIfaceD, endQ, Int.reduceToNat, Int.reduceLE, Int.reduceLT, Int.reduceEq, Int.reduceNe, Int.reduceAdd, Int.reduceSub, Int.reduceNeg, Nat.reduceLT, Nat.reduceLeDiff, Ent.ver, Ent.imm, Ent.ty, lits, isEl, newCells, aappend, Nat.reduceBEq, fill, undef, (st1), (st2), (st3), (st4), (st5)]; try simp (disch := omega) only [wrapI64, Int.toNat_natCast, ← Int.natCast_add, nat_add_one, nat_add_two, take_drop_all, List.drop_zero, Nat.sub_zero, Nat.add_sub_cancel_left])
  refine xWait.go (grow_ok σ n hn) ?_
  (simp only [blg, (vm1), (vm2), (vm3), (vm4), aDet, ev, tget, tput, ofC, ofC1, pureR, condR, abin, aun, alen, gslot, Nat.reduceEqDiff, reduceIte, argTs, asliceS, asliceL, bnd, boolV, intV, retQ, aRes, aResV, oneAV, AV.low, AV.low.lows, Nat.reduceAdd, isStringD, isSliceD, isBoolD, setRange, AV.cells, AV.isCell, AV.isAgg, abytes, aconv, aeq, isConst, isByteD, isIfaceD, endQ, Int.reduceToNat, Int.reduceLE, Int.reduceLT, Int.reduceEq, Int.reduceNe, Int.reduceAdd, Int.reduceSub, Int.reduceNeg, Nat.reduceLT, Nat.reduceLeDiff, Ent.ver, Ent.imm, Ent.ty, lits, isEl, newCells, aappend, Nat.reduceBEq, fill, undef, (st1), (st2), (st3), (st4), (st5)]; try simp (disch := omega) only [wrapI64, Int.toNat_natCast, ← Int.natCast_add, nat_add_one, nat_add_two, take_drop_all, List.drop_zero, Nat.sub_zero, Nat.add_sub_cancel_left])

theorem WriteString_ok (σ : List Ent) (v : Nat) (out s : List UInt8) (h : out.length + s.length ≤ 1099511627776) : ACalls E 58 [.ref σ.length 0 0, .str s] (σ ++ blg σ.length v out) fun r τ => r = .tup [i64 s.length, .v .nilIface] ∧ τ = σ ++ blg σ.length (v + 1) (out ++ s) := by
  refine xacalls T0 .stay [] Tryz.func58 rfl (by kernel_rfl) (by kernel_rfl) (by simp [Tryz.ntmps58]) ?_
  (simp only [blg, (vm1), (vm2), (vm3), (vm4), aDet, ev, tget, tput, ofC, ofC1, pureR, condR, abin, aun, alen, gslot, Nat.reduceEqDiff, reduceIte, argTs, asliceS, asliceL, bnd, boolV, intV, retQ, aRes, aResV, oneAV, AV.low, AV.low.lows, Nat.reduceAdd, isStringD, isSliceD, isBoolD, setRange, AV.cells, AV.isCell, AV.isAgg, abytes, aconv, aeq, isConst, isByteD, isIfaceD, endQ, Int.reduceToNat, Int.reduceLE, Int.reduceLT, Int.reduceEq, Int.reduceNe, Int.reduceAdd, Int.reduceSub, Int.reduceNeg, Nat.reduceLT, Nat.reduceLeDiff, Ent.ver, Ent.imm, Ent.ty, lits, isEl, newCells, aappend, Nat.reduceBEq, fill, undef, (st1), (st2), (st3), (st4), (st5)]; try simp (disch := omega) only [wrapI64, Int.toNat_natCast, ← Int.natCast_add, nat_add_one, nat_add_two, take_drop_all, List.drop_zero, Nat.sub_zero, Nat.add_sub_cancel_left])
  refine xWait.go (copyCheck_old σ _ _) ?_
  (simp only [(vm1), (vm2), (vm3), (vm4), aDet, ev, tget, tput, ofC, ofC1, pureR, condR, abin, aun, alen, gslot, Nat.reduceEqDiff, reduceIte, argTs, asliceS, asliceL, bnd, boolV, intV, retQ, aRes, aResV, oneAV, AV.low, AV.low.lows, Nat.reduceAdd, isStringD, isSliceD, isBoolD, setRange, AV.cells, AV.isCell, AV.isAgg, abytes, aconv, aeq, isConst, isByteD, isIfaceD, endQ, Int.reduceToNat, Int.reduceLE, Int.reduceLT, Int.reduceEq, Int.reduceNe, Int.reduceAdd, Int.reduceSub, Int.reduceNeg, Nat.reduceLT, Nat.reduceLeDiff, Ent.ver, Ent.imm, Ent.ty, lits, isEl, newCells, aappend, Nat.reduceBEq, fill, undef, (st1), (st2), (st3), (st4), (st5)]; try simp (disch := omega) only [wrapI64, Int.toNat_natCast, ← Int.natCast_add, nat_add_one, nat_add_two, take_drop_all, List.drop_zero, Nat.sub_zero, Nat.add_sub_cancel_left])
  refine ⟨⟨by simp, by unfold maxRoom; omega⟩, ?_⟩
  simp [blg, byteAV, intV]

theorem av_take (out : List UInt8) : avBytes ((out.map byteAV).take out.length) = some out := by
  rw [List.take_of_length_le (by simp), avBytes_map]
theorem StringG_ok (σ : List Ent) (v : Nat) (out : List UInt8) (h : out.length ≤ 1099511627776) (h0 : 0 < out.length) : ACalls E 59 [.ref σ.length 0 0] (σ ++ blg σ.length v out) fun r τ => r = .str out ∧ ∃ l, τ = σ ++ l := by
  refine xacalls T0 .stay [] Tryz.func59 rfl (by kernel_rfl) (by kernel_rfl) (by simp [Tryz.ntmps59]) ?_
  (simp only [blg, (vm1), (vm2), (vm3), (vm4), aDet, ev, tget, tput, ofC, ofC1, pureR, condR, abin, aun, alen, gslot, Nat.reduceEqDiff, reduceIte, argTs, asliceS, asliceL, bnd, boolV, intV, retQ, aRes, aResV, oneAV, AV.low, AV.low.lows, Nat.reduceAdd, isStringD, isSliceD, isBoolD, setRange, AV.cells, AV.isCell, AV.isAgg, abytes, aconv, aeq, isConst, isByteD, isIfaceD, endQ, Int.reduceToNat, Int.reduceLE, Int.reduceLT, Int.reduceEq, Int.reduceNe, Int.reduceAdd, Int.reduceSub, Int.reduceNeg, Nat.reduceLT, Nat.reduceLeDiff, Ent.ver, Ent.imm, Ent.ty, lits, isEl, newCells, aappend, Nat.reduceBEq, fill, undef, (st1), (st2), (st3), (st4), (st5)]; try simp (disch := omega) only [wrapI64, Int.toNat_natCast, ← Int.natCast_add, nat_add_one, nat_add_two, take_drop_all, List.drop_zero, Nat.sub_zero, Nat.add_sub_cancel_left])
  refine ydraw T0 [10] (by kernel_rfl) (by kernel_rfl) (by kernel_rfl) (by kernel_rfl) ?_
  (simp only [av_take, (vm1), (vm2), (vm3), (vm4), aDet, ev, tget, tput, ofC, ofC1, pureR, condR, abin, aun, alen, gslot, Nat.reduceEqDiff, reduceIte, argTs, asliceS, asliceL, bnd, boolV, intV, retQ, aRes, aResV, oneAV, AV.low, AV.low.lows, Nat.reduceAdd, isStringD, isSliceD, isBoolD, setRange, AV.cells, AV.isCell, AV.isAgg, abytes, aconv, aeq, isConst, isByteD, isIfaceD, endQ, Int.reduceToNat, Int.reduceLE, Int.reduceLT, Int.reduceEq, Int.reduceNe, Int.reduceAdd, Int.reduceSub, Int.reduceNeg, Nat.reduceLT, Nat.reduceLeDiff, Ent.ver, Ent.imm, Ent.ty, lits, isEl, newCells, aappend, Nat.reduceBEq, fill, undef, (st1), (st2), (st3), (st4), (st5)]; try simp (disch := omega) only [wrapI64, Int.toNat_natCast, ← Int.natCast_add, nat_add_one, nat_add_two, take_drop_all, List.drop_zero, Nat.sub_zero, Nat.add_sub_cancel_left])
  exact ⟨h0, ⟨by omega, by unfold maxRoom; omega⟩, _, rfl⟩

/-- Texts with a space between them. -/
def joinS : List (List UInt8) → List UInt8
  | [] => []
  | x :: r => x ++ r.flatMap (fun y => 32 :: y)
theorem joinS_snoc (x y : List UInt8) (r : List (List UInt8)) : joinS (x :: r ++ [y]) = joinS (x :: r) ++ (32 :: y) := by
  simp [joinS]
def sumL (ss : List (List UInt8)) : Nat := (ss.map List.length).sum
theorem joinS_len : ∀ (ss : List (List UInt8)), (joinS ss).length = sumL ss + (ss.length - 1)
  | [] => rfl
  | x :: r => by
    have : ∀ r : List (List UInt8), (r.flatMap (fun y => 32 :: y)).length = sumL r + r.length := fun r => by
      induction r with
      | nil => rfl
      | cons a r ih => rw [List.flatMap_cons, List.length_append, ih]; simp [sumL]; omega
    rw [joinS, List.length_append, this]; simp [sumL]; omega
theorem sumL_take (ss : List (List UInt8)) (i : Nat) (h : i < ss.length) : sumL (ss.take (i + 1)) = sumL (ss.take i) + (ss.getD i []).length := by
  have e : ss.getD i [] = ss[i] := by simp [h]
  unfold sumL
  rw [List.take_add_one, List.getElem?_eq_getElem h, List.map_append, List.sum_append, e]; simp
theorem sumL_le (ss : List (List UInt8)) (i : Nat) : sumL (ss.take i) ≤ sumL ss := by
  unfold sumL
  conv => rhs; rw [← List.take_append_drop i ss, List.map_append, List.sum_append]
  omega
theorem joinS_take (ss : List (List UInt8)) (i : Nat) (h : i + 1 < ss.length) : joinS (ss.take (i + 2)) = joinS (ss.take (i + 1)) ++ (32 :: ss.getD (i + 1) []) := by
  rcases ss with _ | ⟨x, r⟩
  · simp at h
  · have hr : i < r.length := by simpa using h
    rw [List.take_succ_cons, List.take_succ_cons, List.take_add_one, List.getElem?_eq_getElem hr]
    have : (x :: r).getD (i + 1) [] = r[i] := by simp [hr]
    rw [this]
    simp only [Option.toList_some]
    rw [← List.cons_append, joinS_snoc]
theorem get_strs {ss : List (List UInt8)} {i : Nat} (h : i < ss.length) : (ss.map AV.str)[i]? = some (.str (ss.getD i [])) := by
  simp [h]

set_option maxHeartbeats 4000000 in
theorem SJoin_ok (ss : List (List UInt8)) (σ : List Ent) (m v imm : Nat) (hm : σ[m]? = some (.arr 9 (ss.map .str) v imm)) (h0 : 0 < ss.length) (hl : ss.length ≤ 1099511627776) (hs : sumL ss ≤ 549755813888) (hl2 : ss.length ≤ 549755813888) :
    ACalls E 38 [.rsl m v 0 ss.length 1, .str [32]] σ fun r τ => r = .str (joinS ss) ∧ τ = σ := by
  have gm : ∀ l, sget σ l m = some (.arr 9 (ss.map .str) v imm) := fun l => by unfold sget; rw [if_pos (lt_of_get hm), hm]
  refine xacalls T0 .drop [] Tryz.func38 rfl (by kernel_rfl) (by kernel_rfl) (by simp [Tryz.ntmps38]) ?_
  (simp only [(vm1), (vm2), (vm3), (vm4), aDet, ev, tget, tput, ofC, ofC1, pureR, condR, abin, aun, alen, gslot, Nat.reduceEqDiff, reduceIte, argTs, asliceS, asliceL, bnd, boolV, intV, retQ, aRes, aResV, oneAV, AV.low, AV.low.lows, Nat.reduceAdd, isStringD, isSliceD, isBoolD, setRange, AV.cells, AV.isCell, AV.isAgg, abytes, aconv, aeq, isConst, isByteD, isIfaceD, endQ, Int.reduceToNat, Int.reduceLE, Int.reduceLT, Int.reduceEq, Int.reduceNe, Int.reduceAdd, Int.reduceSub, Int.reduceNeg, Nat.reduceLT, Nat.reduceLeDiff, Ent.ver, Ent.imm, Ent.ty, lits, isEl, newCells, aappend, Nat.reduceBEq, fill, undef, (st1), (st2), (st3), (st4), (st5)]; try simp (disch := omega) only [wrapI64, Int.toNat_natCast, ← Int.natCast_add, nat_add_one, nat_add_two, take_drop_all, List.drop_zero, Nat.sub_zero, Nat.add_sub_cancel_left])
  by_cases h1 : (ss.length : Int) = 1
  · obtain ⟨x, rfl⟩ : ∃ x, ss = [x] := by
      rcases ss with _ | ⟨x, _ | ⟨y, r⟩⟩
      · simp at h0
      · exact ⟨x, rfl⟩
      · simp at h1; omega
    (simp only [gm, List.length_cons, List.length_nil, List.map_cons, List.map_nil, (vm1), (vm2), (vm3), (vm4), aDet, ev, tget, tput, ofC, ofC1, pureR, condR, abin, aun, alen, gslot, Nat.reduceEqDiff, reduceIte, argTs, asliceS, asliceL, bnd, boolV, intV, retQ, aRes, aResV, oneAV, AV.low, AV.low.lows, Nat.reduceAdd, isStringD, isSliceD, isBoolD, setRange, AV.cells, AV.isCell, AV.isAgg, abytes, aconv, aeq, isConst, isByteD, isIfaceD, endQ, Int.reduceToNat, Int.reduceLE, Int.reduceLT, Int.reduceEq, Int.reduceNe, Int.reduceAdd, Int.reduceSub, Int.reduceNeg, Nat.reduceLT, Nat.reduceLeDiff, Ent.ver, Ent.imm, Ent.ty, lits, isEl, newCells, aappend, Nat.reduceBEq, fill, undef, (st1), (st2), (st3), (st4), (st5)]; try simp (disch := omega) only [wrapI64, Int.toNat_natCast, ← Int.natCast_add, nat_add_one, nat_add_two, take_drop_all, List.drop_zero, Nat.sub_zero, Nat.add_sub_cancel_left])
    simp [joinS]
  · have h2 : ¬ (ss.length : Int) = 0 := by omega
    (simp only [h1, h2, (vm1), (vm2), (vm3), (vm4), aDet, ev, tget, tput, ofC, ofC1, pureR, condR, abin, aun, alen, gslot, Nat.reduceEqDiff, reduceIte, argTs, asliceS, asliceL, bnd, boolV, intV, retQ, aRes, aResV, oneAV, AV.low, AV.low.lows, Nat.reduceAdd, isStringD, isSliceD, isBoolD, setRange, AV.cells, AV.isCell, AV.isAgg, abytes, aconv, aeq, isConst, isByteD, isIfaceD, endQ, Int.reduceToNat, Int.reduceLE, Int.reduceLT, Int.reduceEq, Int.reduceNe, Int.reduceAdd, Int.reduceSub, Int.reduceNeg, Nat.reduceLT, Nat.reduceLeDiff, Ent.ver, Ent.imm, Ent.ty, lits, isEl, newCells, aappend, Nat.reduceBEq, fill, undef, (st1), (st2), (st3), (st4), (st5)]; try simp (disch := omega) only [wrapI64, Int.toNat_natCast, ← Int.natCast_add, nat_add_one, nat_add_two, take_drop_all, List.drop_zero, Nat.sub_zero, Nat.add_sub_cancel_left])
    generalize hn : ss.length - 1 = d
    have hd0 : 0 < d := by omega
    have hde : (ss.length : Int) - 1 = (d : Int) := by omega
    have hq1 : 2 ≤ Int.tdiv 9223372036854775807 (d : Int) := by
      rw [Int.tdiv_eq_ediv_of_nonneg (by omega)]
      exact Int.le_ediv_of_mul_le (by omega) (by omega)
    have hq2 : Int.tdiv 9223372036854775807 (d : Int) ≤ 9223372036854775807 := by
      rw [Int.tdiv_eq_ediv_of_nonneg (by omega)]
      exact Int.ediv_le_self _ (by omega)
    have hq : ¬ Int.tdiv 9223372036854775807 (d : Int) ≤ 1 := by omega
    rw [hde]
    generalize Int.tdiv 9223372036854775807 (d : Int) = Q at *
    rw [wrapI64 (x := Q) (by omega) (by omega)]
    refine ⟨by omega, ?_⟩
    (simp only [hq, hde, Int.one_mul, Int.zero_add, wrapI64, (vm1), (vm2), (vm3), (vm4), aDet, ev, tget, tput, ofC, ofC1, pureR, condR, abin, aun, alen, gslot, Nat.reduceEqDiff, reduceIte, argTs, asliceS, asliceL, bnd, boolV, intV, retQ, aRes, aResV, oneAV, AV.low, AV.low.lows, Nat.reduceAdd, isStringD, isSliceD, isBoolD, setRange, AV.cells, AV.isCell, AV.isAgg, abytes, aconv, aeq, isConst, isByteD, isIfaceD, endQ, Int.reduceToNat, Int.reduceLE, Int.reduceLT, Int.reduceEq, Int.reduceNe, Int.reduceAdd, Int.reduceSub, Int.reduceNeg, Nat.reduceLT, Nat.reduceLeDiff, Ent.ver, Ent.imm, Ent.ty, lits, isEl, newCells, aappend, Nat.reduceBEq, fill, undef, (st1), (st2), (st3), (st4), (st5)]; try simp (disch := omega) only [wrapI64, Int.toNat_natCast, ← Int.natCast_add, nat_add_one, nat_add_two, take_drop_all, List.drop_zero, Nat.sub_zero, Nat.add_sub_cancel_left])
    refine xloop (α := Nat) T0 (fun i => [(41, i64 i), (40, i64 ss.length), (39, .rsl m v 0 ss.length 1), (5, i64 (d + sumL (ss.take i) : Nat)), (0, .rsl m v 0 ss.length 1), (1, .str [32])]) (fun _ => σ) (fun _ => []) (fun i => i ≤ ss.length) (fun i => ss.length - i) (by kernel_rfl)
      ⟨0, by omega, by (simp only [sumL, (vm1), (vm2), (vm3), (vm4), aDet, ev, tget, tput, ofC, ofC1, pureR, condR, abin, aun, alen, gslot, Nat.reduceEqDiff, reduceIte, argTs, asliceS, asliceL, bnd, boolV, intV, retQ, aRes, aResV, oneAV, AV.low, AV.low.lows, Nat.reduceAdd, isStringD, isSliceD, isBoolD, setRange, AV.cells, AV.isCell, AV.isAgg, abytes, aconv, aeq, isConst, isByteD, isIfaceD, endQ, Int.reduceToNat, Int.reduceLE, Int.reduceLT, Int.reduceEq, Int.reduceNe, Int.reduceAdd, Int.reduceSub, Int.reduceNeg, Nat.reduceLT, Nat.reduceLeDiff, Ent.ver, Ent.imm, Ent.ty, lits, isEl, newCells, aappend, Nat.reduceBEq, fill, undef, (st1), (st2), (st3), (st4), (st5), Int.natCast_zero]; try simp (disch := omega) only [wrapI64, Int.toNat_natCast, ← Int.natCast_add, nat_add_one, nat_add_two, take_drop_all, List.drop_zero, Nat.sub_zero, Nat.add_sub_cancel_left]); simp, rfl, rfl⟩ ?_
    intro i hi
    by_cases h : (i : Int) < ss.length
    · have hi2 : i < ss.length := by omega
      have hst := sumL_take ss i hi2
      have hsl := sumL_le ss (i + 1)
      have hgt := get_strs hi2
      (simp only [h, gm, hgt, (vm1), (vm2), (vm3), (vm4), aDet, ev, tget, tput, ofC, ofC1, pureR, condR, abin, aun, alen, gslot, Nat.reduceEqDiff, reduceIte, argTs, asliceS, asliceL, bnd, boolV, intV, retQ, aRes, aResV, oneAV, AV.low, AV.low.lows, Nat.reduceAdd, isStringD, isSliceD, isBoolD, setRange, AV.cells, AV.isCell, AV.isAgg, abytes, aconv, aeq, isConst, isByteD, isIfaceD, endQ, Int.reduceToNat, Int.reduceLE, Int.reduceLT, Int.reduceEq, Int.reduceNe, Int.reduceAdd, Int.reduceSub, Int.reduceNeg, Nat.reduceLT, Nat.reduceLeDiff, Ent.ver, Ent.imm, Ent.ty, lits, isEl, newCells, aappend, Nat.reduceBEq, fill, undef, (st1), (st2), (st3), (st4), (st5)]; try simp (disch := omega) only [wrapI64, Int.toNat_natCast, ← Int.natCast_add, nat_add_one, nat_add_two, take_drop_all, List.drop_zero, Nat.sub_zero, Nat.add_sub_cancel_left])
      have hov : ¬ (9223372036854775807 : Int) - ((d + sumL (ss.take i) : Nat) : Int) < ((ss.getD i []).length : Int) := by omega
      (simp only [hov, wrapI64, (vm1), (vm2), (vm3), (vm4), aDet, ev, tget, tput, ofC, ofC1, pureR, condR, abin, aun, alen, gslot, Nat.reduceEqDiff, reduceIte, argTs, asliceS, asliceL, bnd, boolV, intV, retQ, aRes, aResV, oneAV, AV.low, AV.low.lows, Nat.reduceAdd, isStringD, isSliceD, isBoolD, setRange, AV.cells, AV.isCell, AV.isAgg, abytes, aconv, aeq, isConst, isByteD, isIfaceD, endQ, Int.reduceToNat, Int.reduceLE, Int.reduceLT, Int.reduceEq, Int.reduceNe, Int.reduceAdd, Int.reduceSub, Int.reduceNeg, Nat.reduceLT, Nat.reduceLeDiff, Ent.ver, Ent.imm, Ent.ty, lits, isEl, newCells, aappend, Nat.reduceBEq, fill, undef, (st1), (st2), (st3), (st4), (st5)]; try simp (disch := omega) only [wrapI64, Int.toNat_natCast, ← Int.natCast_add, nat_add_one, nat_add_two, take_drop_all, List.drop_zero, Nat.sub_zero, Nat.add_sub_cancel_left])
      refine ⟨i + 1, by omega, by omega, rfl, ?_⟩
      rw [hst, Nat.add_assoc]
    · (simp only [h, (vm1), (vm2), (vm3), (vm4), aDet, ev, tget, tput, ofC, ofC1, pureR, condR, abin, aun, alen, gslot, Nat.reduceEqDiff, reduceIte, argTs, asliceS, asliceL, bnd, boolV, intV, retQ, aRes, aResV, oneAV, AV.low, AV.low.lows, Nat.reduceAdd, isStringD, isSliceD, isBoolD, setRange, AV.cells, AV.isCell, AV.isAgg, abytes, aconv, aeq, isConst, isByteD, isIfaceD, endQ, Int.reduceToNat, Int.reduceLE, Int.reduceLT, Int.reduceEq, Int.reduceNe, Int.reduceAdd, Int.reduceSub, Int.reduceNeg, Nat.reduceLT, Nat.reduceLeDiff, Ent.ver, Ent.imm, Ent.ty, lits, isEl, newCells, aappend, Nat.reduceBEq, fill, undef, (st1), (st2), (st3), (st4), (st5)]; try simp (disch := omega) only [wrapI64, Int.toNat_natCast, ← Int.natCast_add, nat_add_one, nat_add_two, take_drop_all, List.drop_zero, Nat.sub_zero, Nat.add_sub_cancel_left])
      have hfull : ss.take i = ss := List.take_of_length_le (by omega)
      rw [hfull]
      refine xWait.go (Grow_ok σ (d + sumL ss) (by omega) (by omega)) ?_
      have hgt := get_strs h0
      have hs0 : (ss.getD 0 []).length ≤ sumL ss := by
        have q1 := sumL_take ss 0 h0
        have q2 := sumL_le ss 1
        simp only [Nat.zero_add] at q1
        omega
      (simp only [gm, hgt, (vm1), (vm2), (vm3), (vm4), aDet, ev, tget, tput, ofC, ofC1, pureR, condR, abin, aun, alen, gslot, Nat.reduceEqDiff, reduceIte, argTs, asliceS, asliceL, bnd, boolV, intV, retQ, aRes, aResV, oneAV, AV.low, AV.low.lows, Nat.reduceAdd, isStringD, isSliceD, isBoolD, setRange, AV.cells, AV.isCell, AV.isAgg, abytes, aconv, aeq, isConst, isByteD, isIfaceD, endQ, Int.reduceToNat, Int.reduceLE, Int.reduceLT, Int.reduceEq, Int.reduceNe, Int.reduceAdd, Int.reduceSub, Int.reduceNeg, Nat.reduceLT, Nat.reduceLeDiff, Ent.ver, Ent.imm, Ent.ty, lits, isEl, newCells, aappend, Nat.reduceBEq, fill, undef, (st1), (st2), (st3), (st4), (st5)]; try simp (disch := omega) only [wrapI64, Int.toNat_natCast, ← Int.natCast_add, nat_add_one, nat_add_two, take_drop_all, List.drop_zero, Nat.sub_zero, Nat.add_sub_cancel_left])
      refine ⟨by omega, ?_⟩
      refine xWait.go (WriteString_ok σ 0 [] (ss.getD 0 []) (by simp only [List.length_nil]; omega)) ?_
      have hd1 : ((ss.length - 1 : Nat) : Int) = (d : Int) := by omega
      have hone : [] ++ ss.getD 0 [] = joinS (ss.take 1) := by
        rcases ss with _ | ⟨x, r⟩
        · simp at h0
        · simp [joinS]
      rw [hone]
      (simp only [gm, hgt, (vm1), (vm2), (vm3), (vm4), aDet, ev, tget, tput, ofC, ofC1, pureR, condR, abin, aun, alen, gslot, Nat.reduceEqDiff, reduceIte, argTs, asliceS, asliceL, bnd, boolV, intV, retQ, aRes, aResV, oneAV, AV.low, AV.low.lows, Nat.reduceAdd, isStringD, isSliceD, isBoolD, setRange, AV.cells, AV.isCell, AV.isAgg, abytes, aconv, aeq, isConst, isByteD, isIfaceD, endQ, Int.reduceToNat, Int.reduceLE, Int.reduceLT, Int.reduceEq, Int.reduceNe, Int.reduceAdd, Int.reduceSub, Int.reduceNeg, Nat.reduceLT, Nat.reduceLeDiff, Ent.ver, Ent.imm, Ent.ty, lits, isEl, newCells, aappend, Nat.reduceBEq, fill, undef, (st1), (st2), (st3), (st4), (st5)]; try simp (disch := omega) only [wrapI64, Int.toNat_natCast, ← Int.natCast_add, nat_add_one, nat_add_two, take_drop_all, List.drop_zero, Nat.sub_zero, Nat.add_sub_cancel_left])
      refine ⟨by omega, ?_⟩
      rw [hn]
      refine xloop (α := Nat) T0 (fun j => [(65, i64 j), (64, i64 d), (63, .rsl m v 1 d 1), (8, .ref σ.length 0 0), (1, .str [32])]) (fun _ => σ) (fun j => blg σ.length (1 + 2 * j) (joinS (ss.take (j + 1)))) (fun j => j ≤ d) (fun j => d - j) (by kernel_rfl)
        ⟨0, by omega, by (simp only [(vm1), (vm2), (vm3), (vm4), aDet, ev, tget, tput, ofC, ofC1, pureR, condR, abin, aun, alen, gslot, Nat.reduceEqDiff, reduceIte, argTs, asliceS, asliceL, bnd, boolV, intV, retQ, aRes, aResV, oneAV, AV.low, AV.low.lows, Nat.reduceAdd, isStringD, isSliceD, isBoolD, setRange, AV.cells, AV.isCell, AV.isAgg, abytes, aconv, aeq, isConst, isByteD, isIfaceD, endQ, Int.reduceToNat, Int.reduceLE, Int.reduceLT, Int.reduceEq, Int.reduceNe, Int.reduceAdd, Int.reduceSub, Int.reduceNeg, Nat.reduceLT, Nat.reduceLeDiff, Ent.ver, Ent.imm, Ent.ty, lits, isEl, newCells, aappend, Nat.reduceBEq, fill, undef, (st1), (st2), (st3), (st4), (st5), Int.natCast_zero]; try simp (disch := omega) only [wrapI64, Int.toNat_natCast, ← Int.natCast_add, nat_add_one, nat_add_two, take_drop_all, List.drop_zero, Nat.sub_zero, Nat.add_sub_cancel_left]), rfl, rfl⟩ ?_
      intro j hj
      by_cases hjd : (j : Int) < d
      · have hjl : j + 1 < ss.length := by omega
        have hgj := get_strs hjl
        have hjt := joinS_take ss j hjl
        have hlen1 := joinS_len (ss.take (j + 1))
        have hlen2 := joinS_len (ss.take (j + 2))
        have hs1 := sumL_le ss (j + 1)
        have hs2 := sumL_le ss (j + 2)
        have hst1 : (ss.take (j + 1)).length ≤ ss.length := by simp; omega
        have hst2 : (ss.take (j + 2)).length ≤ ss.length := by simp; omega
        have hjl3 := congrArg List.length hjt
        simp only [List.length_append, List.length_cons] at hjl3
        (simp only [hjd, gm, hgj, Nat.add_comm 1 j, (vm1), (vm2), (vm3), (vm4), aDet, ev, tget, tput, ofC, ofC1, pureR, condR, abin, aun, alen, gslot, Nat.reduceEqDiff, reduceIte, argTs, asliceS, asliceL, bnd, boolV, intV, retQ, aRes, aResV, oneAV, AV.low, AV.low.lows, Nat.reduceAdd, isStringD, isSliceD, isBoolD, setRange, AV.cells, AV.isCell, AV.isAgg, abytes, aconv, aeq, isConst, isByteD, isIfaceD, endQ, Int.reduceToNat, Int.reduceLE, Int.reduceLT, Int.reduceEq, Int.reduceNe, Int.reduceAdd, Int.reduceSub, Int.reduceNeg, Nat.reduceLT, Nat.reduceLeDiff, Ent.ver, Ent.imm, Ent.ty, lits, isEl, newCells, aappend, Nat.reduceBEq, fill, undef, (st1), (st2), (st3), (st4), (st5)]; try simp (disch := omega) only [wrapI64, Int.toNat_natCast, ← Int.natCast_add, nat_add_one, nat_add_two, take_drop_all, List.drop_zero, Nat.sub_zero, Nat.add_sub_cancel_left])
        refine xWait.go (WriteString_ok σ _ _ [32] (by simp only [List.length_cons, List.length_nil]; omega)) ?_
        (simp only [(vm1), (vm2), (vm3), (vm4), aDet, ev, tget, tput, ofC, ofC1, pureR, condR, abin, aun, alen, gslot, Nat.reduceEqDiff, reduceIte, argTs, asliceS, asliceL, bnd, boolV, intV, retQ, aRes, aResV, oneAV, AV.low, AV.low.lows, Nat.reduceAdd, isStringD, isSliceD, isBoolD, setRange, AV.cells, AV.isCell, AV.isAgg, abytes, aconv, aeq, isConst, isByteD, isIfaceD, endQ, Int.reduceToNat, Int.reduceLE, Int.reduceLT, Int.reduceEq, Int.reduceNe, Int.reduceAdd, Int.reduceSub, Int.reduceNeg, Nat.reduceLT, Nat.reduceLeDiff, Ent.ver, Ent.imm, Ent.ty, lits, isEl, newCells, aappend, Nat.reduceBEq, fill, undef, (st1), (st2), (st3), (st4), (st5)]; try simp (disch := omega) only [wrapI64, Int.toNat_natCast, ← Int.natCast_add, nat_add_one, nat_add_two, take_drop_all, List.drop_zero, Nat.sub_zero, Nat.add_sub_cancel_left])
        refine xWait.go (WriteString_ok σ _ _ (ss.getD (j + 1) []) (by simp only [List.length_append, List.length_cons, List.length_nil]; omega)) ?_
        (simp only [(vm1), (vm2), (vm3), (vm4), aDet, ev, tget, tput, ofC, ofC1, pureR, condR, abin, aun, alen, gslot, Nat.reduceEqDiff, reduceIte, argTs, asliceS, asliceL, bnd, boolV, intV, retQ, aRes, aResV, oneAV, AV.low, AV.low.lows, Nat.reduceAdd, isStringD, isSliceD, isBoolD, setRange, AV.cells, AV.isCell, AV.isAgg, abytes, aconv, aeq, isConst, isByteD, isIfaceD, endQ, Int.reduceToNat, Int.reduceLE, Int.reduceLT, Int.reduceEq, Int.reduceNe, Int.reduceAdd, Int.reduceSub, Int.reduceNeg, Nat.reduceLT, Nat.reduceLeDiff, Ent.ver, Ent.imm, Ent.ty, lits, isEl, newCells, aappend, Nat.reduceBEq, fill, undef, (st1), (st2), (st3), (st4), (st5)]; try simp (disch := omega) only [wrapI64, Int.toNat_natCast, ← Int.natCast_add, nat_add_one, nat_add_two, take_drop_all, List.drop_zero, Nat.sub_zero, Nat.add_sub_cancel_left])
        refine ⟨j + 1, by omega, by omega, rfl, ?_⟩
        rw [hjt, show 1 + 2 * (j + 1) = 1 + 2 * j + 1 + 1 by omega]
      · have hfull2 : ss.take (j + 1) = ss := List.take_of_length_le (by omega)
        have hlen := joinS_len ss
        (simp only [hjd, (vm1), (vm2), (vm3), (vm4), aDet, ev, tget, tput, ofC, ofC1, pureR, condR, abin, aun, alen, gslot, Nat.reduceEqDiff, reduceIte, argTs, asliceS, asliceL, bnd, boolV, intV, retQ, aRes, aResV, oneAV, AV.low, AV.low.lows, Nat.reduceAdd, isStringD, isSliceD, isBoolD, setRange, AV.cells, AV.isCell, AV.isAgg, abytes, aconv, aeq, isConst, isByteD, isIfaceD, endQ, Int.reduceToNat, Int.reduceLE, Int.reduceLT, Int.reduceEq, Int.reduceNe, Int.reduceAdd, Int.reduceSub, Int.reduceNeg, Nat.reduceLT, Nat.reduceLeDiff, Ent.ver, Ent.imm, Ent.ty, lits, isEl, newCells, aappend, Nat.reduceBEq, fill, undef, (st1), (st2), (st3), (st4), (st5)]; try simp (disch := omega) only [wrapI64, Int.toNat_natCast, ← Int.natCast_add, nat_add_one, nat_add_two, take_drop_all, List.drop_zero, Nat.sub_zero, Nat.add_sub_cancel_left])
        rw [hfull2]
        refine xWait.of (StringG_ok σ _ (joinS ss) (by omega) (by omega)) ?_
        rintro _ _ ⟨rfl, l', rfl⟩
        (simp only [(vm1), (vm2), (vm3), (vm4), aDet, ev, tget, tput, ofC, ofC1, pureR, condR, abin, aun, alen, gslot, Nat.reduceEqDiff, reduceIte, argTs, asliceS, asliceL, bnd, boolV, intV, retQ, aRes, aResV, oneAV, AV.low, AV.low.lows, Nat.reduceAdd, isStringD, isSliceD, isBoolD, setRange, AV.cells, AV.isCell, AV.isAgg, abytes, aconv, aeq, isConst, isByteD, isIfaceD, endQ, Int.reduceToNat, Int.reduceLE, Int.reduceLT, Int.reduceEq, Int.reduceNe, Int.reduceAdd, Int.reduceSub, Int.reduceNeg, Nat.reduceLT, Nat.reduceLeDiff, Ent.ver, Ent.imm, Ent.ty, lits, isEl, newCells, aappend, Nat.reduceBEq, fill, undef, (st1), (st2), (st3), (st4), (st5)]; try simp (disch := omega) only [wrapI64, Int.toNat_natCast, ← Int.natCast_add, nat_add_one, nat_add_two, take_drop_all, List.drop_zero, Nat.sub_zero, Nat.add_sub_cancel_left])

theorem SJoin_nil (σ : List Ent) : ACalls E 38 [.v (.slice none 0 0), .str [32]] σ fun r τ => r = .str [] ∧ τ = σ := by
  refine xacalls T0 .drop [] Tryz.func38 rfl (by kernel_rfl) (by kernel_rfl) (by simp [Tryz.ntmps38]) ?_
  (simp only [(vm1), (vm2), (vm3), (vm4), aDet, ev, tget, tput, ofC, ofC1, pureR, condR, abin, aun, alen, gslot, Nat.reduceEqDiff, reduceIte, argTs, asliceS, asliceL, bnd, boolV, intV, retQ, aRes, aResV, oneAV, AV.low, AV.low.lows, Nat.reduceAdd, isStringD, isSliceD, isBoolD, setRange, AV.cells, AV.isCell, AV.isAgg, abytes, aconv, aeq, isConst, isByteD, isIfaceD, endQ, Int.reduceToNat, Int.reduceLE, Int.reduceLT, Int.reduceEq, Int.reduceNe, Int.reduceAdd, Int.reduceSub, Int.reduceNeg, Nat.reduceLT, Nat.reduceLeDiff, Ent.ver, Ent.imm, Ent.ty, lits, isEl, newCells, aappend, Nat.reduceBEq, fill, undef, (st1), (st2), (st3), (st4), (st5)]; try simp (disch := omega) only [wrapI64, Int.toNat_natCast, ← Int.natCast_add, nat_add_one, nat_add_two, take_drop_all, List.drop_zero, Nat.sub_zero, Nat.add_sub_cancel_left])
end Go.D
