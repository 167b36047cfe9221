/- All pairs of a list made one: the walk. -/
import Derived.Test.YtoobkfjkohadnaaGreatDoorFnG
import Derived.Test.YtoobkfjkohadnaaGreatDoorFnC
import Derived.Test.YtoobkfjkohadnaaGreatDoorFnD
import Derived.Test.YtoobkfjkohadnaaGreatDoorFnA
import Derived.Lib.ParseIntB
import GoSem.Op.String
import Derived.Lib.LastIndexByte
import Derived.Lib.Bytealg
set_option linter.unusedVariables false
set_option linter.unusedSimpArgs false
set_option linter.unnecessarySimpa false
set_option maxRecDepth 100000
namespace Go.D
open Go Go.Vm Go.Proofs Go.RowKit
def pairV (c : Tr × Tr) : AV := .agg (tyCells c.1 ++ tyCells c.2)
def vB (c : Tr × Tr) : Bool := validT conB c.1 && validT conB c.2
structure UAll (ps : List (Tr × Tr)) (u : List Cl × Int) : Prop where
 bad : (¬ ∀ c ∈ ps, vB c = true) → u = ([], 40)
 long : (∀ c ∈ ps, vB c = true) → ¬ ps.length ≤ 50 → u = ([], 4)
 uni : (∀ c ∈ ps, vB c = true) → ps.length ≤ 50 → UniR ps u
theorem vB_ok {c : Tr × Tr} (h : vB c = true) (hl : lenT c.1 ∧ lenT c.2) : okT c.1 ∧ okT c.2 := by
 unfold vB at h
 rw [Bool.and_eq_true] at h
 exact ⟨⟨hl.1, valid_typ h.1⟩, ⟨hl.2, valid_typ h.2⟩⟩
theorem uall_ex (ps : List (Tr × Tr)) (hl : ∀ c ∈ ps, lenT c.1 ∧ lenT c.2) : ∃ u, UAll ps u := by
 by_cases h : ∀ c ∈ ps, vB c = true
 ·by_cases h2 : ps.length ≤ 50
  ·obtain ⟨u, hu⟩ := uniR_ex ps fun c hc => vB_ok (h c hc) (hl c hc)
   exact ⟨u, fun hh => absurd h hh, fun _ hh => absurd h2 hh, fun _ _ => hu⟩
  ·exact ⟨([], 4), fun hh => absurd h hh, fun _ _ => rfl, fun _ hh => absurd hh h2⟩
 ·exact ⟨([], 40), fun _ => rfl, fun hh => absurd hh h, fun hh => absurd hh h⟩
set_option maxHeartbeats 32000000 in
theorem unifyAllG_ok (ps : List (Tr × Tr)) (hn : ps.length ≤ 9223372036854775807) (hl : ∀ c ∈ ps, lenT c.1 ∧ lenT c.2) (u : List Cl × Int) (hu : UAll ps u) (σ : List Ent) :
  ACalls E 24 [.sl (ps.map pairV)] σ fun r τ => r = .tup [.sl (clsV u.1), i64 u.2] ∧ τ = σ := by
 refine xacalls T0 .freeze [] Tryz.func24 rfl (by kernel_rfl) (by kernel_rfl) (by simp [Tryz.ntmps24]) ?_
 have hml : (ps.map pairV).length = ps.length := List.length_map ..
 (simp only [hml, (vmA), Nat.reduceEqDiff, reduceIte, Nat.reduceAdd, Int.reduceToNat, Int.reduceLE, Int.reduceLT, Int.reduceEq, Int.reduceNe, Int.reduceAdd, Int.reduceSub, Int.reduceNeg, Nat.reduceLT, Nat.reduceLeDiff, Nat.reduceBEq, undef, (stA), Nat.reduceMul]; try simp (disch := omega) only [(vmp)])
 refine xloop (α := Nat × List Ent) T0 (fun x => [(0, .sl (ps.map pairV)), (9, .sl (ps.map pairV)), (10, i64 ps.length), (11, i64 x.1)]) (fun _ => σ) (fun x => x.2) (fun x => x.1 ≤ ps.length ∧ ∀ c ∈ ps.take x.1, vB c = true) (fun x => ps.length - x.1) (by kernel_rfl)
  ⟨(0, []), ⟨by simp, by simp⟩, by (simp only [(vmA), Nat.reduceEqDiff, reduceIte, Nat.reduceAdd, Int.reduceToNat, Int.reduceLE, Int.reduceLT, Int.reduceEq, Int.reduceNe, Int.reduceAdd, Int.reduceSub, Int.reduceNeg, Nat.reduceLT, Nat.reduceLeDiff, Nat.reduceBEq, undef, (stA), Nat.reduceMul, Int.natCast_zero]; try simp (disch := omega) only [(vmp)]), rfl, rfl⟩ ?_
 rintro ⟨j, J⟩ ⟨hj, hv⟩
 simp only at hj hv
 by_cases h : (j : Int) < ps.length
 ·have hj1 : j < ps.length := by omega
  have hc : ps[j]? = some ps[j] := List.getElem?_eq_getElem hj1
  have hlc := hl _ (List.getElem_mem hj1)
  have hgc : (ps.map pairV).getD j .un = pairV ps[j] := by simp [List.getD, hj1]
  obtain ⟨s1, _⟩ := take_splitC ps j _ hc
  have hmem : ps[j] ∈ ps := List.getElem_mem hj1
  generalize ps[j] = c at *
  rcases c with ⟨⟨d, n, us⟩, ⟨d', n', us'⟩⟩
  have o1 := fun σ' => ValidType_ok _ hlc.1 σ'
  have o2 := fun σ' => ValidType_ok _ hlc.2 σ'
  simp only [pairV, tyCells, List.cons_append, List.nil_append] at hgc
  simp only [tyV] at o1 o2
  cases b1 : validT conB (.mk d n us)
  ·have hu0 := hu.bad fun hh => by have := hh _ hmem; simp [vB, b1] at this
   subst hu0
   simp only [b1] at o1
   (simp only [h, hgc, hml, if_true, Nat.zero_mul, Nat.one_mul, Nat.reduceMul, List.drop_zero, List.drop_succ_cons, List.take_succ_cons, List.take_zero, (vmA), Nat.reduceEqDiff, reduceIte, Nat.reduceAdd, Int.reduceToNat, Int.reduceLE, Int.reduceLT, Int.reduceEq, Int.reduceNe, Int.reduceAdd, Int.reduceSub, Int.reduceNeg, Nat.reduceLT, Nat.reduceLeDiff, Nat.reduceBEq, undef, (stA), Nat.reduceMul]; try simp (disch := omega) only [(vmp)])
   refine xWait.go (o1 _) ?_
   (simp only [(vmA), Nat.reduceEqDiff, reduceIte, Nat.reduceAdd, Int.reduceToNat, Int.reduceLE, Int.reduceLT, Int.reduceEq, Int.reduceNe, Int.reduceAdd, Int.reduceSub, Int.reduceNeg, Nat.reduceLT, Nat.reduceLeDiff, Nat.reduceBEq, undef, (stA), Nat.reduceMul]; try simp (disch := omega) only [(vmp)])
   exact ⟨_, .tup (.cons .none (.cons (.refl _) .nil)), by simp only [AV.low, AV.low.lows, Bool.and_self], rfl⟩
  cases b2 : validT conB (.mk d' n' us')
  ·have hu0 := hu.bad fun hh => by have := hh _ hmem; simp [vB, b2] at this
   subst hu0
   simp only [b1] at o1
   simp only [b2] at o2
   (simp only [h, hgc, hml, if_true, Nat.zero_mul, Nat.one_mul, Nat.reduceMul, List.drop_zero, List.drop_succ_cons, List.take_succ_cons, List.take_zero, (vmA), Nat.reduceEqDiff, reduceIte, Nat.reduceAdd, Int.reduceToNat, Int.reduceLE, Int.reduceLT, Int.reduceEq, Int.reduceNe, Int.reduceAdd, Int.reduceSub, Int.reduceNeg, Nat.reduceLT, Nat.reduceLeDiff, Nat.reduceBEq, undef, (stA), Nat.reduceMul]; try simp (disch := omega) only [(vmp)])
   refine xWait.go (o1 _) ?_
   (simp only [Nat.zero_mul, Nat.one_mul, Nat.reduceMul, List.drop_zero, List.drop_succ_cons, List.take_succ_cons, List.take_zero, (vmA), Nat.reduceEqDiff, reduceIte, Nat.reduceAdd, Int.reduceToNat, Int.reduceLE, Int.reduceLT, Int.reduceEq, Int.reduceNe, Int.reduceAdd, Int.reduceSub, Int.reduceNeg, Nat.reduceLT, Nat.reduceLeDiff, Nat.reduceBEq, undef, (stA), Nat.reduceMul]; try simp (disch := omega) only [(vmp)])
   refine xWait.go (o2 _) ?_
   (simp only [Nat.zero_mul, Nat.one_mul, Nat.reduceMul, List.drop_zero, List.drop_succ_cons, List.take_succ_cons, List.take_zero, (vmA), Nat.reduceEqDiff, reduceIte, Nat.reduceAdd, Int.reduceToNat, Int.reduceLE, Int.reduceLT, Int.reduceEq, Int.reduceNe, Int.reduceAdd, Int.reduceSub, Int.reduceNeg, Nat.reduceLT, Nat.reduceLeDiff, Nat.reduceBEq, undef, (stA), Nat.reduceMul]; try simp (disch := omega) only [(vmp)])
   exact ⟨_, .tup (.cons .none (.cons (.refl _) .nil)), by simp only [AV.low, AV.low.lows, Bool.and_self], rfl⟩
  simp only [b1] at o1
  simp only [b2] at o2
  (simp only [h, hgc, hml, if_true, Nat.zero_mul, Nat.one_mul, Nat.reduceMul, List.drop_zero, List.drop_succ_cons, List.take_succ_cons, List.take_zero, (vmA), Nat.reduceEqDiff, reduceIte, Nat.reduceAdd, Int.reduceToNat, Int.reduceLE, Int.reduceLT, Int.reduceEq, Int.reduceNe, Int.reduceAdd, Int.reduceSub, Int.reduceNeg, Nat.reduceLT, Nat.reduceLeDiff, Nat.reduceBEq, undef, (stA), Nat.reduceMul]; try simp (disch := omega) only [(vmp)])
  refine xWait.go (o1 _) ?_
  (simp only [Nat.zero_mul, Nat.one_mul, Nat.reduceMul, List.drop_zero, List.drop_succ_cons, List.take_succ_cons, List.take_zero, (vmA), Nat.reduceEqDiff, reduceIte, Nat.reduceAdd, Int.reduceToNat, Int.reduceLE, Int.reduceLT, Int.reduceEq, Int.reduceNe, Int.reduceAdd, Int.reduceSub, Int.reduceNeg, Nat.reduceLT, Nat.reduceLeDiff, Nat.reduceBEq, undef, (stA), Nat.reduceMul]; try simp (disch := omega) only [(vmp)])
  refine xWait.go (o2 _) ?_
  (simp only [Nat.zero_mul, Nat.one_mul, Nat.reduceMul, List.drop_zero, List.drop_succ_cons, List.take_succ_cons, List.take_zero, (vmA), Nat.reduceEqDiff, reduceIte, Nat.reduceAdd, Int.reduceToNat, Int.reduceLE, Int.reduceLT, Int.reduceEq, Int.reduceNe, Int.reduceAdd, Int.reduceSub, Int.reduceNeg, Nat.reduceLT, Nat.reduceLeDiff, Nat.reduceBEq, undef, (stA), Nat.reduceMul]; try simp (disch := omega) only [(vmp)])
  refine ⟨(j + 1, _), ⟨by simp only; omega, ?_⟩, by simp only; omega, rfl, rfl⟩
  simp only
  rw [s1]
  intro c hc
  rcases List.mem_append.1 hc with hc | hc
  ·exact hv c hc
  ·rw [List.mem_singleton.1 hc]; simp [vB, b1, b2]
 ·have hje : j = ps.length := by omega
  subst hje
  rw [List.take_of_length_le (Nat.le_refl _)] at hv
  by_cases h50 : ps.length ≤ 50
  ·have hU := hu.uni hv h50
   have h50' : ¬ (50 : Int) < ps.length := by omega
   (simp only [h, h50', hml, if_false, (vmA), Nat.reduceEqDiff, reduceIte, Nat.reduceAdd, Int.reduceToNat, Int.reduceLE, Int.reduceLT, Int.reduceEq, Int.reduceNe, Int.reduceAdd, Int.reduceSub, Int.reduceNeg, Nat.reduceLT, Nat.reduceLeDiff, Nat.reduceBEq, undef, (stA), Nat.reduceMul]; try simp (disch := omega) only [(vmp)])
   refine xloop (α := Nat × List Ent) T0 (fun x => [(6, .ref (σ.length + (J.length + 2)) 0 0), (33, .sl (ps.map pairV)), (34, i64 ps.length), (35, i64 x.1)]) (fun _ => σ) (fun x => x.2)
    (fun x => x.1 ≤ ps.length ∧ UOwn σ x.2 (J.length + 2) J.length (J.length + 1) (ps.take x.1)) (fun x => ps.length - x.1) (by kernel_rfl)
    ⟨(0, J ++ [.map [] 0, .map [] 0, graE (σ.length + J.length) (σ.length + (J.length + 1))]), ⟨by simp, by simpa using uown_nil σ J⟩, by (simp only [(vmA), Nat.reduceEqDiff, reduceIte, Nat.reduceAdd, Int.reduceToNat, Int.reduceLE, Int.reduceLT, Int.reduceEq, Int.reduceNe, Int.reduceAdd, Int.reduceSub, Int.reduceNeg, Nat.reduceLT, Nat.reduceLeDiff, Nat.reduceBEq, undef, (stA), Nat.reduceMul, Int.natCast_zero]; try simp (disch := omega) only [(vmp)]), rfl, rfl⟩ ?_
   rintro ⟨j, K⟩ ⟨hj, hO⟩
   simp only at hj hO
   by_cases h : (j : Int) < ps.length
   ·have hj1 : j < ps.length := by omega
    have hc : ps[j]? = some ps[j] := List.getElem?_eq_getElem hj1
    have hmem : ps[j] ∈ ps := List.getElem_mem hj1
    have hok := vB_ok (hv _ hmem) (hl _ hmem)
    have hgc : (ps.map pairV).getD j .un = pairV ps[j] := by simp [List.getD, hj1]
    obtain ⟨s1, _⟩ := take_splitC ps j _ hc
    generalize ps[j] = c at *
    rcases c with ⟨⟨d, n, us⟩, ⟨d', n', us'⟩⟩
    simp only [pairV, tyCells, List.cons_append, List.nil_append] at hgc
    obtain ⟨pa, pb, K2, K3, K4, ok, k2, k3, k4, ca, cb, cu, ht, hf⟩ := pair_step hO (.arr 60 [.str d, .str n, .sl (tysV us), .str d', .str n', .sl (tysV us')] 0 0) ⟨fun _ _ _ _ e => by simp [nodeE] at e, fun _ _ e => by cases e⟩ hok.1 hok.2 (.ref (σ.length + (J.length + 2)) 0 0)
    simp only [tyV] at ca cb
    have loA : ∀ l' : List Ent, l'[K.length]? = some (.arr 60 [.str d, .str n, .sl (tysV us), .str d', .str n', .sl (tysV us')] 0 0) → ∀ g' : List Ent, g'.length = σ.length → sget g' l' (σ.length + K.length) = some (.arr 60 [.str d, .str n, .sl (tysV us), .str d', .str n', .sl (tysV us')] 0 0) := fun l' h g' hg => by unfold sget; rw [if_neg (by omega), hg, Nat.add_sub_cancel_left, h]
    have k1 : (K ++ [Ent.arr 60 [.str d, .str n, .sl (tysV us), .str d', .str n', .sl (tysV us')] 0 0])[K.length]? = some (.arr 60 [.str d, .str n, .sl (tysV us), .str d', .str n', .sl (tysV us')] 0 0) := by rw [List.getElem?_append_right (Nat.le_refl _), Nat.sub_self]; rfl
    (simp only [h, hgc, hml, if_true, (vmA), Nat.reduceEqDiff, reduceIte, Nat.reduceAdd, Int.reduceToNat, Int.reduceLE, Int.reduceLT, Int.reduceEq, Int.reduceNe, Int.reduceAdd, Int.reduceSub, Int.reduceNeg, Nat.reduceLT, Nat.reduceLeDiff, Nat.reduceBEq, undef, (stA), Nat.reduceMul]; try simp (disch := omega) only [(vmp)])
    refine zdraw T0 ⟨[], [4, 8, 9], [2, 3, 6, 7], some [K.length], false⟩ (by kernel_rfl) (by kernel_rfl) (by kernel_rfl) (by kernel_rfl) ?_
    (simp only [zDraw_nil,zDraw_go,zDraw_if,zSlot_some,zGuard_tt,zGuard_ff,zGuard_tf,zGuard_ft,zGuard_un,zOut_some,zOut_pure,zOut_cond,zNext_move,zNext_assign,zNext_pick,zNext_buildSlice,zNext_build,zNext_load,zNext_store,zNext_builtin,zNext_fieldAddr,zNext_nilCheck,zNext_indexAddr,zNext_unOp,zNext_binOp, (vmA), Nat.reduceEqDiff, reduceIte, Nat.reduceAdd, Int.reduceToNat, Int.reduceLE, Int.reduceLT, Int.reduceEq, Int.reduceNe, Int.reduceAdd, Int.reduceSub, Int.reduceNeg, Nat.reduceLT, Nat.reduceLeDiff, Nat.reduceBEq, undef, (stA), Nat.reduceMul]; try simp (disch := omega) only [(vmp)])
    refine zNext.looseS (r := .ref (σ.length + K.length) 0 0) rfl rfl rfl rfl (fun g' l' hg' hl' => ⟨True, trivial, ?_⟩) ?_
    ·have q := loA l' ((hl' K.length (by simp)).trans k1) g' hg'
     (simp only [q, (vmA), Nat.reduceEqDiff, reduceIte, Nat.reduceAdd, Int.reduceToNat, Int.reduceLE, Int.reduceLT, Int.reduceEq, Int.reduceNe, Int.reduceAdd, Int.reduceSub, Int.reduceNeg, Nat.reduceLT, Nat.reduceLeDiff, Nat.reduceBEq, undef, (stA), Nat.reduceMul]; try simp (disch := omega) only [(vmp)])
    (simp only [zDraw_nil,zDraw_go,zDraw_if,zSlot_some,zGuard_tt,zGuard_ff,zGuard_tf,zGuard_ft,zGuard_un,zOut_some,zOut_pure,zOut_cond,zNext_move,zNext_assign,zNext_pick,zNext_buildSlice,zNext_build,zNext_load,zNext_store,zNext_builtin,zNext_fieldAddr,zNext_nilCheck,zNext_indexAddr,zNext_unOp,zNext_binOp, (vmA), Nat.reduceEqDiff, reduceIte, Nat.reduceAdd, Int.reduceToNat, Int.reduceLE, Int.reduceLT, Int.reduceEq, Int.reduceNe, Int.reduceAdd, Int.reduceSub, Int.reduceNeg, Nat.reduceLT, Nat.reduceLeDiff, Nat.reduceBEq, undef, (stA), Nat.reduceMul]; try simp (disch := omega) only [(vmp)])
    refine zNext.looseS (r := .agg [.str d, .str n, .sl (tysV us)]) rfl rfl rfl rfl (fun g' l' hg' hl' => ⟨True, trivial, ?_⟩) ?_
    ·have q := loA l' ((hl' K.length (by simp)).trans k1) g' hg'
     (simp only [q, List.take_succ_cons, List.take_zero, (vmA), Nat.reduceEqDiff, reduceIte, Nat.reduceAdd, Int.reduceToNat, Int.reduceLE, Int.reduceLT, Int.reduceEq, Int.reduceNe, Int.reduceAdd, Int.reduceSub, Int.reduceNeg, Nat.reduceLT, Nat.reduceLeDiff, Nat.reduceBEq, undef, (stA), Nat.reduceMul]; try simp (disch := omega) only [(vmp)])
    (simp only [zDraw_nil,zDraw_go,zDraw_if,zSlot_some,zGuard_tt,zGuard_ff,zGuard_tf,zGuard_ft,zGuard_un,zOut_some,zOut_pure,zOut_cond,zNext_move,zNext_assign,zNext_pick,zNext_buildSlice,zNext_build,zNext_load,zNext_store,zNext_builtin,zNext_fieldAddr,zNext_nilCheck,zNext_indexAddr,zNext_unOp,zNext_binOp, (vmA), Nat.reduceEqDiff, reduceIte, Nat.reduceAdd, Int.reduceToNat, Int.reduceLE, Int.reduceLT, Int.reduceEq, Int.reduceNe, Int.reduceAdd, Int.reduceSub, Int.reduceNeg, Nat.reduceLT, Nat.reduceLeDiff, Nat.reduceBEq, undef, (stA), Nat.reduceMul]; try simp (disch := omega) only [(vmp)])
    refine zNext.softC (by rfl) (by rfl) _ rfl ca rfl (by intro m hm; simp at hm; subst hm; exact k2.trans k1.symm) ?_
    (simp only [zDraw_nil,zDraw_go,zDraw_if,zSlot_some,zGuard_tt,zGuard_ff,zGuard_tf,zGuard_ft,zGuard_un,zOut_some,zOut_pure,zOut_cond,zNext_move,zNext_assign,zNext_pick,zNext_buildSlice,zNext_build,zNext_load,zNext_store,zNext_builtin,zNext_fieldAddr,zNext_nilCheck,zNext_indexAddr,zNext_unOp,zNext_binOp, (vmA), Nat.reduceEqDiff, reduceIte, Nat.reduceAdd, Int.reduceToNat, Int.reduceLE, Int.reduceLT, Int.reduceEq, Int.reduceNe, Int.reduceAdd, Int.reduceSub, Int.reduceNeg, Nat.reduceLT, Nat.reduceLeDiff, Nat.reduceBEq, undef, (stA), Nat.reduceMul]; try simp (disch := omega) only [(vmp)])
    refine zNext.looseS (r := .ref (σ.length + K.length) 0 3) rfl rfl rfl rfl (fun g' l' hg' hl' => ⟨True, trivial, ?_⟩) ?_
    ·have q := loA l' ((hl' K.length (by simp)).trans k2) g' hg'
     (simp only [q, (vmA), Nat.reduceEqDiff, reduceIte, Nat.reduceAdd, Int.reduceToNat, Int.reduceLE, Int.reduceLT, Int.reduceEq, Int.reduceNe, Int.reduceAdd, Int.reduceSub, Int.reduceNeg, Nat.reduceLT, Nat.reduceLeDiff, Nat.reduceBEq, undef, (stA), Nat.reduceMul]; try simp (disch := omega) only [(vmp)])
    (simp only [zDraw_nil,zDraw_go,zDraw_if,zSlot_some,zGuard_tt,zGuard_ff,zGuard_tf,zGuard_ft,zGuard_un,zOut_some,zOut_pure,zOut_cond,zNext_move,zNext_assign,zNext_pick,zNext_buildSlice,zNext_build,zNext_load,zNext_store,zNext_builtin,zNext_fieldAddr,zNext_nilCheck,zNext_indexAddr,zNext_unOp,zNext_binOp, (vmA), Nat.reduceEqDiff, reduceIte, Nat.reduceAdd, Int.reduceToNat, Int.reduceLE, Int.reduceLT, Int.reduceEq, Int.reduceNe, Int.reduceAdd, Int.reduceSub, Int.reduceNeg, Nat.reduceLT, Nat.reduceLeDiff, Nat.reduceBEq, undef, (stA), Nat.reduceMul]; try simp (disch := omega) only [(vmp)])
    refine zNext.looseS (r := .agg [.str d', .str n', .sl (tysV us')]) rfl rfl rfl rfl (fun g' l' hg' hl' => ⟨True, trivial, ?_⟩) ?_
    ·have q := loA l' ((hl' K.length (by simp)).trans k2) g' hg'
     (simp only [q, List.drop_succ_cons, List.drop_zero, List.take_succ_cons, List.take_zero, (vmA), Nat.reduceEqDiff, reduceIte, Nat.reduceAdd, Int.reduceToNat, Int.reduceLE, Int.reduceLT, Int.reduceEq, Int.reduceNe, Int.reduceAdd, Int.reduceSub, Int.reduceNeg, Nat.reduceLT, Nat.reduceLeDiff, Nat.reduceBEq, undef, (stA), Nat.reduceMul]; try simp (disch := omega) only [(vmp)])
    (simp only [zDraw_nil,zDraw_go,zDraw_if,zSlot_some,zGuard_tt,zGuard_ff,zGuard_tf,zGuard_ft,zGuard_un,zOut_some,zOut_pure,zOut_cond,zNext_move,zNext_assign,zNext_pick,zNext_buildSlice,zNext_build,zNext_load,zNext_store,zNext_builtin,zNext_fieldAddr,zNext_nilCheck,zNext_indexAddr,zNext_unOp,zNext_binOp, (vmA), Nat.reduceEqDiff, reduceIte, Nat.reduceAdd, Int.reduceToNat, Int.reduceLE, Int.reduceLT, Int.reduceEq, Int.reduceNe, Int.reduceAdd, Int.reduceSub, Int.reduceNeg, Nat.reduceLT, Nat.reduceLeDiff, Nat.reduceBEq, undef, (stA), Nat.reduceMul]; try simp (disch := omega) only [(vmp)])
    refine zNext.softC (by rfl) (by rfl) _ rfl cb rfl (by intro m hm; simp at hm; subst hm; exact k3.trans k2.symm) ?_
    (simp only [zDraw_nil,zDraw_go,zDraw_if,zSlot_some,zGuard_tt,zGuard_ff,zGuard_tf,zGuard_ft,zGuard_un,zOut_some,zOut_pure,zOut_cond,zNext_move,zNext_assign,zNext_pick,zNext_buildSlice,zNext_build,zNext_load,zNext_store,zNext_builtin,zNext_fieldAddr,zNext_nilCheck,zNext_indexAddr,zNext_unOp,zNext_binOp, (vmA), Nat.reduceEqDiff, reduceIte, Nat.reduceAdd, Int.reduceToNat, Int.reduceLE, Int.reduceLT, Int.reduceEq, Int.reduceNe, Int.reduceAdd, Int.reduceSub, Int.reduceNeg, Nat.reduceLT, Nat.reduceLeDiff, Nat.reduceBEq, undef, (stA), Nat.reduceMul]; try simp (disch := omega) only [(vmp)])
    refine zNext.softC (by rfl) (by rfl) _ rfl cu rfl (by intro m hm; simp at hm; subst hm; exact k4.trans k3.symm) ?_
    cases ok
    ·have hno := hf rfl
     have hu0 : u = ([], 5) := uniR_fn hU (.inl ⟨rfl, fun θ hθ => hno θ fun c hc => hθ c (by
      rw [← s1] at hc; exact List.mem_of_mem_take hc)⟩)
     subst hu0
     (simp only [zDraw_nil,zDraw_go,zDraw_if,zSlot_some,zGuard_tt,zGuard_ff,zGuard_tf,zGuard_ft,zGuard_un,zOut_some,zOut_pure,zOut_cond,zNext_move,zNext_assign,zNext_pick,zNext_buildSlice,zNext_build,zNext_load,zNext_store,zNext_builtin,zNext_fieldAddr,zNext_nilCheck,zNext_indexAddr,zNext_unOp,zNext_binOp, (vmA), Nat.reduceEqDiff, reduceIte, Nat.reduceAdd, Int.reduceToNat, Int.reduceLE, Int.reduceLT, Int.reduceEq, Int.reduceNe, Int.reduceAdd, Int.reduceSub, Int.reduceNeg, Nat.reduceLT, Nat.reduceLeDiff, Nat.reduceBEq, undef, (stA), Nat.reduceMul]; try simp (disch := omega) only [(vmp)])
     exact ⟨_, .tup (.cons .none (.cons (.refl _) .nil)), by simp only [AV.low, AV.low.lows, Bool.and_self], rfl⟩
    ·have hO' := ht rfl
     rw [← s1] at hO'
     (simp only [zDraw_nil,zDraw_go,zDraw_if,zSlot_some,zGuard_tt,zGuard_ff,zGuard_tf,zGuard_ft,zGuard_un,zOut_some,zOut_pure,zOut_cond,zNext_move,zNext_assign,zNext_pick,zNext_buildSlice,zNext_build,zNext_load,zNext_store,zNext_builtin,zNext_fieldAddr,zNext_nilCheck,zNext_indexAddr,zNext_unOp,zNext_binOp, (vmA), Nat.reduceEqDiff, reduceIte, Nat.reduceAdd, Int.reduceToNat, Int.reduceLE, Int.reduceLT, Int.reduceEq, Int.reduceNe, Int.reduceAdd, Int.reduceSub, Int.reduceNeg, Nat.reduceLT, Nat.reduceLeDiff, Nat.reduceBEq, undef, (stA), Nat.reduceMul]; try simp (disch := omega) only [(vmp)])
     exact ⟨(j + 1, K4), ⟨by simp only; omega, hO'⟩, by simp only; omega, rfl, rfl⟩
   ·have hje : j = ps.length := by omega
    rw [hje, List.take_of_length_le (Nat.le_refl _)] at hO
    obtain ⟨es, clock, Ps, L, hI⟩ := hO
    have hres := gresult_ok _ _ _ _ _ _ _ (uinv_fin hI)
    (simp only [h, (vmA), Nat.reduceEqDiff, reduceIte, Nat.reduceAdd, Int.reduceToNat, Int.reduceLE, Int.reduceLT, Int.reduceEq, Int.reduceNe, Int.reduceAdd, Int.reduceSub, Int.reduceNeg, Nat.reduceLT, Nat.reduceLeDiff, Nat.reduceBEq, undef, (stA), Nat.reduceMul]; try simp (disch := omega) only [(vmp)])
    refine xWait.of hres ?_
    intro r τ hr
    obtain ⟨u', hu', rfl⟩ := uinv_res hI hr
    obtain rfl := uniR_fn hu' hU
    obtain ⟨es', c', rfl⟩ := hr.1
    rw [List.set_append_right _ _ (by omega), Nat.add_sub_cancel_left, List.take_left, List.drop_left]
    (simp only [(vmA), Nat.reduceEqDiff, reduceIte, Nat.reduceAdd, Int.reduceToNat, Int.reduceLE, Int.reduceLT, Int.reduceEq, Int.reduceNe, Int.reduceAdd, Int.reduceSub, Int.reduceNeg, Nat.reduceLT, Nat.reduceLeDiff, Nat.reduceBEq, undef, (stA), Nat.reduceMul]; try simp (disch := omega) only [(vmp)])
    exact ⟨_, .refl _, by simp only [AV.low, AV.low.lows, clsV_low, Bool.and_self], rfl⟩
  ·have h50' : (50 : Int) < ps.length := by omega
   have hu0 := hu.long hv h50
   subst hu0
   (simp only [h, h50', hml, if_false, (vmA), Nat.reduceEqDiff, reduceIte, Nat.reduceAdd, Int.reduceToNat, Int.reduceLE, Int.reduceLT, Int.reduceEq, Int.reduceNe, Int.reduceAdd, Int.reduceSub, Int.reduceNeg, Nat.reduceLT, Nat.reduceLeDiff, Nat.reduceBEq, undef, (stA), Nat.reduceMul]; try simp (disch := omega) only [(vmp)])
   exact ⟨_, .tup (.cons .none (.cons (.refl _) .nil)), by simp only [AV.low, AV.low.lows, Bool.and_self], rfl⟩
end Go.D
namespace Go.D
open Go Go.Vm Go.Proofs Go.RowKit
set_option maxHeartbeats 4000000 in
theorem unifyG_ok (a b : Tr) (ha : lenT a) (hb : lenT b) (u : List Cl × Int) (hu : UAll [(a, b)] u) (σ : List Ent) : ACalls E 16 [tyV a, tyV b] σ fun r τ => r = .tup [.sl (clsV u.1), i64 u.2] ∧ τ = σ := by
 have h := fun σ' => unifyAllG_ok [(a, b)] (by simp) (fun c hc => by rw [List.mem_singleton.1 hc]; exact ⟨ha, hb⟩) u hu σ'
 rcases a with ⟨d, n, us⟩
 rcases b with ⟨d', n', us'⟩
 refine xacalls T0 .freeze [] Tryz.func16 rfl (by kernel_rfl) (by kernel_rfl) (by simp [Tryz.ntmps16]) ?_
 simp only [List.map_cons, List.map_nil, pairV, tyCells, List.cons_append, List.nil_append] at h
 (simp only [tyV, (vmA), Nat.reduceEqDiff, reduceIte, Nat.reduceAdd, Int.reduceToNat, Int.reduceLE, Int.reduceLT, Int.reduceEq, Int.reduceNe, Int.reduceAdd, Int.reduceSub, Int.reduceNeg, Nat.reduceLT, Nat.reduceLeDiff, Nat.reduceBEq, undef, (stA), Nat.reduceMul]; try simp (disch := omega) only [(vmp)])
 refine xWait.go (h _) ?_
 (simp only [(vmA), Nat.reduceEqDiff, reduceIte, Nat.reduceAdd, Int.reduceToNat, Int.reduceLE, Int.reduceLT, Int.reduceEq, Int.reduceNe, Int.reduceAdd, Int.reduceSub, Int.reduceNeg, Nat.reduceLT, Nat.reduceLeDiff, Nat.reduceBEq, undef, (stA), Nat.reduceMul]; try simp (disch := omega) only [(vmp)])
 exact ⟨_, .refl _, by simp only [AV.low, AV.low.lows, clsV_low, Bool.and_self], rfl⟩
end Go.D
namespace Go.D
open Go Go.Vm Go.Proofs Go.RowKit
def exA : Tr := .mk kiPair [] [vT na, .mk kiInt [] []]
def exB : Tr := .mk kiPair [] [vT nb, vT nb]
theorem validA : validT conB exA = true := by decide +kernel
theorem validB : validT conB exB = true := by decide +kernel
abbrev tI : Tr := .mk kiInt [] []
def exF (n : List UInt8) : Tr := if n = na ∨ n = nb then tI else vT n
theorem tI_put (f : List UInt8 → Tr) : putF f tI = tI := by rw [putF_non (by decide)]; rfl
theorem exA_put (f : List UInt8 → Tr) : putF f exA = .mk kiPair [] [f na, tI] := by
 unfold exA; rw [putF_non (by decide), putFs, putFs, putFs, putF_vT, tI_put]
theorem exB_put (f : List UInt8 → Tr) : putF f exB = .mk kiPair [] [f nb, f nb] := by
 unfold exB; rw [putF_non (by decide), putFs, putFs, putFs, putF_vT]
theorem tI_vT (n : List UInt8) : ¬ tI = vT n := fun e => by
 have := (Tr.mk.inj e).1
 exact absurd this (by decide)
theorem exF_in {n : List UInt8} (h : n = na ∨ n = nb) : exF n = tI := if_pos h
theorem exF_out {n : List UInt8} (h : ¬ (n = na ∨ n = nb)) : exF n = vT n := if_neg h
theorem ex_mgu : Mgu [(exA, exB)] exF := by
 refine ⟨fun c hc => ?_, fun n => ?_, fun θ hθ n => ?_, fun n m e => ?_, fun n => ?_⟩
 ·rw [List.mem_singleton.1 hc]
  show putF exF exA = putF exF exB
  rw [exA_put, exB_put, exF_in (.inl rfl), exF_in (.inr rfl)]
 ·by_cases h : n = na ∨ n = nb
  ·rw [exF_in h, tI_put]
  ·rw [exF_out h, putF_vT, exF_out h]
 ·have h1 : putF θ exA = putF θ exB := hθ (exA, exB) (by simp)
  rw [exA_put, exB_put] at h1
  have h2 := (Tr.mk.inj h1).2.2
  simp only [List.cons.injEq, and_true] at h2
  by_cases h : n = na ∨ n = nb
  ·rw [exF_in h, tI_put]
   rcases h with rfl | rfl
   ·rw [h2.1, ← h2.2]
   ·exact h2.2
  ·rw [exF_out h, putF_vT]
 ·by_cases h : n = na ∨ n = nb
  ·rw [exF_in h] at e; exact absurd e (tI_vT m)
  ·rw [exF_out h] at e
   have := (Tr.mk.inj e).2.1
   rw [this]; exact List.lt_irrefl _
 ·by_cases h : n = na ∨ n = nb
  ·refine .inr ⟨?_, ?_⟩
   ·rcases h with rfl | rfl <;> decide
   ·rw [exF_in h]; exact ⟨by simp [lenT, lenTs], by decide +kernel⟩
  ·exact .inl (exF_out h)
theorem ex_no : resN exF lets = false := by
 unfold resN
 rw [List.any_eq_false]
 intro n _
 by_cases h : n = na ∨ n = nb
 ·have : fitsB (satT tI) = true := by decide +kernel
  rw [exF_in h, this]; simp
 ·rw [exF_out h]; simp
theorem ex_res : resC exF lets = [(na, tI), (nb, tI)] := by
 refine ascC_ext (resC_asc lets_asc) (by unfold ascC; simp; decide) fun n => ?_
 rw [resC_look ex_no]
 have ma : na ∈ lets := lets_mem.2 (by decide)
 have mb : nb ∈ lets := lets_mem.2 (by decide)
 unfold Sub'.look
 by_cases h1 : n = na
 ·subst h1
  rw [exF_in (.inl rfl), if_pos ⟨ma, tI_vT _⟩, if_pos rfl]
 ·rw [if_neg h1]
  unfold Sub'.look
  by_cases h2 : n = nb
  ·subst h2
   rw [exF_in (.inr rfl), if_pos ⟨mb, tI_vT _⟩, if_pos rfl]
  ·rw [if_neg h2, exF_out (by simp [h1, h2]), if_neg (by simp)]; rfl
theorem ex_all : UAll [(exA, exB)] ([(na, tI), (nb, tI)], 0) := by
 have hv : ∀ c ∈ [(exA, exB)], vB c = true := fun c hc => by
  rw [List.mem_singleton.1 hc]; unfold vB; rw [validA, validB]; rfl
 exact ⟨fun h => absurd hv h, fun _ h => absurd (by simp) h, fun _ _ => .inr ⟨exF, ex_mgu, .inr ⟨ex_no, by rw [ex_res]⟩⟩⟩
theorem exU_ok (σ : List Ent) : ACalls E 16 [.agg [.str kiPair, .str [], .sl [.agg [.str kiVar, .str na, nilS], .agg [.str kiInt, .str [], nilS]]], .agg [.str kiPair, .str [], .sl [.agg [.str kiVar, .str nb, nilS], .agg [.str kiVar, .str nb, nilS]]]] σ fun r τ => r = .tup [.sl (clsV [(na, tI), (nb, tI)]), i64 0] ∧ τ = σ := by
 have h := unifyG_ok exA exB (by simp [exA, vT, lenT, lenTs]) (by simp [exB, vT, lenT, lenTs]) _ ex_all σ
 refine ACalls.wk ?_ h
 simp only [exA, exB, vT, tyV, tysV]
 repeat' first | exact .nil | exact .refl _ | exact WkL.nil | apply Wk.agg | apply Wk.sl | apply WkL.cons
set_option maxHeartbeats 4000000 in
theorem awake_ok : AwakeOK := by
 intro σ
 refine xacalls T0 .drop [] Tryz.func15 rfl (by kernel_rfl) (by kernel_rfl) (by simp [Tryz.ntmps15]) ?_
 have h := fun σ' => exU_ok σ'
 have lA : ∀ n, AV.low.lows n [.agg [.str kiVar, .str na, nilS], .agg [.str kiInt, .str [], nilS]] = true := fun n => rfl
 have lB : ∀ n, AV.low.lows n [.agg [.str kiVar, .str nb, nilS], .agg [.str kiVar, .str nb, nilS]] = true := fun n => rfl
 (simp only [(vmA), Nat.reduceEqDiff, reduceIte, Nat.reduceAdd, Int.reduceToNat, Int.reduceLE, Int.reduceLT, Int.reduceEq, Int.reduceNe, Int.reduceAdd, Int.reduceSub, Int.reduceNeg, Nat.reduceLT, Nat.reduceLeDiff, Nat.reduceBEq, undef, (stA), Nat.reduceMul]; try simp (disch := omega) only [(vmp)])
 refine xWait.go (variable_ok na _) ?_
 (simp only [(vmA), Nat.reduceEqDiff, reduceIte, Nat.reduceAdd, Int.reduceToNat, Int.reduceLE, Int.reduceLT, Int.reduceEq, Int.reduceNe, Int.reduceAdd, Int.reduceSub, Int.reduceNeg, Nat.reduceLT, Nat.reduceLeDiff, Nat.reduceBEq, undef, (stA), Nat.reduceMul]; try simp (disch := omega) only [(vmp)])
 refine xWait.go (ty0_ok kiInt _) ?_
 (simp only [(vmA), Nat.reduceEqDiff, reduceIte, Nat.reduceAdd, Int.reduceToNat, Int.reduceLE, Int.reduceLT, Int.reduceEq, Int.reduceNe, Int.reduceAdd, Int.reduceSub, Int.reduceNeg, Nat.reduceLT, Nat.reduceLeDiff, Nat.reduceBEq, undef, (stA), Nat.reduceMul]; try simp (disch := omega) only [(vmp)])
 refine xWait.go (ty_ok kiPair _ lA _) ?_
 (simp only [(vmA), Nat.reduceEqDiff, reduceIte, Nat.reduceAdd, Int.reduceToNat, Int.reduceLE, Int.reduceLT, Int.reduceEq, Int.reduceNe, Int.reduceAdd, Int.reduceSub, Int.reduceNeg, Nat.reduceLT, Nat.reduceLeDiff, Nat.reduceBEq, undef, (stA), Nat.reduceMul]; try simp (disch := omega) only [(vmp)])
 refine xWait.go (variable_ok nb _) ?_
 (simp only [(vmA), Nat.reduceEqDiff, reduceIte, Nat.reduceAdd, Int.reduceToNat, Int.reduceLE, Int.reduceLT, Int.reduceEq, Int.reduceNe, Int.reduceAdd, Int.reduceSub, Int.reduceNeg, Nat.reduceLT, Nat.reduceLeDiff, Nat.reduceBEq, undef, (stA), Nat.reduceMul]; try simp (disch := omega) only [(vmp)])
 refine xWait.go (variable_ok nb _) ?_
 (simp only [(vmA), Nat.reduceEqDiff, reduceIte, Nat.reduceAdd, Int.reduceToNat, Int.reduceLE, Int.reduceLT, Int.reduceEq, Int.reduceNe, Int.reduceAdd, Int.reduceSub, Int.reduceNeg, Nat.reduceLT, Nat.reduceLeDiff, Nat.reduceBEq, undef, (stA), Nat.reduceMul]; try simp (disch := omega) only [(vmp)])
 refine xWait.go (ty_ok kiPair _ lB _) ?_
 (simp only [(vmA), Nat.reduceEqDiff, reduceIte, Nat.reduceAdd, Int.reduceToNat, Int.reduceLE, Int.reduceLT, Int.reduceEq, Int.reduceNe, Int.reduceAdd, Int.reduceSub, Int.reduceNeg, Nat.reduceLT, Nat.reduceLeDiff, Nat.reduceBEq, undef, (stA), Nat.reduceMul]; try simp (disch := omega) only [(vmp)])
 refine xWait.go (h _) ?_
 (simp only [clsV, List.map_cons, List.map_nil, clV, clC, tyCells, tysV, List.getD_cons_zero, List.getD_cons_succ, (vmA), Nat.reduceEqDiff, reduceIte, Nat.reduceAdd, Int.reduceToNat, Int.reduceLE, Int.reduceLT, Int.reduceEq, Int.reduceNe, Int.reduceAdd, Int.reduceSub, Int.reduceNeg, Nat.reduceLT, Nat.reduceLeDiff, Nat.reduceBEq, undef, (stA), Nat.reduceMul]; try simp (disch := omega) only [(vmp)])
end Go.D
namespace Go.D
open Go Go.Vm Go.Proofs Go.RowKit
theorem strsV_take (l : List (List UInt8)) (i : Nat) : (strsV l).take i = strsV (l.take i) := by simp [strsV]
theorem strsV_drop (l : List (List UInt8)) (i : Nat) : (strsV l).drop i = strsV (l.drop i) := by simp [strsV]
theorem strsV_app (a b : List (List UInt8)) : strsV a ++ strsV b = strsV (a ++ b) := by simp [strsV]
theorem strsV_el {l : List (List UInt8)} {e : AV} (h : e ∈ strsV l) : isEl 1 false e = true := by obtain ⟨x, _, rfl⟩ := List.mem_map.1 h; rfl
theorem strsV_at {l : List (List UInt8)} {i : Nat} {x : List UInt8} (h : l[i]? = some x) : (strsV l).getD i .un = .str x := by simp [strsV, List.getD, h]
theorem frz_strs' {n0 id ver imm ty n : Nat} {l : List Ent} {zs : List (List UInt8)} {cs : List AV} (hid : n0 ≤ id) (h : l[id - n0]? = some (.arr ty cs ver imm)) (hc : cs = strsV zs) (hn : n = zs.length) : Frz n0 l (.rsl id ver 0 n 1) (.sl (strsV zs)) := by
 subst hc; exact frz_strs hid h hn
def putS : List (List UInt8) → List UInt8 → List (List UInt8)
 | [], x => [x]
 | a :: r, x => if a < x then a :: putS r x else if a = x then a :: r else x :: a :: r
theorem putS_at : ∀ (l : List (List UInt8)) (x : List UInt8) (i : Nat), i ≤ l.length → (∀ y ∈ l.take i, y < x) → (∀ y, l[i]? = some y → ¬ y < x) → putS l x = if l[i]? = some x then l else l.take i ++ x :: l.drop i
 | [], x, i, hi, _, _ => by simp at hi; subst hi; simp [putS]
 | a :: r, x, 0, _, _, h => by
  have ha := h a (by simp)
  unfold putS
  rw [if_neg ha]
  by_cases e : a = x
  ·simp [e]
  ·simp [e]
 | a :: r, x, i + 1, hi, h1, h2 => by
  have ha := h1 a (by simp)
  have := putS_at r x i (by simpa using hi) (fun y hy => h1 y (by simp [hy])) (fun y hy => h2 y (by simpa using hy))
  unfold putS
  rw [if_pos ha, this]
  simp only [List.getElem?_cons_succ, List.take_succ_cons, List.drop_succ_cons, List.cons_append]
  split <;> rfl
theorem putS_mem {x y : List UInt8} : ∀ {l : List (List UInt8)}, y ∈ putS l x ↔ y = x ∨ y ∈ l
 | [] => by simp [putS]
 | a :: r => by
  unfold putS
  split
  ·rw [List.mem_cons, putS_mem, List.mem_cons]
   constructor
   ·rintro (h | h | h)
    ·exact .inr (.inl h)
    ·exact .inl h
    ·exact .inr (.inr h)
   ·rintro (h | h | h)
    ·exact .inr (.inl h)
    ·exact .inl h
    ·exact .inr (.inr h)
  ·split
   ·rename_i e
    rw [List.mem_cons]
    constructor
    ·exact .inr
    ·rintro (h | h)
     ·exact .inl (by rw [h, e])
     ·exact h
   ·rw [List.mem_cons]
theorem putS_len (x : List UInt8) : ∀ l : List (List UInt8), (putS l x).length ≤ l.length + 1
 | [] => by simp [putS]
 | a :: r => by
  have := putS_len x r
  unfold putS
  split
  ·simp only [List.length_cons]; omega
  ·split
   ·omega
   ·simp
set_option maxHeartbeats 4000000 in
theorem PutT_ok (l : List (List UInt8)) (x : List UInt8) (hl : l.length ≤ 1073741824) (σ : List Ent) : ACalls E 100 [.sl (strsV l), .str x] σ fun r τ => r = .sl (strsV (putS l x)) ∧ τ = σ := by
 refine xacalls T0 .freeze [34] Tryz.func100 rfl (by kernel_rfl) (by kernel_rfl) (by simp [Tryz.ntmps100]) ?_
 (simp only [(vmA), Nat.reduceEqDiff, reduceIte, Nat.reduceAdd, Int.reduceToNat, Int.reduceLE, Int.reduceLT, Int.reduceEq, Int.reduceNe, Int.reduceAdd, Int.reduceSub, Int.reduceNeg, Nat.reduceLT, Nat.reduceLeDiff, Nat.reduceBEq, undef, (stA), Nat.reduceMul]; try simp (disch := omega) only [(vmp)])
 refine xloop (α := Nat) T0 (fun i => [(0, .sl (strsV l)), (1, .str x), (5, i64 i)]) (fun _ => σ) (fun _ => []) (fun i => i ≤ l.length ∧ ∀ y ∈ l.take i, y < x) (fun i => l.length - i) (by kernel_rfl)
  ⟨0, by simp, by (simp only [(vmA), Nat.reduceEqDiff, reduceIte, Nat.reduceAdd, Int.reduceToNat, Int.reduceLE, Int.reduceLT, Int.reduceEq, Int.reduceNe, Int.reduceAdd, Int.reduceSub, Int.reduceNeg, Nat.reduceLT, Nat.reduceLeDiff, Nat.reduceBEq, undef, (stA), Nat.reduceMul, Int.natCast_zero]; try simp (disch := omega) only [(vmp)]), rfl, rfl⟩ ?_
 rintro i ⟨hi, hall⟩
 have hlt : (l.take i).length = i := by rw [List.length_take]; omega
 have hld : (l.drop i).length = l.length - i := List.length_drop
 by_cases h : (i : Int) < l.length
 ·have hi' : i < l.length := by omega
  have hu : l[i]? = some l[i] := List.getElem?_eq_getElem hi'
  obtain ⟨s1, _⟩ := take_splitC l i _ hu
  generalize l[i] = y at *
  have hg := strsV_at hu
  have hb := less_lt y x
  by_cases hx : y < x
  ·rw [decide_eq_true hx] at hb
   (simp only [h, hg, hb, strsV_len, (vmA), Nat.reduceEqDiff, reduceIte, Nat.reduceAdd, Int.reduceToNat, Int.reduceLE, Int.reduceLT, Int.reduceEq, Int.reduceNe, Int.reduceAdd, Int.reduceSub, Int.reduceNeg, Nat.reduceLT, Nat.reduceLeDiff, Nat.reduceBEq, undef, (stA), Nat.reduceMul]; try simp (disch := omega) only [(vmp)])
   exact ⟨i + 1, ⟨by omega, fun z hz => by
    rw [s1, List.mem_append] at hz
    rcases hz with hz | hz
    ·exact hall z hz
    ·rw [List.mem_singleton.1 hz]; exact hx⟩, by omega, rfl⟩
  ·rw [decide_eq_false hx] at hb
   have hp := putS_at l x i hi hall (fun z hz => by rw [hu] at hz; cases hz; exact hx)
   by_cases he : y = x
   ·subst he
    rw [if_pos hu] at hp
    (simp only [h, hg, hb, strsV_len, (vmA), Nat.reduceEqDiff, reduceIte, Nat.reduceAdd, Int.reduceToNat, Int.reduceLE, Int.reduceLT, Int.reduceEq, Int.reduceNe, Int.reduceAdd, Int.reduceSub, Int.reduceNeg, Nat.reduceLT, Nat.reduceLeDiff, Nat.reduceBEq, undef, (stA), Nat.reduceMul]; try simp (disch := omega) only [(vmp)])
    rw [hp]
    exact ⟨_, .refl _, by simp only [AV.low]; exact strsV_low _ _, rfl⟩
   ·rw [if_neg (fun e => he (by rw [hu] at e; exact Option.some.inj e))] at hp
    (simp only [h, hg, hb, he, strsV_len, Option.getD_some, strsV_take, strsV_drop, strsV_cells, strsV_app, (vmA), Nat.reduceEqDiff, reduceIte, Nat.reduceAdd, Int.reduceToNat, Int.reduceLE, Int.reduceLT, Int.reduceEq, Int.reduceNe, Int.reduceAdd, Int.reduceSub, Int.reduceNeg, Nat.reduceLT, Nat.reduceLeDiff, Nat.reduceBEq, undef, (stA), Nat.reduceMul]; try simp (disch := omega) only [(vmp)])
    rw [hp]
    exact ⟨⟨by omega, fun e he => strsV_el he⟩, ⟨fun e he => strsV_el he, by unfold maxRoom; omega, by unfold maxRoom; omega⟩, ⟨by omega, by unfold maxRoom; omega, by unfold maxRoom; omega⟩, ⟨by omega, fun e he => strsV_el he⟩,
     ⟨fun e he => strsV_el he, by unfold maxRoom; omega, by unfold maxRoom; omega⟩, _, frz_strs' (Nat.le_refl _) (by rw [Nat.sub_self]; rfl) (by simp [strsV]) (by simp; omega), strsV_low _ _, rfl⟩
 ·have hp := putS_at l x i hi hall (fun z hz => by rw [List.getElem?_eq_none (by omega)] at hz; cases hz)
  rw [if_neg (fun e => by rw [List.getElem?_eq_none (by omega)] at e; cases e)] at hp
  (simp only [h, strsV_len, Option.getD_some, strsV_take, strsV_drop, strsV_cells, strsV_app, (vmA), Nat.reduceEqDiff, reduceIte, Nat.reduceAdd, Int.reduceToNat, Int.reduceLE, Int.reduceLT, Int.reduceEq, Int.reduceNe, Int.reduceAdd, Int.reduceSub, Int.reduceNeg, Nat.reduceLT, Nat.reduceLeDiff, Nat.reduceBEq, undef, (stA), Nat.reduceMul]; try simp (disch := omega) only [(vmp)])
  rw [hp]
  exact ⟨⟨by omega, fun e he => strsV_el he⟩, ⟨fun e he => strsV_el he, by unfold maxRoom; omega, by unfold maxRoom; omega⟩, ⟨by omega, by unfold maxRoom; omega, by unfold maxRoom; omega⟩, ⟨by omega, fun e he => strsV_el he⟩,
   ⟨fun e he => strsV_el he, by unfold maxRoom; omega, by unfold maxRoom; omega⟩, _, frz_strs' (Nat.le_refl _) (by rw [Nat.sub_self]; rfl) (by simp [strsV]) (by simp; omega), strsV_low _ _, rfl⟩
end Go.D
namespace Go.D
open Go
def val (acc : Nat) (l : List UInt8) : Nat := l.foldl (fun a c => a * 10 + (c.toNat - 48)) acc
def most (neg : Bool) : List UInt8 := [57, 50, 50, 51, 51, 55, 50, 48, 51, 54, 56, 53, 52, 55, 55, 53, 56, 48, if neg then 56 else 55]
def fitsD (neg : Bool) (d : List UInt8) : Bool := decide (d.length < 19) || (decide (d.length = 19) && !Op.bytesLess (most neg) d)
def body (l : List UInt8) : List UInt8 := if l.getD 0 0 = 45 then l.drop 1 else l
def fits (l : List UInt8) : Bool := fitsD (decide (l.getD 0 0 = 45)) (body l)
theorem negN_take (l : List UInt8) (k : Nat) (hk : negN l < k) : negN (l.take k) = negN l := by
 have hg : ∀ i, i < k → (l.take k).getD i 0 = l.getD i 0 := fun i hi => by simp [List.getD, hi]
 have hb : negB (l.take k) = negB l := by
  by_cases h2 : 1 < k
  ·unfold negB
   rw [hg 0 (by omega), hg 1 h2]
   congr 2
   rw [List.length_take]
   simp; omega
  ·have : negB l = false := by
    cases hh : negB l
    ·rfl
    ·simp [negN, hh] at hk; omega
   rw [this]
   have : ¬ (1 : Int) < (l.take k).length := by rw [List.length_take]; omega
   simp only [negB, this, decide_false, Bool.false_and]
 unfold negN; rw [hb]
theorem takeWhile_all {p : UInt8 → Bool} : ∀ {l : List UInt8}, (∀ c ∈ l, p c = true) → l.takeWhile p = l
 | [], _ => rfl
 | a :: l, h => by rw [List.takeWhile_cons, if_pos (h a (by simp)), takeWhile_all fun c hc => h c (by simp [hc])]
theorem digits_take (l : List UInt8) : digits (l.take (digits l)) = digits l ∧ digits l ≤ l.length := by
 have hle := negN_le l
 by_cases h1 : negN l = l.length
 ·have : digits l = 0 := by unfold digits; rw [if_pos h1]
  rw [this]; simp [digits, negN, negB]
 ·cases h2 : isDig (l.getD (negN l) 0).toNat
  ·have : digits l = 0 := by unfold digits; rw [if_neg h1, if_neg (by rw [h2]; simp)]
   rw [this]; simp [digits, negN, negB]
  ·have key : ∀ k, negN l < k → k ≤ l.length → (l.take k).length = k ∧ negN (l.take k) = negN l ∧ (l.take k).getD (negN l) 0 = l.getD (negN l) 0 :=
    fun k hk hkl => ⟨by simp; omega, negN_take l k hk, by simp [List.getD, hk]⟩
   by_cases h3 : ((l.getD (negN l) 0).toNat : Int) = 48
   ·have e : digits l = negN l + 1 := by unfold digits; rw [if_neg h1, if_pos h2, if_pos h3]
    obtain ⟨k1, k2, k3⟩ := key (negN l + 1) (by omega) (by omega)
    refine ⟨?_, by omega⟩
    rw [e]; unfold digits
    rw [k2, k1, k3, if_neg (by omega), if_pos h2, if_pos h3]
   ·have e : digits l = negN l + ((l.drop (negN l)).takeWhile (pB isDig)).length := by unfold digits; rw [if_neg h1, if_pos h2, if_neg h3]
    have hpos : 0 < ((l.drop (negN l)).takeWhile (pB isDig)).length := by
     rw [List.drop_eq_getElem_cons (by omega : negN l < l.length), List.takeWhile_cons, if_pos (by
      have : l[negN l]'(by omega) = l.getD (negN l) 0 := by simp [List.getD, (by omega : negN l < l.length)]
      rw [this]; exact h2)]
     simp
    have hle2 : ((l.drop (negN l)).takeWhile (pB isDig)).length ≤ (l.drop (negN l)).length := (List.takeWhile_prefix _).length_le
    have hdl : (l.drop (negN l)).length = l.length - negN l := List.length_drop
    obtain ⟨k1, k2, k3⟩ := key (digits l) (by omega) (by omega)
    refine ⟨?_, by omega⟩
    generalize digits l = k at *
    unfold digits
    rw [k2, k1, k3, if_neg (by omega), if_pos h2, if_neg h3, e]
    congr 1
    rw [List.drop_take]
    have : ∀ (x : List UInt8), (x.take (x.takeWhile (pB isDig)).length).takeWhile (pB isDig) = x.takeWhile (pB isDig) := fun x => by
     rw [← (List.prefix_iff_eq_take.1 (List.takeWhile_prefix (p := pB isDig) (l := x)))]
     exact takeWhile_all fun c hc => List.all_eq_true.1 List.all_takeWhile c hc
    rw [show negN l + ((l.drop (negN l)).takeWhile (pB isDig)).length - negN l = ((l.drop (negN l)).takeWhile (pB isDig)).length by omega, this]
end Go.D
namespace Go.D
open Go
def cs (d : Nat) : List UInt8 → Option Nat
 | [] => none
 | [_] => none
 | a :: b :: r =>
  if a = 40 ∧ b = 42 then (cs (d + 1) r).map (· + 2)
  else if a = 42 ∧ b = 41 then (if d = 1 then some 2 else (cs (d - 1) r).map (· + 2))
  else (cs d (b :: r)).map (· + 1)
def qS : List UInt8 → Option (Nat × List UInt8)
 | [] => none
 | [a] => if a = 34 then some (1, []) else none
 | a :: b :: r =>
  if a = 34 then some (1, [])
  else if a = 92 then
   (if b = 110 then (qS r).map fun x => (x.1 + 2, 10 :: x.2)
    else if b = 34 ∨ b = 92 then (qS r).map fun x => (x.1 + 2, b :: x.2) else none)
  else if btw 32 a.toNat 126 = true then (qS (b :: r)).map fun x => (x.1 + 1, a :: x.2) else none
def kInt : List UInt8 := [105, 110, 116]
def kText : List UInt8 := [116, 101, 120, 116]
def kVar : List UInt8 := [118, 97, 114]
def kSign : List UInt8 := [115, 105, 103, 110]
def one (l : List UInt8) : Option (List UInt8 × List UInt8 × Nat) :=
 if ¬ (long true l).2 = [] then some ((long true l).2, l.take (long true l).1, (long true l).1)
 else if 0 < digits l then (if fits (l.take (digits l)) then some (kInt, l.take (digits l), digits l) else none)
 else if l.getD 0 0 = 34 then (match qS (l.drop 1) with
  | some x => if x.2.length ≤ 200 then some (kText, x.2, x.1 + 1) else none
  | none => none)
 else if 1 < l.length ∧ l.getD 0 0 = 39 ∧ btw 97 (l.getD 1 0).toNat 122 = true then some (kVar, l.take 2, 2)
 else if sign l = [] then none else some (kSign, sign l, (sign l).length)
theorem sign_eq (l : List UInt8) : sign l =
  if l.take 2 = [58, 58] ∨ l.take 2 = [61, 62] ∨ l.take 2 = [45, 62] ∨ l.take 2 = [58, 62] then l.take 2
  else if l.getD 0 0 ∈ ([40, 41, 91, 93, 44, 59, 58, 61, 124, 95, 43, 45, 42, 47, 37, 60, 94] : List UInt8) then l.take 1 else [] := by
 have e1 : sign l = ([[58, 58], [61, 62], [45, 62], [58, 62]] : List (List UInt8)).foldl (signStep l) (([[40], [41], [91], [93], [44], [59], [58], [61], [124], [95], [43], [45], [42], [47], [37], [60], [94]] : List (List UInt8)).foldl (signStep l) []) := by simp only [sign, signs, List.foldl_cons, List.foldl_nil]
 have e2 : ∀ (a : UInt8) (r : List UInt8) (ss : List UInt8), (ss.map fun x => [x]).foldl (signStep (a :: r)) [] = if a ∈ ss then [a] else [] := by
  intro a r ss
  have g : ∀ (ss : List UInt8), (ss.map fun x => [x]).foldl (signStep (a :: r)) [a] = [a] := by
   intro ss
   induction ss with
   | nil => rfl
   | cons b ss ih => rw [List.map_cons, List.foldl_cons, signStep, if_neg (by simp)]; exact ih
  induction ss with
  | nil => rfl
  | cons b ss ih =>
   rw [List.map_cons, List.foldl_cons]
   by_cases h : b = a
   ·subst h
    rw [signStep, if_pos (by simp [Lib.hasPrefix, List.isPrefixOf]), g]
    simp
   ·rw [signStep, if_neg (by simp [Lib.hasPrefix, List.isPrefixOf, h]), ih]
    simp [Ne.symm h]
 have e3 : ([[40], [41], [91], [93], [44], [59], [58], [61], [124], [95], [43], [45], [42], [47], [37], [60], [94]] : List (List UInt8)) = ([40, 41, 91, 93, 44, 59, 58, 61, 124, 95, 43, 45, 42, 47, 37, 60, 94] : List UInt8).map fun x => [x] := rfl
 rw [e1, e3]
 rcases l with _ | ⟨a, _ | ⟨b, r⟩⟩
 ·have hp : ∀ (s : List UInt8) (x : UInt8) (y : List UInt8), signStep [] s (x :: y) = s := fun s x y => by simp [signStep, Lib.hasPrefix, List.isPrefixOf]
  simp [hp]
 ·rw [e2]
  have hp : ∀ (s : List UInt8) (x y : UInt8), signStep [a] s [x, y] = s := fun s x y => by simp [signStep, Lib.hasPrefix, List.isPrefixOf]
  simp [hp]
 ·rw [e2]
  have hp : ∀ (s : List UInt8) (x y : UInt8), signStep (a :: b :: r) s [x, y] = if s.length < 2 ∧ (a = x ∧ b = y) then [a, b] else s := fun s x y => by
   unfold signStep
   by_cases h : s.length < 2 ∧ (a = x ∧ b = y)
   ·rw [if_pos h, if_pos (by simp [Lib.hasPrefix, List.isPrefixOf, h]), h.2.1, h.2.2]
   ·rw [if_neg h, if_neg (by simpa [Lib.hasPrefix, List.isPrefixOf, @eq_comm _ x, @eq_comm _ y] using h)]
  generalize hq : (if a ∈ ([40, 41, 91, 93, 44, 59, 58, 61, 124, 95, 43, 45, 42, 47, 37, 60, 94] : List UInt8) then [a] else []) = q
  have hql : q.length < 2 := by rw [← hq]; split <;> simp
  simp only [List.foldl_cons, List.foldl_nil, hp, List.take_succ_cons, List.take_zero, List.getD_cons_zero, List.cons.injEq, and_true]
  by_cases h1 : a = 58 ∧ b = 58
  ·simp [h1, hql]
  by_cases h2 : a = 61 ∧ b = 62
  ·simp [h1, h2, hql]
  by_cases h3 : a = 45 ∧ b = 62
  ·simp [h1, h2, h3, hql]
  by_cases h4 : a = 58 ∧ b = 62
  ·simp [h1, h2, h3, h4, hql]
  ·simp only [h1, h2, h3, h4, and_false, if_false, or_self]
   exact hq.symm
end Go.D
namespace Go.D
open Go
def letter (a : UInt8) : Bool := btw 97 a.toNat 122 || btw 65 a.toNat 90
def signsN (l : List UInt8) : Nat :=
 if l.take 2 = [58, 58] ∨ l.take 2 = [61, 62] ∨ l.take 2 = [45, 62] ∨ l.take 2 = [58, 62] then 2
 else if l.getD 0 0 ∈ ([40, 41, 91, 93, 44, 59, 58, 61, 124, 95, 43, 45, 42, 47, 37, 60, 94] : List UInt8) then 1 else 0
theorem sign_len (l : List UInt8) : (sign l = [] ↔ signsN l = 0) ∧ sign l = l.take (signsN l) ∧ (sign l).length = signsN l := by
 rw [sign_eq]
 unfold signsN
 split
 ·rename_i h
  have : 2 ≤ l.length := by
   rcases l with _ | ⟨a, _ | ⟨b, r⟩⟩ <;> simp at h ⊢
  refine ⟨⟨fun e => ?_, fun e => by omega⟩, rfl, by simp; omega⟩
  rw [e] at h; simp at h
 ·split
  ·rename_i h
   rcases l with _ | ⟨a, r⟩
   ·simp at h
   ·simp
  ·simp
theorem long_letter (f : Bool) (l : List UInt8) (h : letter (l.getD 0 0) = false) : long f l = (0, []) := by
 simp only [letter, Bool.or_eq_false_iff] at h
 rw [long]
 split
 ·rfl
 ·rw [if_neg (by rw [h.1]; simp), if_neg (by rw [h.2]; simp)]
theorem btw_iff (a b c : Int) : btw a b c = true ↔ a ≤ b ∧ b ≤ c := by simp [btw]
theorem letter_num (a : UInt8) (h : letter a = true) : (97 ≤ a.toNat ∧ a.toNat ≤ 122) ∨ (65 ≤ a.toNat ∧ a.toNat ≤ 90) := by
 simp only [letter, Bool.or_eq_true, btw_iff] at h
 omega
theorem digits_head (l : List UInt8) (h : 0 < digits l) : l.getD 0 0 = 45 ∨ (48 ≤ (l.getD 0 0).toNat ∧ (l.getD 0 0).toNat ≤ 57) := by
 unfold digits at h
 split at h
 ·omega
 split at h
 ·rename_i h1 h2
  unfold isDig at h2
  rw [btw_iff] at h2
  unfold negN at h2
  cases hb : negB l
  ·rw [hb] at h2; simp only [Bool.false_eq_true, if_false] at h2; right; omega
  ·left
   simp only [negB, Bool.and_eq_true, decide_eq_true_eq] at hb
   have := hb.2.1
   have h5 : (l.getD 0 0).toNat = 45 := by omega
   exact UInt8.toNat_inj.1 h5
 ·omega
def oneR (l : List UInt8) : Option (List UInt8 × List UInt8 × Nat) :=
 if letter (l.getD 0 0) = true then (if (long true l).2 = [] then none else some ((long true l).2, l.take (long true l).1, (long true l).1))
 else if l.getD 0 0 = 34 then (match qS (l.drop 1) with
  | some x => if x.2.length ≤ 200 then some (kText, x.2, x.1 + 1) else none
  | none => none)
 else if l.getD 0 0 = 39 then (if 1 < l.length ∧ btw 97 (l.getD 1 0).toNat 122 = true then some (kVar, l.take 2, 2) else none)
 else if 0 < digits l then (if fits (l.take (digits l)) then some (kInt, l.take (digits l), digits l) else none)
 else if signsN l = 0 then none else some (kSign, l.take (signsN l), signsN l)
theorem signs_num (a : UInt8) (h : a ∈ ([40, 41, 91, 93, 44, 59, 58, 61, 124, 95, 43, 45, 42, 47, 37, 60, 94] : List UInt8)) :
  letter a = false ∧ a ≠ 39 := by
 revert a; decide
theorem signs_none (l : List UInt8) (h : l.getD 0 0 = 39 ∨ letter (l.getD 0 0) = true) : signsN l = 0 := by
 unfold signsN
 have h0 : l.getD 0 0 ∉ ([40, 41, 91, 93, 44, 59, 58, 61, 124, 95, 43, 45, 42, 47, 37, 60, 94] : List UInt8) := fun hm => by
  obtain ⟨h1, h2⟩ := signs_num _ hm
  rcases h with h | h
  ·exact h2 h
  ·rw [h1] at h; cases h
 rw [if_neg, if_neg h0]
 intro hh
 apply h0
 rcases l with _ | ⟨a, _ | ⟨b, r⟩⟩
 ·simp at hh
 ·simp at hh
 ·simp only [List.take_succ_cons, List.take_zero, List.cons.injEq, and_true, List.getD_cons_zero] at hh ⊢
  rcases hh with hh | hh | hh | hh <;> rw [hh.1] <;> decide
theorem one_eq (l : List UInt8) : one l = oneR l := by
 obtain ⟨s1, s2, s3⟩ := sign_len l
 unfold one oneR
 cases hl : letter (l.getD 0 0)
 ·have : (long true l).2 = [] := by rw [long_letter true l hl]
  rw [if_neg (by simp [this])]
  simp only [Bool.false_eq_true, if_false]
  by_cases hd : 0 < digits l
  ·have hh := digits_head l hd
   have h1 : ¬ l.getD 0 0 = 34 := fun e => by rw [e] at hh; revert hh; decide
   have h2 : ¬ l.getD 0 0 = 39 := fun e => by rw [e] at hh; revert hh; decide
   rw [if_pos hd, if_neg h1, if_neg h2, if_pos hd]
  ·rw [if_neg hd, if_neg hd]
   by_cases h1 : l.getD 0 0 = 34
   ·rw [if_pos h1, if_pos h1]; try (cases qS (l.drop 1) <;> rfl)
   ·rw [if_neg h1, if_neg h1]
    by_cases h2 : l.getD 0 0 = 39
    ·rw [if_pos h2]
     have : sign l = [] := s1.2 (signs_none l (.inl h2))
     simp only [h2, true_and, this, if_true]
    ·rw [if_neg h2, if_neg (fun e => h2 e.2.1), s3, s2]
     by_cases h3 : signsN l = 0
     ·rw [if_pos h3, if_pos (by rw [h3]; rfl)]
     ·rw [if_neg h3, if_neg (by rw [← s2]; intro e; exact h3 (s1.1 e))]
 ·simp only [if_true]
  by_cases h0 : (long true l).2 = []
  ·rw [if_neg (by simp [h0]), if_pos h0]
   have hn := letter_num _ hl
   have hd : ¬ 0 < digits l := fun hd => by
    have := digits_head l hd
    rcases this with h | h
    ·rw [h] at hn; revert hn; decide
    ·omega
   have h1 : ¬ l.getD 0 0 = 34 := fun e => by rw [e] at hn; revert hn; decide
   have h2 : ¬ l.getD 0 0 = 39 := fun e => by rw [e] at hn; revert hn; decide
   rw [if_neg hd, if_neg h1, if_neg (by simp only [h2, false_and, and_false, not_false_eq_true]), if_pos (s1.2 (signs_none l (.inr hl)))]
  ·rw [if_pos h0, if_neg h0]
def tail (l : List UInt8) (n : Nat) : Nat × List UInt8 :=
 if n = l.length ∨ ¬ (l.getD n 0).toNat = 46 then (n, kCon)
 else if (long false (l.drop (n + 1))).2 = [] then (0, []) else (n + 1 + (long false (l.drop (n + 1))).1, (long false (l.drop (n + 1))).2)
theorem long_small (f : Bool) (l : List UInt8) (h : btw 97 (l.getD 0 0).toNat 122 = true) : long f l = if f = true ∧ l.take (word l) ∈ keys then (word l, kKey) else (word l, kName) := by
 rw [long, if_neg, if_pos h]
 intro e
 have : l = [] := by simpa using e
 rw [this] at h; revert h; decide
theorem small_great (a : Int) (h : btw 65 a 90 = true) : btw 97 a 122 = false := by
 rw [btw_iff] at h
 simp [btw]; omega
theorem long_great (f : Bool) (l : List UInt8) (h : btw 65 (l.getD 0 0).toNat 90 = true) : long f l = tail l (word l) := by
 rw [long, if_neg, if_neg (by rw [small_great _ h]; simp), if_pos h]
 ·rfl
 intro e
 have : l = [] := by simpa using e
 rw [this] at h; revert h; decide
theorem tail_dot (l : List UInt8) (n : Nat) (h : n < l.length) (h1 : (l.getD n 0).toNat = 46) :
  (letter (l.getD (n + 1) 0) = false → tail l n = (0, [])) ∧
  (btw 97 (l.getD (n + 1) 0).toNat 122 = true → tail l n = (n + 1 + word (l.drop (n + 1)), kName)) ∧
  (btw 65 (l.getD (n + 1) 0).toNat 90 = true → tail l n = tail l (n + 1 + word (l.drop (n + 1)))) := by
 have hg : (l.drop (n + 1)).getD 0 0 = l.getD (n + 1) 0 := by simp [List.getD]
 have e : tail l n = if (long false (l.drop (n + 1))).2 = [] then (0, []) else (n + 1 + (long false (l.drop (n + 1))).1, (long false (l.drop (n + 1))).2) := by
  unfold tail; rw [if_neg (by omega)]
 refine ⟨fun h2 => ?_, fun h2 => ?_, fun h2 => ?_⟩
 ·rw [e, long_letter false _ (by rw [hg]; exact h2), if_pos rfl]
 ·have e2 : long false (l.drop (n + 1)) = (word (l.drop (n + 1)), kName) := by
   rw [long_small false _ (by rw [hg]; exact h2), if_neg (by simp)]
  rw [e, e2, if_neg (by simp [kName])]
 ·have hw : word (l.drop (n + 1)) ≤ (l.drop (n + 1)).length := word_le _
  have hgt : n + 1 < l.length := by
   rcases Nat.lt_or_ge (n + 1) l.length with h | h
   ·exact h
   ·rw [show l.getD (n + 1) 0 = 0 by simp [List.getD, h], btw_iff] at h2; exact absurd h2.1 (by decide)
  rw [List.length_drop] at hw
  rw [e, long_great false _ (by rw [hg]; exact h2)]
  generalize hwd : word (l.drop (n + 1)) = w at *
  have hg2 : (l.drop (n + 1)).getD w 0 = l.getD (n + 1 + w) 0 := by simp [List.getD]
  unfold tail
  rw [hg2, List.length_drop, List.drop_drop]
  have hc : (w = l.length - (n + 1) ∨ ¬ (l.getD (n + 1 + w) 0).toNat = 46) ↔ (n + 1 + w = l.length ∨ ¬ (l.getD (n + 1 + w) 0).toNat = 46) := by omega
  by_cases h3 : n + 1 + w = l.length ∨ ¬ (l.getD (n + 1 + w) 0).toNat = 46
  ·rw [if_pos (hc.2 h3), if_pos h3, if_neg (by simp [kCon])]
  ·rw [if_neg (fun e => h3 (hc.1 e)), if_neg h3]
   rw [show n + 1 + (w + 1) = n + 1 + w + 1 by omega]
   by_cases h4 : (long false (l.drop (n + 1 + w + 1))).2 = []
   ·rw [if_pos h4, if_pos h4]
    simp
   ·rw [if_neg h4, if_neg h4, if_neg h4]
    simp only [Prod.mk.injEq, and_true]
    omega
end Go.D
namespace Go.D
open Go
theorem word_pos (l : List UInt8) (h : letter (l.getD 0 0) = true) : 0 < word l := by
 rcases l with _ | ⟨a, r⟩
 ·revert h; decide
 ·have : pB isPart a = true := by
   simp only [List.getD_cons_zero, letter, Bool.or_eq_true] at h
   simp only [pB, isPart, Bool.or_eq_true]
   rcases h with h | h
   ·exact .inl (.inl (.inl (.inl h)))
   ·exact .inl (.inl (.inl (.inr h)))
  unfold word
  rw [List.takeWhile_cons, if_pos this]
  simp
theorem long_le (n : Nat) : ∀ (f : Bool) (l : List UInt8), l.length ≤ n → (long f l).1 ≤ l.length ∧ (¬ (long f l).2 = [] → 0 < (long f l).1) := by
 induction n with
 | zero => intro f l h; rw [long, if_pos (by omega)]; simp
 | succ n ih =>
  intro f l h
  have hw := word_le l
  cases hl : letter (l.getD 0 0)
  ·rw [long_letter f l hl]; simp
  ·have hp := word_pos l hl
   have h0 : ¬ l.length = 0 := by omega
   simp only [letter, Bool.or_eq_true] at hl
   rcases hl with hl | hl
   ·rw [long_small f l hl]
    split <;> exact ⟨hw, fun _ => hp⟩
   ·rw [long_great f l hl]
    unfold tail
    split
    ·exact ⟨hw, fun _ => hp⟩
    ·rename_i h1
     obtain ⟨i1, i2⟩ := ih false (l.drop (word l + 1)) (by rw [List.length_drop]; omega)
     rw [List.length_drop] at i1
     split
     ·simp
     ·exact ⟨by simp only; omega, fun _ => by simp only; omega⟩
end Go.D
namespace Go.D
open Go Go.Vm Go.Proofs Go.RowKit
theorem small_ok (a : Int) (σ : List Ent) : ACalls E 161 [u8 a] σ fun r τ => r = boolV (btw 97 a 122) ∧ τ = σ := by
 refine xacalls T0 .drop [] Tryz.func161 rfl (by kernel_rfl) (by kernel_rfl) (by simp [Tryz.ntmps161]) ?_
 unfold btw
 by_cases h : 97 ≤ a <;> (simp only [h, (vmA), Nat.reduceEqDiff, reduceIte, Nat.reduceAdd, Int.reduceToNat, Int.reduceLE, Int.reduceLT, Int.reduceEq, Int.reduceNe, Int.reduceAdd, Int.reduceSub, Int.reduceNeg, Nat.reduceLT, Nat.reduceLeDiff, Nat.reduceBEq, undef, (stA), Nat.reduceMul]; try simp (disch := omega) only [(vmp)])
theorem great_ok (a : Int) (σ : List Ent) : ACalls E 162 [u8 a] σ fun r τ => r = boolV (btw 65 a 90) ∧ τ = σ := by
 refine xacalls T0 .drop [] Tryz.func162 rfl (by kernel_rfl) (by kernel_rfl) (by simp [Tryz.ntmps162]) ?_
 unfold btw
 by_cases h : 65 ≤ a <;> (simp only [h, (vmA), Nat.reduceEqDiff, reduceIte, Nat.reduceAdd, Int.reduceToNat, Int.reduceLE, Int.reduceLT, Int.reduceEq, Int.reduceNe, Int.reduceAdd, Int.reduceSub, Int.reduceNeg, Nat.reduceLT, Nat.reduceLeDiff, Nat.reduceBEq, undef, (stA), Nat.reduceMul]; try simp (disch := omega) only [(vmp)])
theorem digit_ok (a : Int) (σ : List Ent) : ACalls E 177 [u8 a] σ fun r τ => r = boolV (btw 48 a 57) ∧ τ = σ := by
 refine xacalls T0 .drop [] Tryz.func177 rfl (by kernel_rfl) (by kernel_rfl) (by simp [Tryz.ntmps177]) ?_
 unfold btw
 by_cases h : 48 ≤ a <;> (simp only [h, (vmA), Nat.reduceEqDiff, reduceIte, Nat.reduceAdd, Int.reduceToNat, Int.reduceLE, Int.reduceLT, Int.reduceEq, Int.reduceNe, Int.reduceAdd, Int.reduceSub, Int.reduceNeg, Nat.reduceLT, Nat.reduceLeDiff, Nat.reduceBEq, undef, (stA), Nat.reduceMul]; try simp (disch := omega) only [(vmp)])
theorem rest_ok (b : Int) (σ : List Ent) : ACalls E 184 [u8 b] σ fun r τ => r = boolV (isPart b) ∧ τ = σ := by
 refine xacalls T0 .drop [] Tryz.func184 rfl (by kernel_rfl) (by kernel_rfl) (by simp [Tryz.ntmps184]) ?_
 unfold isPart
 (simp only [(vmA), Nat.reduceEqDiff, reduceIte, Nat.reduceAdd, Int.reduceToNat, Int.reduceLE, Int.reduceLT, Int.reduceEq, Int.reduceNe, Int.reduceAdd, Int.reduceSub, Int.reduceNeg, Nat.reduceLT, Nat.reduceLeDiff, Nat.reduceBEq, undef, (stA), Nat.reduceMul]; try simp (disch := omega) only [(vmp)])
 refine xWait.go (small_ok _ _) ?_
 cases h1 : btw 97 b 122 <;> (simp only [(vmA), Nat.reduceEqDiff, reduceIte, Nat.reduceAdd, Int.reduceToNat, Int.reduceLE, Int.reduceLT, Int.reduceEq, Int.reduceNe, Int.reduceAdd, Int.reduceSub, Int.reduceNeg, Nat.reduceLT, Nat.reduceLeDiff, Nat.reduceBEq, undef, (stA), Nat.reduceMul]; try simp (disch := omega) only [(vmp)])
 refine xWait.go (great_ok _ _) ?_
 cases h2 : btw 65 b 90 <;> (simp only [(vmA), Nat.reduceEqDiff, reduceIte, Nat.reduceAdd, Int.reduceToNat, Int.reduceLE, Int.reduceLT, Int.reduceEq, Int.reduceNe, Int.reduceAdd, Int.reduceSub, Int.reduceNeg, Nat.reduceLT, Nat.reduceLeDiff, Nat.reduceBEq, undef, (stA), Nat.reduceMul]; try simp (disch := omega) only [(vmp)])
 refine xWait.go (digit_ok _ _) ?_
 cases h3 : btw 48 b 57 <;> (simp only [(vmA), Nat.reduceEqDiff, reduceIte, Nat.reduceAdd, Int.reduceToNat, Int.reduceLE, Int.reduceLT, Int.reduceEq, Int.reduceNe, Int.reduceAdd, Int.reduceSub, Int.reduceNeg, Nat.reduceLT, Nat.reduceLeDiff, Nat.reduceBEq, undef, (stA), Nat.reduceMul]; try simp (disch := omega) only [(vmp)])
 by_cases h4 : b = 95 <;> (simp only [h4, (vmA), Nat.reduceEqDiff, reduceIte, Nat.reduceAdd, Int.reduceToNat, Int.reduceLE, Int.reduceLT, Int.reduceEq, Int.reduceNe, Int.reduceAdd, Int.reduceSub, Int.reduceNeg, Nat.reduceLT, Nat.reduceLeDiff, Nat.reduceBEq, undef, (stA), Nat.reduceMul]; try simp (disch := omega) only [(vmp)])
def wordR (l : List UInt8) : Nat := if letter (l.getD 0 0) = true then word l else 0
theorem wordR_ok (l : List UInt8) (i : Nat) (hl : l.length ≤ 1099511627776) (hi : i ≤ l.length) (σ : List Ent) : ACalls E 175 [.str l, i64 i] σ fun r τ => r = i64 (wordR (l.drop i)) ∧ τ = σ := by
 refine xacalls T0 .drop [] Tryz.func175 rfl (by kernel_rfl) (by kernel_rfl) (by simp [Tryz.ntmps175]) ?_
 have hg : ∀ j, (l.drop i).getD j 0 = l.getD (i + j) 0 := fun j => by simp [List.getD]
 have hdl : (l.drop i).length = l.length - i := List.length_drop
 (simp only [(vmA), Nat.reduceEqDiff, reduceIte, Nat.reduceAdd, Int.reduceToNat, Int.reduceLE, Int.reduceLT, Int.reduceEq, Int.reduceNe, Int.reduceAdd, Int.reduceSub, Int.reduceNeg, Nat.reduceLT, Nat.reduceLeDiff, Nat.reduceBEq, undef, (stA), Nat.reduceMul]; try simp (disch := omega) only [(vmp)])
 refine xGuard.cut (.cut (fun ts g l' => Sub ts [(0, .str l), (1, i64 i), (5, i64 0), (21, boolV (letter (l.getD i 0)))] ∧ g = σ ∧ l' = []) ?_) ?_
 ·rintro ts g l' ⟨hsub, rfl, rfl⟩
  simp only [sub_cons, sub_nil, and_true] at hsub
  obtain ⟨h0, h1, h5, h21⟩ := hsub
  unfold wordR
  rw [hg, Nat.add_zero]
  cases hlet : letter (l.getD i 0)
  ·rw [hlet] at h21
   (simp only [h0, h1, h5, h21, (vmA), Nat.reduceEqDiff, reduceIte, Nat.reduceAdd, Int.reduceToNat, Int.reduceLE, Int.reduceLT, Int.reduceEq, Int.reduceNe, Int.reduceAdd, Int.reduceSub, Int.reduceNeg, Nat.reduceLT, Nat.reduceLeDiff, Nat.reduceBEq, undef, (stA), Nat.reduceMul]; try simp (disch := omega) only [(vmp)])
  ·rw [hlet] at h21
   (simp only [h0, h1, h5, h21, (vmA), Nat.reduceEqDiff, reduceIte, Nat.reduceAdd, Int.reduceToNat, Int.reduceLE, Int.reduceLT, Int.reduceEq, Int.reduceNe, Int.reduceAdd, Int.reduceSub, Int.reduceNeg, Nat.reduceLT, Nat.reduceLeDiff, Nat.reduceBEq, undef, (stA), Nat.reduceMul]; try simp (disch := omega) only [(vmp)])
   have hlt : i < l.length := by
    rcases Nat.lt_or_ge i l.length with h | h
    ·exact h
    ·rw [show l.getD i 0 = 0 by simp [List.getD, h]] at hlet; exact absurd hlet (by decide)
   have hp : pB isPart (l.getD i 0) = true := by
    simp only [letter, Bool.or_eq_true] at hlet
    simp only [pB, isPart, Bool.or_eq_true]
    rcases hlet with h | h
    ·exact .inl (.inl (.inl (.inl h)))
    ·exact .inl (.inl (.inl (.inr h)))
   refine xloop (α := Nat) T0 (fun j => [(0, .str l), (1, i64 i), (5, i64 j)]) (fun _ => g) (fun _ => []) (fun j => j ≤ l.length - i ∧ ∀ x ∈ (l.drop i).take j, pB isPart x = true) (fun j => l.length - j) (by kernel_rfl)
    ⟨1, ⟨by omega, take_succ_all (l := l.drop i) (i := 0) (by omega) (by simp) (by rw [hg]; exact hp)⟩, by (simp only [h0, h1, (vmA), Nat.reduceEqDiff, reduceIte, Nat.reduceAdd, Int.reduceToNat, Int.reduceLE, Int.reduceLT, Int.reduceEq, Int.reduceNe, Int.reduceAdd, Int.reduceSub, Int.reduceNeg, Nat.reduceLT, Nat.reduceLeDiff, Nat.reduceBEq, undef, (stA), Nat.reduceMul, Int.natCast_one]; try simp (disch := omega) only [(vmp)]), rfl, rfl⟩ ?_
   rintro j ⟨hj, hall⟩
   (simp only [(vmA), Nat.reduceEqDiff, reduceIte, Nat.reduceAdd, Int.reduceToNat, Int.reduceLE, Int.reduceLT, Int.reduceEq, Int.reduceNe, Int.reduceAdd, Int.reduceSub, Int.reduceNeg, Nat.reduceLT, Nat.reduceLeDiff, Nat.reduceBEq, undef, (stA), Nat.reduceMul]; try simp (disch := omega) only [(vmp)])
   by_cases h : ((i + j : Nat) : Int) < l.length
   ·(simp only [h, (vmA), Nat.reduceEqDiff, reduceIte, Nat.reduceAdd, Int.reduceToNat, Int.reduceLE, Int.reduceLT, Int.reduceEq, Int.reduceNe, Int.reduceAdd, Int.reduceSub, Int.reduceNeg, Nat.reduceLT, Nat.reduceLeDiff, Nat.reduceBEq, undef, (stA), Nat.reduceMul]; try simp (disch := omega) only [(vmp)])
    refine ⟨by omega, ?_⟩
    refine xWait.go (rest_ok _ _) ?_
    cases hp2 : isPart (l.getD (i + j) 0).toNat
    ·(simp only [(vmA), Nat.reduceEqDiff, reduceIte, Nat.reduceAdd, Int.reduceToNat, Int.reduceLE, Int.reduceLT, Int.reduceEq, Int.reduceNe, Int.reduceAdd, Int.reduceSub, Int.reduceNeg, Nat.reduceLT, Nat.reduceLeDiff, Nat.reduceBEq, undef, (stA), Nat.reduceMul]; try simp (disch := omega) only [(vmp)])
     exact congrArg (fun n : Nat => i64 n) (takeWhile_len (by omega) hall fun _ => by rw [hg]; exact hp2).symm
    ·(simp only [(vmA), Nat.reduceEqDiff, reduceIte, Nat.reduceAdd, Int.reduceToNat, Int.reduceLE, Int.reduceLT, Int.reduceEq, Int.reduceNe, Int.reduceAdd, Int.reduceSub, Int.reduceNeg, Nat.reduceLT, Nat.reduceLeDiff, Nat.reduceBEq, undef, (stA), Nat.reduceMul]; try simp (disch := omega) only [(vmp)])
     exact ⟨j + 1, ⟨by omega, take_succ_all (by omega) hall (by rw [hg]; exact hp2)⟩, by omega, rfl⟩
   ·(simp only [h, (vmA), Nat.reduceEqDiff, reduceIte, Nat.reduceAdd, Int.reduceToNat, Int.reduceLE, Int.reduceLT, Int.reduceEq, Int.reduceNe, Int.reduceAdd, Int.reduceSub, Int.reduceNeg, Nat.reduceLT, Nat.reduceLeDiff, Nat.reduceBEq, undef, (stA), Nat.reduceMul]; try simp (disch := omega) only [(vmp)])
    exact congrArg (fun n : Nat => i64 n) (takeWhile_len (by omega) hall fun hh => absurd (by omega) h).symm
 ·by_cases h : (i : Int) < l.length
  ·(simp only [h, (vmA), Nat.reduceEqDiff, reduceIte, Nat.reduceAdd, Int.reduceToNat, Int.reduceLE, Int.reduceLT, Int.reduceEq, Int.reduceNe, Int.reduceAdd, Int.reduceSub, Int.reduceNeg, Nat.reduceLT, Nat.reduceLeDiff, Nat.reduceBEq, undef, (stA), Nat.reduceMul]; try simp (disch := omega) only [(vmp)])
   refine xWait.go (small_ok _ _) ?_
   unfold letter
   cases h1 : btw 97 (l.getD i 0).toNat 122
   ·(simp only [h, (vmA), Nat.reduceEqDiff, reduceIte, Nat.reduceAdd, Int.reduceToNat, Int.reduceLE, Int.reduceLT, Int.reduceEq, Int.reduceNe, Int.reduceAdd, Int.reduceSub, Int.reduceNeg, Nat.reduceLT, Nat.reduceLeDiff, Nat.reduceBEq, undef, (stA), Nat.reduceMul]; try simp (disch := omega) only [(vmp)])
    refine xWait.go (great_ok _ _) ?_
    (simp only [(vmA), Nat.reduceEqDiff, reduceIte, Nat.reduceAdd, Int.reduceToNat, Int.reduceLE, Int.reduceLT, Int.reduceEq, Int.reduceNe, Int.reduceAdd, Int.reduceSub, Int.reduceNeg, Nat.reduceLT, Nat.reduceLeDiff, Nat.reduceBEq, undef, (stA), Nat.reduceMul]; try simp (disch := omega) only [(vmp)])
   ·(simp only [(vmA), Nat.reduceEqDiff, reduceIte, Nat.reduceAdd, Int.reduceToNat, Int.reduceLE, Int.reduceLT, Int.reduceEq, Int.reduceNe, Int.reduceAdd, Int.reduceSub, Int.reduceNeg, Nat.reduceLT, Nat.reduceLeDiff, Nat.reduceBEq, undef, (stA), Nat.reduceMul]; try simp (disch := omega) only [(vmp)])
  ·(simp only [h, (vmA), Nat.reduceEqDiff, reduceIte, Nat.reduceAdd, Int.reduceToNat, Int.reduceLE, Int.reduceLT, Int.reduceEq, Int.reduceNe, Int.reduceAdd, Int.reduceSub, Int.reduceNeg, Nat.reduceLT, Nat.reduceLeDiff, Nat.reduceBEq, undef, (stA), Nat.reduceMul]; try simp (disch := omega) only [(vmp)])
   rw [show l.getD i 0 = 0 by simp [List.getD, (by omega : l.length ≤ i)]]; rfl
end Go.D
namespace Go.D
open Go
end Go.D
namespace Go.D
open Go
end Go.D
namespace Go.D
open Go Go.Vm Go.Proofs Go.RowKit
theorem av_all (a : UInt8) (r : List UInt8) : avBytes ((byteAV a :: List.map byteAV r).take (r.length + 1)) = some (a :: r) := by
 have : (byteAV a :: List.map byteAV r).take (r.length + 1) = (a :: r).map byteAV := by rw [List.take_of_length_le (by simp)]; rfl
 rw [this, avBytes_map]
theorem av_all2 (a : UInt8) (r : List UInt8) : avBytes (byteAV a :: List.take r.length (List.map byteAV r)) = some (a :: r) := av_all a r
theorem qS_q (x : List UInt8) : qS (34 :: x) = some (1, []) := by cases x <;> simp [qS]
theorem qS_bad (a : UInt8) (x : List UInt8) (h : a ≠ 34) (h2 : btw 32 a.toNat 126 = false) : qS (a :: x) = none := by
 have h3 : a ≠ 92 := fun e => by rw [e] at h2; revert h2; decide
 cases x <;> simp [qS, h, h2, h3]
theorem qS_plain (a : UInt8) (x : List UInt8) (h : a ≠ 34) (h3 : a ≠ 92) (h2 : btw 32 a.toNat 126 = true) : qS (a :: x) = (qS x).map fun y => (y.1 + 1, a :: y.2) := by
 cases x <;> simp [qS, h, h2, h3]
theorem qS_end : qS [92] = none := by simp [qS]
theorem qS_esc (b : UInt8) (x : List UInt8) : qS (92 :: b :: x) = if b = 110 then (qS x).map fun y => (y.1 + 2, 10 :: y.2) else if b = 34 ∨ b = 92 then (qS x).map fun y => (y.1 + 2, b :: y.2) else none := by
 simp [qS]
theorem one_at {l : List UInt8} {i : Nat} (h : i < l.length) : l.drop i = l.getD i 0 :: l.drop (i + 1) ∧ (l.drop i).take 1 = [l.getD i 0] := by
 have : l.drop i = l.getD i 0 :: l.drop (i + 1) := by rw [List.drop_eq_getElem_cons h]; simp [List.getD, h]
 refine ⟨this, ?_⟩
 rw [this]; rfl
theorem u8_eq (a : UInt8) (n : Nat) (hn : n < 256) : ((a.toNat : Int) = n) ↔ a = UInt8.ofNat n := by
 constructor
 ·intro h
  apply UInt8.toNat_inj.1
  simp; omega
 ·intro h; rw [h]; simp; omega
def tokA (k t : List UInt8) (p : Nat) : AV := .agg [.str k, .str t, i64 p]
theorem prefix_take (x : List UInt8) : Lib.hasPrefix x [40, 42] = true ↔ x.take 2 = [40, 42] := by
 rcases x with _ | ⟨a, _ | ⟨b, r⟩⟩
 ·simp [Lib.hasPrefix, List.isPrefixOf]
 ·simp [Lib.hasPrefix, List.isPrefixOf]
 ·simp [Lib.hasPrefix, List.isPrefixOf]
  exact ⟨fun h => ⟨h.1.symm, h.2.symm⟩, fun h => ⟨h.1.symm, h.2.symm⟩⟩
end Go.D
namespace Go.D
open Go Go.Vm Go.Proofs Go.RowKit
theorem named_ok (l : List UInt8) (i : Nat) (hl : l.length ≤ 1099511627776) (hi : i < l.length) (hlet : letter (l.getD i 0) = true) (σ : List Ent) :
  ACalls E 163 [.str l, i64 i] σ fun r τ => r = .tup [i64 (long true (l.drop i)).1, .str (long true (l.drop i)).2] ∧ τ = σ := by
 refine xacalls T0 .drop [] Tryz.func163 rfl (by kernel_rfl) (by kernel_rfl) (by simp [Tryz.ntmps163]) ?_
 have hg : ∀ j, (l.drop i).getD j 0 = l.getD (i + j) 0 := fun j => by simp [List.getD]
 have hdl : (l.drop i).length = l.length - i := List.length_drop
 have hw := word_le (l.drop i)
 have hwr : wordR (l.drop i) = word (l.drop i) := by unfold wordR; rw [hg, Nat.add_zero, if_pos hlet]
 (simp only [(vmA), Nat.reduceEqDiff, reduceIte, Nat.reduceAdd, Int.reduceToNat, Int.reduceLE, Int.reduceLT, Int.reduceEq, Int.reduceNe, Int.reduceAdd, Int.reduceSub, Int.reduceNeg, Nat.reduceLT, Nat.reduceLeDiff, Nat.reduceBEq, undef, (stA), Nat.reduceMul]; try simp (disch := omega) only [(vmp)])
 refine xWait.go (wordR_ok l i hl (by omega) _) ?_
 rw [hwr]
 (simp only [(vmA), Nat.reduceEqDiff, reduceIte, Nat.reduceAdd, Int.reduceToNat, Int.reduceLE, Int.reduceLT, Int.reduceEq, Int.reduceNe, Int.reduceAdd, Int.reduceSub, Int.reduceNeg, Nat.reduceLT, Nat.reduceLeDiff, Nat.reduceBEq, undef, (stA), Nat.reduceMul]; try simp (disch := omega) only [(vmp)])
 refine ⟨by omega, ?_⟩
 refine xWait.go (small_ok _ _) ?_
 cases h1 : btw 97 (l.getD i 0).toNat 122
 ·(simp only [(vmA), Nat.reduceEqDiff, reduceIte, Nat.reduceAdd, Int.reduceToNat, Int.reduceLE, Int.reduceLT, Int.reduceEq, Int.reduceNe, Int.reduceAdd, Int.reduceSub, Int.reduceNeg, Nat.reduceLT, Nat.reduceLeDiff, Nat.reduceBEq, undef, (stA), Nat.reduceMul]; try simp (disch := omega) only [(vmp)])
  have h2 : btw 65 (l.getD i 0).toNat 90 = true := by simp only [letter, h1, Bool.false_or] at hlet; exact hlet
  have hlong := long_great true (l.drop i) (by rw [hg, Nat.add_zero]; exact h2)
  refine xloop (α := Nat × List UInt8) T0 (fun x => [(0, .str l), (1, i64 i), (6, i64 x.1), (7, .str x.2)]) (fun _ => σ) (fun _ => [])
   (fun x => x.1 ≤ l.length - i ∧ ((x.2 = kCon ∧ long true (l.drop i) = tail (l.drop i) x.1) ∨ (x.2 = kName ∧ long true (l.drop i) = (x.1, kName)))) (fun x => l.length - x.1) (by kernel_rfl)
   ⟨(word (l.drop i), kCon), ⟨by omega, .inl ⟨rfl, hlong⟩⟩, by (simp only [kCon, (vmA), Nat.reduceEqDiff, reduceIte, Nat.reduceAdd, Int.reduceToNat, Int.reduceLE, Int.reduceLT, Int.reduceEq, Int.reduceNe, Int.reduceAdd, Int.reduceSub, Int.reduceNeg, Nat.reduceLT, Nat.reduceLeDiff, Nat.reduceBEq, undef, (stA), Nat.reduceMul]; try simp (disch := omega) only [(vmp)]), rfl, rfl⟩ ?_
  rintro ⟨n, k⟩ ⟨hn, hk⟩
  simp only at hn hk
  (simp only [(vmA), Nat.reduceEqDiff, reduceIte, Nat.reduceAdd, Int.reduceToNat, Int.reduceLE, Int.reduceLT, Int.reduceEq, Int.reduceNe, Int.reduceAdd, Int.reduceSub, Int.reduceNeg, Nat.reduceLT, Nat.reduceLeDiff, Nat.reduceBEq, undef, (stA), Nat.reduceMul]; try simp (disch := omega) only [(vmp)])
  rcases hk with ⟨rfl, hk⟩ | ⟨rfl, hk⟩
  ·(simp only [kCon, (vmA), Nat.reduceEqDiff, reduceIte, Nat.reduceAdd, Int.reduceToNat, Int.reduceLE, Int.reduceLT, Int.reduceEq, Int.reduceNe, Int.reduceAdd, Int.reduceSub, Int.reduceNeg, Nat.reduceLT, Nat.reduceLeDiff, Nat.reduceBEq, undef, (stA), Nat.reduceMul]; try simp (disch := omega) only [(vmp)])
   by_cases q1 : ((i + n : Nat) : Int) < l.length
   ·(simp only [q1, (vmA), Nat.reduceEqDiff, reduceIte, Nat.reduceAdd, Int.reduceToNat, Int.reduceLE, Int.reduceLT, Int.reduceEq, Int.reduceNe, Int.reduceAdd, Int.reduceSub, Int.reduceNeg, Nat.reduceLT, Nat.reduceLeDiff, Nat.reduceBEq, undef, (stA), Nat.reduceMul]; try simp (disch := omega) only [(vmp)])
    refine ⟨by omega, ?_⟩
    by_cases q2 : ((l.getD (i + n) 0).toNat : Int) = 46
    ·(simp only [q2, (vmA), Nat.reduceEqDiff, reduceIte, Nat.reduceAdd, Int.reduceToNat, Int.reduceLE, Int.reduceLT, Int.reduceEq, Int.reduceNe, Int.reduceAdd, Int.reduceSub, Int.reduceNeg, Nat.reduceLT, Nat.reduceLeDiff, Nat.reduceBEq, undef, (stA), Nat.reduceMul]; try simp (disch := omega) only [(vmp)])
     refine xWait.go (wordR_ok l (i + n + 1) hl (by omega) _) ?_
     (simp only [(vmA), Nat.reduceEqDiff, reduceIte, Nat.reduceAdd, Int.reduceToNat, Int.reduceLE, Int.reduceLT, Int.reduceEq, Int.reduceNe, Int.reduceAdd, Int.reduceSub, Int.reduceNeg, Nat.reduceLT, Nat.reduceLeDiff, Nat.reduceBEq, undef, (stA), Nat.reduceMul]; try simp (disch := omega) only [(vmp)])
     obtain ⟨t1, t2, t3⟩ := tail_dot (l.drop i) n (by omega) (by rw [hg]; omega)
     rw [hg, show i + (n + 1) = i + n + 1 by omega] at t1
     rw [hg, List.drop_drop, show i + (n + 1) = i + n + 1 by omega] at t2 t3
     cases hl2 : letter (l.getD (i + n + 1) 0)
     ·have hz : wordR (l.drop (i + n + 1)) = 0 := by
       unfold wordR; rw [if_neg]; simp only [List.getD, List.getElem?_drop, Nat.add_zero] at hl2 ⊢; rw [hl2]; simp
      rw [hz]
      (simp only [(vmA), Nat.reduceEqDiff, reduceIte, Nat.reduceAdd, Int.reduceToNat, Int.reduceLE, Int.reduceLT, Int.reduceEq, Int.reduceNe, Int.reduceAdd, Int.reduceSub, Int.reduceNeg, Nat.reduceLT, Nat.reduceLeDiff, Nat.reduceBEq, undef, (stA), Nat.reduceMul, Int.natCast_zero]; try simp (disch := omega) only [(vmp)])
      rw [hk, t1 hl2]; rfl
     ·have hz : wordR (l.drop (i + n + 1)) = word (l.drop (i + n + 1)) := by
       unfold wordR; rw [if_pos]; simp only [List.getD, List.getElem?_drop, Nat.add_zero] at hl2 ⊢; rw [hl2]
      have hpos := word_pos (l.drop (i + n + 1)) (by simp only [List.getD, List.getElem?_drop, Nat.add_zero] at hl2 ⊢; rw [hl2])
      have hwl := word_le (l.drop (i + n + 1))
      rw [List.length_drop] at hwl
      rw [hz]
      have hne : ¬ (word (l.drop (i + n + 1)) : Int) = 0 := by omega
      (simp only [hne, (vmA), Nat.reduceEqDiff, reduceIte, Nat.reduceAdd, Int.reduceToNat, Int.reduceLE, Int.reduceLT, Int.reduceEq, Int.reduceNe, Int.reduceAdd, Int.reduceSub, Int.reduceNeg, Nat.reduceLT, Nat.reduceLeDiff, Nat.reduceBEq, undef, (stA), Nat.reduceMul]; try simp (disch := omega) only [(vmp)])
      refine ⟨by omega, ?_⟩
      refine xWait.go (small_ok _ _) ?_
      cases h3 : btw 97 (l.getD (i + n + 1) 0).toNat 122
      ·have h4 : btw 65 (l.getD (i + n + 1) 0).toNat 90 = true := by simp only [letter, h3, Bool.false_or] at hl2; exact hl2
       (simp only [(vmA), Nat.reduceEqDiff, reduceIte, Nat.reduceAdd, Int.reduceToNat, Int.reduceLE, Int.reduceLT, Int.reduceEq, Int.reduceNe, Int.reduceAdd, Int.reduceSub, Int.reduceNeg, Nat.reduceLT, Nat.reduceLeDiff, Nat.reduceBEq, undef, (stA), Nat.reduceMul]; try simp (disch := omega) only [(vmp)])
       refine ⟨(n + 1 + word (l.drop (i + n + 1)), kCon), ⟨by simp only; omega, .inl ⟨rfl, by rw [hk, t3 h4]⟩⟩, by simp only; omega, rfl, rfl⟩
      ·(simp only [(vmA), Nat.reduceEqDiff, reduceIte, Nat.reduceAdd, Int.reduceToNat, Int.reduceLE, Int.reduceLT, Int.reduceEq, Int.reduceNe, Int.reduceAdd, Int.reduceSub, Int.reduceNeg, Nat.reduceLT, Nat.reduceLeDiff, Nat.reduceBEq, undef, (stA), Nat.reduceMul]; try simp (disch := omega) only [(vmp)])
       refine ⟨(n + 1 + word (l.drop (i + n + 1)), kName), ⟨by simp only; omega, .inr ⟨rfl, by rw [hk, t2 h3]⟩⟩, ?_, rfl, rfl⟩
       simp only; omega
    ·(simp only [q2, (vmA), Nat.reduceEqDiff, reduceIte, Nat.reduceAdd, Int.reduceToNat, Int.reduceLE, Int.reduceLT, Int.reduceEq, Int.reduceNe, Int.reduceAdd, Int.reduceSub, Int.reduceNeg, Nat.reduceLT, Nat.reduceLeDiff, Nat.reduceBEq, undef, (stA), Nat.reduceMul]; try simp (disch := omega) only [(vmp)])
     rw [hk, tail, if_pos (by rw [hg]; omega)]; rfl
   ·(simp only [q1, (vmA), Nat.reduceEqDiff, reduceIte, Nat.reduceAdd, Int.reduceToNat, Int.reduceLE, Int.reduceLT, Int.reduceEq, Int.reduceNe, Int.reduceAdd, Int.reduceSub, Int.reduceNeg, Nat.reduceLT, Nat.reduceLeDiff, Nat.reduceBEq, undef, (stA), Nat.reduceMul]; try simp (disch := omega) only [(vmp)])
    rw [hk, tail, if_pos (by omega)]; rfl
  ·have hne : ¬ ([110, 97, 109, 101] : List UInt8) = [99, 111, 110] := by decide
   (simp only [kName, hne, (vmA), Nat.reduceEqDiff, reduceIte, Nat.reduceAdd, Int.reduceToNat, Int.reduceLE, Int.reduceLT, Int.reduceEq, Int.reduceNe, Int.reduceAdd, Int.reduceSub, Int.reduceNeg, Nat.reduceLT, Nat.reduceLeDiff, Nat.reduceBEq, undef, (stA), Nat.reduceMul]; try simp (disch := omega) only [(vmp)])
   rw [hk]; rfl
 ·have hlong := long_small true (l.drop i) (by rw [hg, Nat.add_zero]; exact h1)
  (simp only [(vmA), Nat.reduceEqDiff, reduceIte, Nat.reduceAdd, Int.reduceToNat, Int.reduceLE, Int.reduceLT, Int.reduceEq, Int.reduceNe, Int.reduceAdd, Int.reduceSub, Int.reduceNeg, Nat.reduceLT, Nat.reduceLeDiff, Nat.reduceBEq, undef, (stA), Nat.reduceMul]; try simp (disch := omega) only [(vmp)])
  refine ⟨by omega, ?_⟩
  refine xWait.go (IsKey_ok _ (by simp; omega) _) ?_
  by_cases h4 : (l.drop i).take (word (l.drop i)) ∈ keys
  ·(simp only [h4, (vmA), Nat.reduceEqDiff, reduceIte, Nat.reduceAdd, Int.reduceToNat, Int.reduceLE, Int.reduceLT, Int.reduceEq, Int.reduceNe, Int.reduceAdd, Int.reduceSub, Int.reduceNeg, Nat.reduceLT, Nat.reduceLeDiff, Nat.reduceBEq, undef, (stA), Nat.reduceMul]; try simp (disch := omega) only [(vmp)])
   rw [hlong, if_pos ⟨rfl, h4⟩]; rfl
  ·(simp only [h4, (vmA), Nat.reduceEqDiff, reduceIte, Nat.reduceAdd, Int.reduceToNat, Int.reduceLE, Int.reduceLT, Int.reduceEq, Int.reduceNe, Int.reduceAdd, Int.reduceSub, Int.reduceNeg, Nat.reduceLT, Nat.reduceLeDiff, Nat.reduceBEq, undef, (stA), Nat.reduceMul]; try simp (disch := omega) only [(vmp)])
   rw [hlong, if_neg (by simpa using h4)]; rfl
end Go.D
