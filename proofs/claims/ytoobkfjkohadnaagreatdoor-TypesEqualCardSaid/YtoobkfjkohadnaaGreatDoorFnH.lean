/- All pairs of a list made one: the walk. -/
import Derived.Test.YtoobkfjkohadnaaGreatDoorFnG
set_option linter.unusedVariables false
set_option linter.unusedSimpArgs false
set_option linter.unnecessarySimpa false
set_option maxRecDepth 100000
namespace Go.D
open Go Go.Vm Go.Proofs Go.RowKit

def pairV (c : Tr × Tr) : AV := .agg (tyCells c.1 ++ tyCells c.2)
def vB (c : Tr × Tr) : Bool := validT conB c.1 && validT conB c.2
/-- What UnifyAll answers. -/
structure UAll (ps : List (Tr × Tr)) (u : List Cl × Int) : Prop where
  bad : (¬ ∀ c ∈ ps, vB c = true) → u = ([], 40)
  long : (∀ c ∈ ps, vB c = true) → ¬ ps.length ≤ 50 → u = ([], 4)
  uni : (∀ c ∈ ps, vB c = true) → ps.length ≤ 50 → UniR ps u
theorem vB_ok {c : Tr × Tr} (h : vB c = true) (hl : lenT c.1 ∧ lenT c.2) : okT c.1 ∧ okT c.2 := by
  unfold vB at h
  rw [Bool.and_eq_true] at h
  exact ⟨⟨hl.1, valid_typ h.1⟩, ⟨hl.2, valid_typ h.2⟩⟩
theorem uall_ex (ps : List (Tr × Tr)) (hl : ∀ c ∈ ps, lenT c.1 ∧ lenT c.2) : ∃ u, UAll ps u := by
  by_cases h : ∀ c ∈ ps, vB c = true
  · by_cases h2 : ps.length ≤ 50
    · obtain ⟨u, hu⟩ := uniR_ex ps fun c hc => vB_ok (h c hc) (hl c hc)
      exact ⟨u, fun hh => absurd h hh, fun _ hh => absurd h2 hh, fun _ _ => hu⟩
    · exact ⟨([], 4), fun hh => absurd h hh, fun _ _ => rfl, fun _ hh => absurd hh h2⟩
  · exact ⟨([], 40), fun _ => rfl, fun hh => absurd hh h, fun hh => absurd hh h⟩
set_option maxHeartbeats 32000000 in
theorem unifyAllG_ok (ps : List (Tr × Tr)) (hn : ps.length ≤ 9223372036854775807) (hl : ∀ c ∈ ps, lenT c.1 ∧ lenT c.2) (u : List Cl × Int) (hu : UAll ps u) (σ : List Ent) :
    ACalls E 24 [.sl (ps.map pairV)] σ fun r τ => r = .tup [.sl (clsV u.1), i64 u.2] ∧ τ = σ := by
  refine xacalls T0 .freeze [] Tryz.func24 rfl (by kernel_rfl) (by kernel_rfl) (by simp [Tryz.ntmps24]) ?_
  have hml : (ps.map pairV).length = ps.length := List.length_map ..
  (simp only [hml, (vmA), Nat.reduceEqDiff, reduceIte, Nat.reduceAdd, Int.reduceToNat, Int.reduceLE, Int.reduceLT, Int.reduceEq, Int.reduceNe, Int.reduceAdd, Int.reduceSub, Int.reduceNeg, Nat.reduceLT, Nat.reduceLeDiff, Nat.reduceBEq, undef, (stA), Nat.reduceMul]; try simp (disch := omega) only [(vmp)])
  refine xloop (α := Nat × List Ent) T0 (fun x => [(0, .sl (ps.map pairV)), (9, .sl (ps.map pairV)), (10, i64 ps.length), (11, i64 x.1)]) (fun _ => σ) (fun x => x.2) (fun x => x.1 ≤ ps.length ∧ ∀ c ∈ ps.take x.1, vB c = true) (fun x => ps.length - x.1) (by kernel_rfl)
    ⟨(0, []), ⟨by simp, by simp⟩, by (simp only [(vmA), Nat.reduceEqDiff, reduceIte, Nat.reduceAdd, Int.reduceToNat, Int.reduceLE, Int.reduceLT, Int.reduceEq, Int.reduceNe, Int.reduceAdd, Int.reduceSub, Int.reduceNeg, Nat.reduceLT, Nat.reduceLeDiff, Nat.reduceBEq, undef, (stA), Nat.reduceMul, Int.natCast_zero]; try simp (disch := omega) only [(vmp)]), rfl, rfl⟩ ?_
  rintro ⟨j, J⟩ ⟨hj, hv⟩
  simp only at hj hv
  by_cases h : (j : Int) < ps.length
  · have hj1 : j < ps.length := by omega
    have hc : ps[j]? = some ps[j] := List.getElem?_eq_getElem hj1
    have hlc := hl _ (List.getElem_mem hj1)
    have hgc : (ps.map pairV).getD j .un = pairV ps[j] := by simp [List.getD, hj1]
    obtain ⟨s1, _⟩ := take_splitC ps j _ hc
    have hmem : ps[j] ∈ ps := List.getElem_mem hj1
    generalize ps[j] = c at *
    rcases c with ⟨⟨d, n, us⟩, ⟨d', n', us'⟩⟩
    have o1 := fun σ' => ValidType_ok _ hlc.1 σ'
    have o2 := fun σ' => ValidType_ok _ hlc.2 σ'
    simp only [pairV, tyCells, List.cons_append, List.nil_append] at hgc
    simp only [tyV] at o1 o2
    cases b1 : validT conB (.mk d n us)
    · have hu0 := hu.bad fun hh => by have := hh _ hmem; simp [vB, b1] at this
      subst hu0
      simp only [b1] at o1
      (simp only [h, hgc, hml, if_true, Nat.zero_mul, Nat.one_mul, Nat.reduceMul, List.drop_zero, List.drop_succ_cons, List.take_succ_cons, List.take_zero, (vmA), Nat.reduceEqDiff, reduceIte, Nat.reduceAdd, Int.reduceToNat, Int.reduceLE, Int.reduceLT, Int.reduceEq, Int.reduceNe, Int.reduceAdd, Int.reduceSub, Int.reduceNeg, Nat.reduceLT, Nat.reduceLeDiff, Nat.reduceBEq, undef, (stA), Nat.reduceMul]; try simp (disch := omega) only [(vmp)])
      refine xWait.go (o1 _) ?_
      (simp only [(vmA), Nat.reduceEqDiff, reduceIte, Nat.reduceAdd, Int.reduceToNat, Int.reduceLE, Int.reduceLT, Int.reduceEq, Int.reduceNe, Int.reduceAdd, Int.reduceSub, Int.reduceNeg, Nat.reduceLT, Nat.reduceLeDiff, Nat.reduceBEq, undef, (stA), Nat.reduceMul]; try simp (disch := omega) only [(vmp)])
      exact ⟨_, .tup (.cons .none (.cons (.refl _) .nil)), by simp only [AV.low, AV.low.lows, Bool.and_self], rfl⟩
    cases b2 : validT conB (.mk d' n' us')
    · have hu0 := hu.bad fun hh => by have := hh _ hmem; simp [vB, b2] at this
      subst hu0
      simp only [b1] at o1
      simp only [b2] at o2
      (simp only [h, hgc, hml, if_true, Nat.zero_mul, Nat.one_mul, Nat.reduceMul, List.drop_zero, List.drop_succ_cons, List.take_succ_cons, List.take_zero, (vmA), Nat.reduceEqDiff, reduceIte, Nat.reduceAdd, Int.reduceToNat, Int.reduceLE, Int.reduceLT, Int.reduceEq, Int.reduceNe, Int.reduceAdd, Int.reduceSub, Int.reduceNeg, Nat.reduceLT, Nat.reduceLeDiff, Nat.reduceBEq, undef, (stA), Nat.reduceMul]; try simp (disch := omega) only [(vmp)])
      refine xWait.go (o1 _) ?_
      (simp only [Nat.zero_mul, Nat.one_mul, Nat.reduceMul, List.drop_zero, List.drop_succ_cons, List.take_succ_cons, List.take_zero, (vmA), Nat.reduceEqDiff, reduceIte, Nat.reduceAdd, Int.reduceToNat, Int.reduceLE, Int.reduceLT, Int.reduceEq, Int.reduceNe, Int.reduceAdd, Int.reduceSub, Int.reduceNeg, Nat.reduceLT, Nat.reduceLeDiff, Nat.reduceBEq, undef, (stA), Nat.reduceMul]; try simp (disch := omega) only [(vmp)])
      refine xWait.go (o2 _) ?_
      (simp only [Nat.zero_mul, Nat.one_mul, Nat.reduceMul, List.drop_zero, List.drop_succ_cons, List.take_succ_cons, List.take_zero, (vmA), Nat.reduceEqDiff, reduceIte, Nat.reduceAdd, Int.reduceToNat, Int.reduceLE, Int.reduceLT, Int.reduceEq, Int.reduceNe, Int.reduceAdd, Int.reduceSub, Int.reduceNeg, Nat.reduceLT, Nat.reduceLeDiff, Nat.reduceBEq, undef, (stA), Nat.reduceMul]; try simp (disch := omega) only [(vmp)])
      exact ⟨_, .tup (.cons .none (.cons (.refl _) .nil)), by simp only [AV.low, AV.low.lows, Bool.and_self], rfl⟩
    simp only [b1] at o1
    simp only [b2] at o2
    (simp only [h, hgc, hml, if_true, Nat.zero_mul, Nat.one_mul, Nat.reduceMul, List.drop_zero, List.drop_succ_cons, List.take_succ_cons, List.take_zero, (vmA), Nat.reduceEqDiff, reduceIte, Nat.reduceAdd, Int.reduceToNat, Int.reduceLE, Int.reduceLT, Int.reduceEq, Int.reduceNe, Int.reduceAdd, Int.reduceSub, Int.reduceNeg, Nat.reduceLT, Nat.reduceLeDiff, Nat.reduceBEq, undef, (stA), Nat.reduceMul]; try simp (disch := omega) only [(vmp)])
    refine xWait.go (o1 _) ?_
    (simp only [Nat.zero_mul, Nat.one_mul, Nat.reduceMul, List.drop_zero, List.drop_succ_cons, List.take_succ_cons, List.take_zero, (vmA), Nat.reduceEqDiff, reduceIte, Nat.reduceAdd, Int.reduceToNat, Int.reduceLE, Int.reduceLT, Int.reduceEq, Int.reduceNe, Int.reduceAdd, Int.reduceSub, Int.reduceNeg, Nat.reduceLT, Nat.reduceLeDiff, Nat.reduceBEq, undef, (stA), Nat.reduceMul]; try simp (disch := omega) only [(vmp)])
    refine xWait.go (o2 _) ?_
    (simp only [Nat.zero_mul, Nat.one_mul, Nat.reduceMul, List.drop_zero, List.drop_succ_cons, List.take_succ_cons, List.take_zero, (vmA), Nat.reduceEqDiff, reduceIte, Nat.reduceAdd, Int.reduceToNat, Int.reduceLE, Int.reduceLT, Int.reduceEq, Int.reduceNe, Int.reduceAdd, Int.reduceSub, Int.reduceNeg, Nat.reduceLT, Nat.reduceLeDiff, Nat.reduceBEq, undef, (stA), Nat.reduceMul]; try simp (disch := omega) only [(vmp)])
    refine ⟨(j + 1, _), ⟨by simp only; omega, ?_⟩, by simp only; omega, rfl, rfl⟩
    simp only
    rw [s1]
    intro c hc
    rcases List.mem_append.1 hc with hc | hc
    · exact hv c hc
    · rw [List.mem_singleton.1 hc]; simp [vB, b1, b2]
  · have hje : j = ps.length := by omega
    subst hje
    rw [List.take_of_length_le (Nat.le_refl _)] at hv
    by_cases h50 : ps.length ≤ 50
    · have hU := hu.uni hv h50
      have h50' : ¬ (50 : Int) < ps.length := by omega
      (simp only [h, h50', hml, if_false, (vmA), Nat.reduceEqDiff, reduceIte, Nat.reduceAdd, Int.reduceToNat, Int.reduceLE, Int.reduceLT, Int.reduceEq, Int.reduceNe, Int.reduceAdd, Int.reduceSub, Int.reduceNeg, Nat.reduceLT, Nat.reduceLeDiff, Nat.reduceBEq, undef, (stA), Nat.reduceMul]; try simp (disch := omega) only [(vmp)])
      refine xloop (α := Nat × List Ent) T0 (fun x => [(6, .ref (σ.length + (J.length + 2)) 0 0), (33, .sl (ps.map pairV)), (34, i64 ps.length), (35, i64 x.1)]) (fun _ => σ) (fun x => x.2)
        (fun x => x.1 ≤ ps.length ∧ UOwn σ x.2 (J.length + 2) J.length (J.length + 1) (ps.take x.1)) (fun x => ps.length - x.1) (by kernel_rfl)
        ⟨(0, J ++ [.map [] 0, .map [] 0, graE (σ.length + J.length) (σ.length + (J.length + 1))]), ⟨by simp, by simpa using uown_nil σ J⟩, by (simp only [(vmA), Nat.reduceEqDiff, reduceIte, Nat.reduceAdd, Int.reduceToNat, Int.reduceLE, Int.reduceLT, Int.reduceEq, Int.reduceNe, Int.reduceAdd, Int.reduceSub, Int.reduceNeg, Nat.reduceLT, Nat.reduceLeDiff, Nat.reduceBEq, undef, (stA), Nat.reduceMul, Int.natCast_zero]; try simp (disch := omega) only [(vmp)]), rfl, rfl⟩ ?_
      rintro ⟨j, K⟩ ⟨hj, hO⟩
      simp only at hj hO
      by_cases h : (j : Int) < ps.length
      · have hj1 : j < ps.length := by omega
        have hc : ps[j]? = some ps[j] := List.getElem?_eq_getElem hj1
        have hmem : ps[j] ∈ ps := List.getElem_mem hj1
        have hok := vB_ok (hv _ hmem) (hl _ hmem)
        have hgc : (ps.map pairV).getD j .un = pairV ps[j] := by simp [List.getD, hj1]
        obtain ⟨s1, _⟩ := take_splitC ps j _ hc
        generalize ps[j] = c at *
        rcases c with ⟨⟨d, n, us⟩, ⟨d', n', us'⟩⟩
        simp only [pairV, tyCells, List.cons_append, List.nil_append] at hgc
        obtain ⟨pa, pb, K2, K3, K4, ok, k2, k3, k4, ca, cb, cu, ht, hf⟩ := pair_step hO (.arr 60 [.str d, .str n, .sl (tysV us), .str d', .str n', .sl (tysV us')] 0 0) ⟨fun _ _ _ _ e => by simp [nodeE] at e, fun _ _ e => by cases e⟩ hok.1 hok.2 (.ref (σ.length + (J.length + 2)) 0 0)
        simp only [tyV] at ca cb
        have loA : ∀ l' : List Ent, l'[K.length]? = some (.arr 60 [.str d, .str n, .sl (tysV us), .str d', .str n', .sl (tysV us')] 0 0) → ∀ g' : List Ent, g'.length = σ.length → sget g' l' (σ.length + K.length) = some (.arr 60 [.str d, .str n, .sl (tysV us), .str d', .str n', .sl (tysV us')] 0 0) := fun l' h g' hg => by unfold sget; rw [if_neg (by omega), hg, Nat.add_sub_cancel_left, h]
        have k1 : (K ++ [Ent.arr 60 [.str d, .str n, .sl (tysV us), .str d', .str n', .sl (tysV us')] 0 0])[K.length]? = some (.arr 60 [.str d, .str n, .sl (tysV us), .str d', .str n', .sl (tysV us')] 0 0) := by rw [List.getElem?_append_right (Nat.le_refl _), Nat.sub_self]; rfl
        (simp only [h, hgc, hml, if_true, (vmA), Nat.reduceEqDiff, reduceIte, Nat.reduceAdd, Int.reduceToNat, Int.reduceLE, Int.reduceLT, Int.reduceEq, Int.reduceNe, Int.reduceAdd, Int.reduceSub, Int.reduceNeg, Nat.reduceLT, Nat.reduceLeDiff, Nat.reduceBEq, undef, (stA), Nat.reduceMul]; try simp (disch := omega) only [(vmp)])
        refine zdraw T0 ⟨[], [4, 8, 9], [2, 3, 6, 7], some [K.length], false⟩ (by kernel_rfl) (by kernel_rfl) (by kernel_rfl) (by kernel_rfl) ?_
        (simp only [zDraw_nil,zDraw_go,zDraw_if,zSlot_some,zGuard_tt,zGuard_ff,zGuard_tf,zGuard_ft,zGuard_un,zOut_some,zOut_pure,zOut_cond,zNext_move,zNext_assign,zNext_pick,zNext_buildSlice,zNext_build,zNext_load,zNext_store,zNext_builtin,zNext_fieldAddr,zNext_nilCheck,zNext_indexAddr,zNext_unOp,zNext_binOp, (vmA), Nat.reduceEqDiff, reduceIte, Nat.reduceAdd, Int.reduceToNat, Int.reduceLE, Int.reduceLT, Int.reduceEq, Int.reduceNe, Int.reduceAdd, Int.reduceSub, Int.reduceNeg, Nat.reduceLT, Nat.reduceLeDiff, Nat.reduceBEq, undef, (stA), Nat.reduceMul]; try simp (disch := omega) only [(vmp)])
        refine zNext.looseS (r := .ref (σ.length + K.length) 0 0) rfl rfl rfl rfl (fun g' l' hg' hl' => ⟨True, trivial, ?_⟩) ?_
        · have q := loA l' ((hl' K.length (by simp)).trans k1) g' hg'
          (simp only [q, (vmA), Nat.reduceEqDiff, reduceIte, Nat.reduceAdd, Int.reduceToNat, Int.reduceLE, Int.reduceLT, Int.reduceEq, Int.reduceNe, Int.reduceAdd, Int.reduceSub, Int.reduceNeg, Nat.reduceLT, Nat.reduceLeDiff, Nat.reduceBEq, undef, (stA), Nat.reduceMul]; try simp (disch := omega) only [(vmp)])
        (simp only [zDraw_nil,zDraw_go,zDraw_if,zSlot_some,zGuard_tt,zGuard_ff,zGuard_tf,zGuard_ft,zGuard_un,zOut_some,zOut_pure,zOut_cond,zNext_move,zNext_assign,zNext_pick,zNext_buildSlice,zNext_build,zNext_load,zNext_store,zNext_builtin,zNext_fieldAddr,zNext_nilCheck,zNext_indexAddr,zNext_unOp,zNext_binOp, (vmA), Nat.reduceEqDiff, reduceIte, Nat.reduceAdd, Int.reduceToNat, Int.reduceLE, Int.reduceLT, Int.reduceEq, Int.reduceNe, Int.reduceAdd, Int.reduceSub, Int.reduceNeg, Nat.reduceLT, Nat.reduceLeDiff, Nat.reduceBEq, undef, (stA), Nat.reduceMul]; try simp (disch := omega) only [(vmp)])
        refine zNext.looseS (r := .agg [.str d, .str n, .sl (tysV us)]) rfl rfl rfl rfl (fun g' l' hg' hl' => ⟨True, trivial, ?_⟩) ?_
        · have q := loA l' ((hl' K.length (by simp)).trans k1) g' hg'
          (simp only [q, List.take_succ_cons, List.take_zero, (vmA), Nat.reduceEqDiff, reduceIte, Nat.reduceAdd, Int.reduceToNat, Int.reduceLE, Int.reduceLT, Int.reduceEq, Int.reduceNe, Int.reduceAdd, Int.reduceSub, Int.reduceNeg, Nat.reduceLT, Nat.reduceLeDiff, Nat.reduceBEq, undef, (stA), Nat.reduceMul]; try simp (disch := omega) only [(vmp)])
        (simp only [zDraw_nil,zDraw_go,zDraw_if,zSlot_some,zGuard_tt,zGuard_ff,zGuard_tf,zGuard_ft,zGuard_un,zOut_some,zOut_pure,zOut_cond,zNext_move,zNext_assign,zNext_pick,zNext_buildSlice,zNext_build,zNext_load,zNext_store,zNext_builtin,zNext_fieldAddr,zNext_nilCheck,zNext_indexAddr,zNext_unOp,zNext_binOp, (vmA), Nat.reduceEqDiff, reduceIte, Nat.reduceAdd, Int.reduceToNat, Int.reduceLE, Int.reduceLT, Int.reduceEq, Int.reduceNe, Int.reduceAdd, Int.reduceSub, Int.reduceNeg, Nat.reduceLT, Nat.reduceLeDiff, Nat.reduceBEq, undef, (stA), Nat.reduceMul]; try simp (disch := omega) only [(vmp)])
        refine zNext.softC (by rfl) (by rfl) _ rfl ca rfl (by intro m hm; simp at hm; subst hm; exact k2.trans k1.symm) ?_
        (simp only [zDraw_nil,zDraw_go,zDraw_if,zSlot_some,zGuard_tt,zGuard_ff,zGuard_tf,zGuard_ft,zGuard_un,zOut_some,zOut_pure,zOut_cond,zNext_move,zNext_assign,zNext_pick,zNext_buildSlice,zNext_build,zNext_load,zNext_store,zNext_builtin,zNext_fieldAddr,zNext_nilCheck,zNext_indexAddr,zNext_unOp,zNext_binOp, (vmA), Nat.reduceEqDiff, reduceIte, Nat.reduceAdd, Int.reduceToNat, Int.reduceLE, Int.reduceLT, Int.reduceEq, Int.reduceNe, Int.reduceAdd, Int.reduceSub, Int.reduceNeg, Nat.reduceLT, Nat.reduceLeDiff, Nat.reduceBEq, undef, (stA), Nat.reduceMul]; try simp (disch := omega) only [(vmp)])
        refine zNext.looseS (r := .ref (σ.length + K.length) 0 3) rfl rfl rfl rfl (fun g' l' hg' hl' => ⟨True, trivial, ?_⟩) ?_
        · have q := loA l' ((hl' K.length (by simp)).trans k2) g' hg'
          (simp only [q, (vmA), Nat.reduceEqDiff, reduceIte, Nat.reduceAdd, Int.reduceToNat, Int.reduceLE, Int.reduceLT, Int.reduceEq, Int.reduceNe, Int.reduceAdd, Int.reduceSub, Int.reduceNeg, Nat.reduceLT, Nat.reduceLeDiff, Nat.reduceBEq, undef, (stA), Nat.reduceMul]; try simp (disch := omega) only [(vmp)])
        (simp only [zDraw_nil,zDraw_go,zDraw_if,zSlot_some,zGuard_tt,zGuard_ff,zGuard_tf,zGuard_ft,zGuard_un,zOut_some,zOut_pure,zOut_cond,zNext_move,zNext_assign,zNext_pick,zNext_buildSlice,zNext_build,zNext_load,zNext_store,zNext_builtin,zNext_fieldAddr,zNext_nilCheck,zNext_indexAddr,zNext_unOp,zNext_binOp, (vmA), Nat.reduceEqDiff, reduceIte, Nat.reduceAdd, Int.reduceToNat, Int.reduceLE, Int.reduceLT, Int.reduceEq, Int.reduceNe, Int.reduceAdd, Int.reduceSub, Int.reduceNeg, Nat.reduceLT, Nat.reduceLeDiff, Nat.reduceBEq, undef, (stA), Nat.reduceMul]; try simp (disch := omega) only [(vmp)])
        refine zNext.looseS (r := .agg [.str d', .str n', .sl (tysV us')]) rfl rfl rfl rfl (fun g' l' hg' hl' => ⟨True, trivial, ?_⟩) ?_
        · have q := loA l' ((hl' K.length (by simp)).trans k2) g' hg'
          (simp only [q, List.drop_succ_cons, List.drop_zero, List.take_succ_cons, List.take_zero, (vmA), Nat.reduceEqDiff, reduceIte, Nat.reduceAdd, Int.reduceToNat, Int.reduceLE, Int.reduceLT, Int.reduceEq, Int.reduceNe, Int.reduceAdd, Int.reduceSub, Int.reduceNeg, Nat.reduceLT, Nat.reduceLeDiff, Nat.reduceBEq, undef, (stA), Nat.reduceMul]; try simp (disch := omega) only [(vmp)])
        (simp only [zDraw_nil,zDraw_go,zDraw_if,zSlot_some,zGuard_tt,zGuard_ff,zGuard_tf,zGuard_ft,zGuard_un,zOut_some,zOut_pure,zOut_cond,zNext_move,zNext_assign,zNext_pick,zNext_buildSlice,zNext_build,zNext_load,zNext_store,zNext_builtin,zNext_fieldAddr,zNext_nilCheck,zNext_indexAddr,zNext_unOp,zNext_binOp, (vmA), Nat.reduceEqDiff, reduceIte, Nat.reduceAdd, Int.reduceToNat, Int.reduceLE, Int.reduceLT, Int.reduceEq, Int.reduceNe, Int.reduceAdd, Int.reduceSub, Int.reduceNeg, Nat.reduceLT, Nat.reduceLeDiff, Nat.reduceBEq, undef, (stA), Nat.reduceMul]; try simp (disch := omega) only [(vmp)])
        refine zNext.softC (by rfl) (by rfl) _ rfl cb rfl (by intro m hm; simp at hm; subst hm; exact k3.trans k2.symm) ?_
        (simp only [zDraw_nil,zDraw_go,zDraw_if,zSlot_some,zGuard_tt,zGuard_ff,zGuard_tf,zGuard_ft,zGuard_un,zOut_some,zOut_pure,zOut_cond,zNext_move,zNext_assign,zNext_pick,zNext_buildSlice,zNext_build,zNext_load,zNext_store,zNext_builtin,zNext_fieldAddr,zNext_nilCheck,zNext_indexAddr,zNext_unOp,zNext_binOp, (vmA), Nat.reduceEqDiff, reduceIte, Nat.reduceAdd, Int.reduceToNat, Int.reduceLE, Int.reduceLT, Int.reduceEq, Int.reduceNe, Int.reduceAdd, Int.reduceSub, Int.reduceNeg, Nat.reduceLT, Nat.reduceLeDiff, Nat.reduceBEq, undef, (stA), Nat.reduceMul]; try simp (disch := omega) only [(vmp)])
        refine zNext.softC (by rfl) (by rfl) _ rfl cu rfl (by intro m hm; simp at hm; subst hm; exact k4.trans k3.symm) ?_
        cases ok
        · have hno := hf rfl
          have hu0 : u = ([], 5) := uniR_fn hU (.inl ⟨rfl, fun θ hθ => hno θ fun c hc => hθ c (by
            rw [← s1] at hc; exact List.mem_of_mem_take hc)⟩)
          subst hu0
          (simp only [zDraw_nil,zDraw_go,zDraw_if,zSlot_some,zGuard_tt,zGuard_ff,zGuard_tf,zGuard_ft,zGuard_un,zOut_some,zOut_pure,zOut_cond,zNext_move,zNext_assign,zNext_pick,zNext_buildSlice,zNext_build,zNext_load,zNext_store,zNext_builtin,zNext_fieldAddr,zNext_nilCheck,zNext_indexAddr,zNext_unOp,zNext_binOp, (vmA), Nat.reduceEqDiff, reduceIte, Nat.reduceAdd, Int.reduceToNat, Int.reduceLE, Int.reduceLT, Int.reduceEq, Int.reduceNe, Int.reduceAdd, Int.reduceSub, Int.reduceNeg, Nat.reduceLT, Nat.reduceLeDiff, Nat.reduceBEq, undef, (stA), Nat.reduceMul]; try simp (disch := omega) only [(vmp)])
          exact ⟨_, .tup (.cons .none (.cons (.refl _) .nil)), by simp only [AV.low, AV.low.lows, Bool.and_self], rfl⟩
        · have hO' := ht rfl
          rw [← s1] at hO'
          (simp only [zDraw_nil,zDraw_go,zDraw_if,zSlot_some,zGuard_tt,zGuard_ff,zGuard_tf,zGuard_ft,zGuard_un,zOut_some,zOut_pure,zOut_cond,zNext_move,zNext_assign,zNext_pick,zNext_buildSlice,zNext_build,zNext_load,zNext_store,zNext_builtin,zNext_fieldAddr,zNext_nilCheck,zNext_indexAddr,zNext_unOp,zNext_binOp, (vmA), Nat.reduceEqDiff, reduceIte, Nat.reduceAdd, Int.reduceToNat, Int.reduceLE, Int.reduceLT, Int.reduceEq, Int.reduceNe, Int.reduceAdd, Int.reduceSub, Int.reduceNeg, Nat.reduceLT, Nat.reduceLeDiff, Nat.reduceBEq, undef, (stA), Nat.reduceMul]; try simp (disch := omega) only [(vmp)])
          exact ⟨(j + 1, K4), ⟨by simp only; omega, hO'⟩, by simp only; omega, rfl, rfl⟩
      · have hje : j = ps.length := by omega
        rw [hje, List.take_of_length_le (Nat.le_refl _)] at hO
        obtain ⟨es, clock, Ps, L, hI⟩ := hO
        have hres := gresult_ok _ _ _ _ _ _ _ (uinv_fin hI)
        (simp only [h, (vmA), Nat.reduceEqDiff, reduceIte, Nat.reduceAdd, Int.reduceToNat, Int.reduceLE, Int.reduceLT, Int.reduceEq, Int.reduceNe, Int.reduceAdd, Int.reduceSub, Int.reduceNeg, Nat.reduceLT, Nat.reduceLeDiff, Nat.reduceBEq, undef, (stA), Nat.reduceMul]; try simp (disch := omega) only [(vmp)])
        refine xWait.of hres ?_
        intro r τ hr
        obtain ⟨u', hu', rfl⟩ := uinv_res hI hr
        obtain rfl := uniR_fn hu' hU
        obtain ⟨es', c', rfl⟩ := hr.1
        rw [List.set_append_right _ _ (by omega), Nat.add_sub_cancel_left, List.take_left, List.drop_left]
        (simp only [(vmA), Nat.reduceEqDiff, reduceIte, Nat.reduceAdd, Int.reduceToNat, Int.reduceLE, Int.reduceLT, Int.reduceEq, Int.reduceNe, Int.reduceAdd, Int.reduceSub, Int.reduceNeg, Nat.reduceLT, Nat.reduceLeDiff, Nat.reduceBEq, undef, (stA), Nat.reduceMul]; try simp (disch := omega) only [(vmp)])
        exact ⟨_, .refl _, by simp only [AV.low, AV.low.lows, clsV_low, Bool.and_self], rfl⟩
    · have h50' : (50 : Int) < ps.length := by omega
      have hu0 := hu.long hv h50
      subst hu0
      (simp only [h, h50', hml, if_false, (vmA), Nat.reduceEqDiff, reduceIte, Nat.reduceAdd, Int.reduceToNat, Int.reduceLE, Int.reduceLT, Int.reduceEq, Int.reduceNe, Int.reduceAdd, Int.reduceSub, Int.reduceNeg, Nat.reduceLT, Nat.reduceLeDiff, Nat.reduceBEq, undef, (stA), Nat.reduceMul]; try simp (disch := omega) only [(vmp)])
      exact ⟨_, .tup (.cons .none (.cons (.refl _) .nil)), by simp only [AV.low, AV.low.lows, Bool.and_self], rfl⟩
end Go.D

/- Two types made one: what UE asks. -/
set_option linter.unusedVariables false
set_option linter.unusedSimpArgs false
set_option linter.unnecessarySimpa false
set_option maxRecDepth 100000
namespace Go.D
open Go Go.Vm Go.Proofs Go.RowKit

theorem uall1 {a b : Tr} {u : List Cl × Int} (h : UAll [(a, b)] u) : (u.2 = 0 ∧ ∃ f, validT conB a = true ∧ validT conB b = true ∧ Mgu [(a, b)] f ∧ resN f (lets) = false ∧ u.1 = resC f (lets)) ∨ (¬ u.2 = 0 ∧ u.1 = []) := by
  by_cases hv : ∀ c ∈ [(a, b)], vB c = true
  · have h1 := hv (a, b) (by simp)
    unfold vB at h1
    rw [Bool.and_eq_true] at h1
    rcases uniR_cases (h.uni hv (by simp)) with ⟨h2, f, h3, h4, h5⟩ | h2
    · exact .inl ⟨h2, f, h1.1, h1.2, h3, h4, h5⟩
    · exact .inr h2
  · have := h.bad hv
    subst this
    exact .inr ⟨by simp, rfl⟩
set_option maxHeartbeats 4000000 in
theorem unifyG_ok (a b : Tr) (ha : lenT a) (hb : lenT b) (u : List Cl × Int) (hu : UAll [(a, b)] u) (σ : List Ent) : ACalls E 16 [tyV a, tyV b] σ fun r τ => r = .tup [.sl (clsV u.1), i64 u.2] ∧ τ = σ := by
  have h := fun σ' => unifyAllG_ok [(a, b)] (by simp) (fun c hc => by rw [List.mem_singleton.1 hc]; exact ⟨ha, hb⟩) u hu σ'
  rcases a with ⟨d, n, us⟩
  rcases b with ⟨d', n', us'⟩
  refine xacalls T0 .freeze [] Tryz.func16 rfl (by kernel_rfl) (by kernel_rfl) (by simp [Tryz.ntmps16]) ?_
  simp only [List.map_cons, List.map_nil, pairV, tyCells, List.cons_append, List.nil_append] at h
  (simp only [tyV, (vmA), Nat.reduceEqDiff, reduceIte, Nat.reduceAdd, Int.reduceToNat, Int.reduceLE, Int.reduceLT, Int.reduceEq, Int.reduceNe, Int.reduceAdd, Int.reduceSub, Int.reduceNeg, Nat.reduceLT, Nat.reduceLeDiff, Nat.reduceBEq, undef, (stA), Nat.reduceMul]; try simp (disch := omega) only [(vmp)])
  refine xWait.go (h _) ?_
  (simp only [(vmA), Nat.reduceEqDiff, reduceIte, Nat.reduceAdd, Int.reduceToNat, Int.reduceLE, Int.reduceLT, Int.reduceEq, Int.reduceNe, Int.reduceAdd, Int.reduceSub, Int.reduceNeg, Nat.reduceLT, Nat.reduceLeDiff, Nat.reduceBEq, undef, (stA), Nat.reduceMul]; try simp (disch := omega) only [(vmp)])
  exact ⟨_, .refl _, by simp only [AV.low, AV.low.lows, clsV_low, Bool.and_self], rfl⟩
theorem unifyOK_all (a b : Tr) (ha : lenT a) (hb : lenT b) : UnifyOK a b := fun σ => by
  obtain ⟨u, hu⟩ := uall_ex [(a, b)] fun c hc => by rw [List.mem_singleton.1 hc]; exact ⟨ha, hb⟩
  refine ⟨u, ?_, unifyG_ok a b ha hb u hu σ⟩
  rcases uall1 hu with ⟨h1, f, h2, h3, h4, h5, h6⟩ | h1
  · refine .inl ⟨h1, ?_, h2, h3⟩
    rw [h6]
    exact mgu_uniG h4 h5 (by simp) (valid_typ h2) (valid_typ h3)
  · exact .inr h1
end Go.D

/- The law's example, by what holds of all. -/
set_option linter.unusedVariables false
set_option linter.unusedSimpArgs false
set_option linter.unnecessarySimpa false
set_option maxRecDepth 100000
namespace Go.D
open Go Go.Vm Go.Proofs Go.RowKit

def exA : Tr := .mk kiPair [] [vT na, .mk kiInt [] []]
def exB : Tr := .mk kiPair [] [vT nb, vT nb]
theorem validA : validT conB exA = true := by decide +kernel
theorem validB : validT conB exB = true := by decide +kernel
abbrev tI : Tr := .mk kiInt [] []
def exF (n : List UInt8) : Tr := if n = na ∨ n = nb then tI else vT n
theorem tI_put (f : List UInt8 → Tr) : putF f tI = tI := by rw [putF_non (by decide)]; rfl
theorem exA_put (f : List UInt8 → Tr) : putF f exA = .mk kiPair [] [f na, tI] := by
  unfold exA; rw [putF_non (by decide), putFs, putFs, putFs, putF_vT, tI_put]
theorem exB_put (f : List UInt8 → Tr) : putF f exB = .mk kiPair [] [f nb, f nb] := by
  unfold exB; rw [putF_non (by decide), putFs, putFs, putFs, putF_vT]
theorem tI_vT (n : List UInt8) : ¬ tI = vT n := fun e => by
  have := (Tr.mk.inj e).1
  exact absurd this (by decide)
theorem exF_in {n : List UInt8} (h : n = na ∨ n = nb) : exF n = tI := if_pos h
theorem exF_out {n : List UInt8} (h : ¬ (n = na ∨ n = nb)) : exF n = vT n := if_neg h
theorem ex_mgu : Mgu [(exA, exB)] exF := by
  refine ⟨fun c hc => ?_, fun n => ?_, fun θ hθ n => ?_, fun n m e => ?_, fun n => ?_⟩
  · rw [List.mem_singleton.1 hc]
    show putF exF exA = putF exF exB
    rw [exA_put, exB_put, exF_in (.inl rfl), exF_in (.inr rfl)]
  · by_cases h : n = na ∨ n = nb
    · rw [exF_in h, tI_put]
    · rw [exF_out h, putF_vT, exF_out h]
  · have h1 : putF θ exA = putF θ exB := hθ (exA, exB) (by simp)
    rw [exA_put, exB_put] at h1
    have h2 := (Tr.mk.inj h1).2.2
    simp only [List.cons.injEq, and_true] at h2
    by_cases h : n = na ∨ n = nb
    · rw [exF_in h, tI_put]
      rcases h with rfl | rfl
      · rw [h2.1, ← h2.2]
      · exact h2.2
    · rw [exF_out h, putF_vT]
  · by_cases h : n = na ∨ n = nb
    · rw [exF_in h] at e; exact absurd e (tI_vT m)
    · rw [exF_out h] at e
      have := (Tr.mk.inj e).2.1
      rw [this]; exact List.lt_irrefl _
  · by_cases h : n = na ∨ n = nb
    · refine .inr ⟨?_, ?_⟩
      · rcases h with rfl | rfl <;> decide
      · rw [exF_in h]; exact ⟨by simp [lenT, lenTs], by decide +kernel⟩
    · exact .inl (exF_out h)
theorem ex_no : resN exF lets = false := by
  unfold resN
  rw [List.any_eq_false]
  intro n _
  by_cases h : n = na ∨ n = nb
  · have : fitsB (satT tI) = true := by decide +kernel
    rw [exF_in h, this]; simp
  · rw [exF_out h]; simp
theorem ex_res : resC exF lets = [(na, tI), (nb, tI)] := by
  refine ascC_ext (resC_asc lets_asc) (by unfold ascC; simp; decide) fun n => ?_
  rw [resC_look ex_no]
  have ma : na ∈ lets := lets_mem.2 (by decide)
  have mb : nb ∈ lets := lets_mem.2 (by decide)
  unfold Sub'.look
  by_cases h1 : n = na
  · subst h1
    rw [exF_in (.inl rfl), if_pos ⟨ma, tI_vT _⟩, if_pos rfl]
  · rw [if_neg h1]
    unfold Sub'.look
    by_cases h2 : n = nb
    · subst h2
      rw [exF_in (.inr rfl), if_pos ⟨mb, tI_vT _⟩, if_pos rfl]
    · rw [if_neg h2, exF_out (by simp [h1, h2]), if_neg (by simp)]; rfl
theorem ex_all : UAll [(exA, exB)] ([(na, tI), (nb, tI)], 0) := by
  have hv : ∀ c ∈ [(exA, exB)], vB c = true := fun c hc => by
    rw [List.mem_singleton.1 hc]; unfold vB; rw [validA, validB]; rfl
  exact ⟨fun h => absurd hv h, fun _ h => absurd (by simp) h, fun _ _ => .inr ⟨exF, ex_mgu, .inr ⟨ex_no, by rw [ex_res]⟩⟩⟩
theorem exU_ok (σ : List Ent) : ACalls E 16 [.agg [.str kiPair, .str [], .sl [.agg [.str kiVar, .str na, nilS], .agg [.str kiInt, .str [], nilS]]], .agg [.str kiPair, .str [], .sl [.agg [.str kiVar, .str nb, nilS], .agg [.str kiVar, .str nb, nilS]]]] σ fun r τ => r = .tup [.sl (clsV [(na, tI), (nb, tI)]), i64 0] ∧ τ = σ := by
  have h := unifyG_ok exA exB (by simp [exA, vT, lenT, lenTs]) (by simp [exB, vT, lenT, lenTs]) _ ex_all σ
  refine ACalls.wk ?_ h
  simp only [exA, exB, vT, tyV, tysV]
  repeat' first | exact .nil | exact .refl _ | exact WkL.nil | apply Wk.agg | apply Wk.sl | apply WkL.cons
set_option maxHeartbeats 4000000 in
theorem awake_ok : AwakeOK := by
  intro σ
  refine xacalls T0 .drop [] Tryz.func15 rfl (by kernel_rfl) (by kernel_rfl) (by simp [Tryz.ntmps15]) ?_
  have h := fun σ' => exU_ok σ'
  have lA : ∀ n, AV.low.lows n [.agg [.str kiVar, .str na, nilS], .agg [.str kiInt, .str [], nilS]] = true := fun n => rfl
  have lB : ∀ n, AV.low.lows n [.agg [.str kiVar, .str nb, nilS], .agg [.str kiVar, .str nb, nilS]] = true := fun n => rfl
  (simp only [(vmA), Nat.reduceEqDiff, reduceIte, Nat.reduceAdd, Int.reduceToNat, Int.reduceLE, Int.reduceLT, Int.reduceEq, Int.reduceNe, Int.reduceAdd, Int.reduceSub, Int.reduceNeg, Nat.reduceLT, Nat.reduceLeDiff, Nat.reduceBEq, undef, (stA), Nat.reduceMul]; try simp (disch := omega) only [(vmp)])
  refine xWait.go (variable_ok na _) ?_
  (simp only [(vmA), Nat.reduceEqDiff, reduceIte, Nat.reduceAdd, Int.reduceToNat, Int.reduceLE, Int.reduceLT, Int.reduceEq, Int.reduceNe, Int.reduceAdd, Int.reduceSub, Int.reduceNeg, Nat.reduceLT, Nat.reduceLeDiff, Nat.reduceBEq, undef, (stA), Nat.reduceMul]; try simp (disch := omega) only [(vmp)])
  refine xWait.go (ty0_ok kiInt _) ?_
  (simp only [(vmA), Nat.reduceEqDiff, reduceIte, Nat.reduceAdd, Int.reduceToNat, Int.reduceLE, Int.reduceLT, Int.reduceEq, Int.reduceNe, Int.reduceAdd, Int.reduceSub, Int.reduceNeg, Nat.reduceLT, Nat.reduceLeDiff, Nat.reduceBEq, undef, (stA), Nat.reduceMul]; try simp (disch := omega) only [(vmp)])
  refine xWait.go (ty_ok kiPair _ lA _) ?_
  (simp only [(vmA), Nat.reduceEqDiff, reduceIte, Nat.reduceAdd, Int.reduceToNat, Int.reduceLE, Int.reduceLT, Int.reduceEq, Int.reduceNe, Int.reduceAdd, Int.reduceSub, Int.reduceNeg, Nat.reduceLT, Nat.reduceLeDiff, Nat.reduceBEq, undef, (stA), Nat.reduceMul]; try simp (disch := omega) only [(vmp)])
  refine xWait.go (variable_ok nb _) ?_
  (simp only [(vmA), Nat.reduceEqDiff, reduceIte, Nat.reduceAdd, Int.reduceToNat, Int.reduceLE, Int.reduceLT, Int.reduceEq, Int.reduceNe, Int.reduceAdd, Int.reduceSub, Int.reduceNeg, Nat.reduceLT, Nat.reduceLeDiff, Nat.reduceBEq, undef, (stA), Nat.reduceMul]; try simp (disch := omega) only [(vmp)])
  refine xWait.go (variable_ok nb _) ?_
  (simp only [(vmA), Nat.reduceEqDiff, reduceIte, Nat.reduceAdd, Int.reduceToNat, Int.reduceLE, Int.reduceLT, Int.reduceEq, Int.reduceNe, Int.reduceAdd, Int.reduceSub, Int.reduceNeg, Nat.reduceLT, Nat.reduceLeDiff, Nat.reduceBEq, undef, (stA), Nat.reduceMul]; try simp (disch := omega) only [(vmp)])
  refine xWait.go (ty_ok kiPair _ lB _) ?_
  (simp only [(vmA), Nat.reduceEqDiff, reduceIte, Nat.reduceAdd, Int.reduceToNat, Int.reduceLE, Int.reduceLT, Int.reduceEq, Int.reduceNe, Int.reduceAdd, Int.reduceSub, Int.reduceNeg, Nat.reduceLT, Nat.reduceLeDiff, Nat.reduceBEq, undef, (stA), Nat.reduceMul]; try simp (disch := omega) only [(vmp)])
  refine xWait.go (h _) ?_
  (simp only [clsV, List.map_cons, List.map_nil, clV, clC, tyCells, tysV, List.getD_cons_zero, List.getD_cons_succ, (vmA), Nat.reduceEqDiff, reduceIte, Nat.reduceAdd, Int.reduceToNat, Int.reduceLE, Int.reduceLT, Int.reduceEq, Int.reduceNe, Int.reduceAdd, Int.reduceSub, Int.reduceNeg, Nat.reduceLT, Nat.reduceLeDiff, Nat.reduceBEq, undef, (stA), Nat.reduceMul]; try simp (disch := omega) only [(vmp)])
end Go.D
