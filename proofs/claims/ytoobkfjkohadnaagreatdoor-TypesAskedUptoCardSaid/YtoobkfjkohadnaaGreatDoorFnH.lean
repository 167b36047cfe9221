/- The example: two pairs are unified. -/
import Derived.Test.YtoobkfjkohadnaaGreatDoorFnG
set_option linter.unusedVariables false
set_option linter.unusedSimpArgs false
set_option linter.unnecessarySimpa false
set_option maxRecDepth 100000
namespace Go.D
open Go Go.Vm Go.Proofs Go.RowKit

def exA : Tr := .mk kiPair [] [.mk kiVar na [], .mk kiInt [] []]
def exB : Tr := .mk kiPair [] [.mk kiVar nb [], .mk kiVar nb []]
theorem validA : validT conB exA = true := by decide +kernel
theorem validB : validT conB exB = true := by decide +kernel
def cA : List AV := [.str kiPair, .str [], .sl [.agg [.str kiVar, .str na, nilS], .agg [.str kiInt, .str [], nilS]]]
def cB : List AV := [.str kiPair, .str [], .sl [.agg [.str kiVar, .str nb, nilS], .agg [.str kiVar, .str nb, nilS]]]
theorem okA (σ : List Ent) : ACalls E 44 [.agg cA] σ fun r τ => r = boolV true ∧ τ = σ := by
  have h := ValidType_ok exA (by simp [exA, lenT, lenTs]) σ
  rw [validA] at h
  refine ACalls.wk ?_ h
  simp only [exA, tyV, tysV, cA]
  repeat' first | exact .nil | exact .refl _ | exact WkL.nil | apply Wk.agg | apply Wk.sl | apply WkL.cons
theorem okB (σ : List Ent) : ACalls E 44 [.agg cB] σ fun r τ => r = boolV true ∧ τ = σ := by
  have h := ValidType_ok exB (by simp [exB, lenT, lenTs]) σ
  rw [validB] at h
  refine ACalls.wk ?_ h
  simp only [exB, tyV, tysV, cB]
  repeat' first | exact .nil | exact .refl _ | exact WkL.nil | apply Wk.agg | apply Wk.sl | apply WkL.cons
def pairE : Ent := .arr 60 (cA ++ cB) 0 0
def N9 (n : Nat) : List Ent := [tyE kiPair [] (.sl [.agg [.str kiVar, .str na, nilS], .agg [.str kiInt, .str [], nilS]]), nodeE kiPair [] (.rsl (n + 10) 1 0 2 1) nilP, tyE kiVar na nilS, tyE kiVar na nilS, nodeE kiVar na nilS nilP,
  rowP [.ref (n + 9) 0 0, .ref (n + 13) 0 0] 1, tyE kiInt [] nilS, tyE kiInt [] nilS, nodeE kiInt [] nilS nilP]
def N7 (n : Nat) : List Ent := [tyE kiPair [] (.sl [.agg [.str kiVar, .str nb, nilS], .agg [.str kiVar, .str nb, nilS]]), nodeE kiPair [] (.rsl (n + 19) 1 0 2 1) nilP, tyE kiVar nb nilS, tyE kiVar nb nilS, nodeE kiVar nb nilS nilP,
  rowP [.ref (n + 18) 0 0, .ref (n + 18) 0 0] 1, tyE kiVar nb nilS]
def L5 (n : Nat) (x0 : Ent) (es : List MEnt) (c : Nat) : List Ent := [x0, .map es c, .map [] 0, graE (n + 1) (n + 2), pairE]
theorem at_own (σ L : List Ent) (j : Nat) : (σ ++ L)[σ.length + j]? = L[j]? := by rw [List.getElem?_append_right (by omega), Nat.add_sub_cancel_left]
theorem set_own (σ L : List Ent) (j : Nat) (x : Ent) : (σ ++ L).set (σ.length + j) x = σ ++ L.set j x := by rw [List.set_append_right _ _ (by omega), Nat.add_sub_cancel_left]
def esA (n : Nat) : List MEnt := [(.str na, .ref (n + 9) 0 0, 0)]
set_option maxHeartbeats 4000000 in
theorem nodeA_ok (σ : List Ent) (x0 : Ent) : ACalls E 56 [.ref (σ.length + 3) 0 0, .agg cA] (σ ++ L5 σ.length x0 [] 0) fun r τ => r = .ref (σ.length + 6) 0 0 ∧ τ = σ ++ (L5 σ.length x0 (esA σ.length) 1 ++ N9 σ.length) := by
  have hlen : (σ ++ L5 σ.length x0 [] 0).length = σ.length + 5 := by simp [L5]
  have hlen1 : (σ ++ L5 σ.length x0 (esA σ.length) 1).length = σ.length + 5 := by simp [L5]
  have hset : (σ ++ L5 σ.length x0 [] 0).set (σ.length + 1) (.map (esA σ.length) 1) = σ ++ L5 σ.length x0 (esA σ.length) 1 := by rw [set_own]; rfl
  have hg : (σ ++ L5 σ.length x0 [] 0)[σ.length + 3]? = some (graE (σ.length + 1) (σ.length + 2)) := by rw [at_own]; rfl
  have hv : (σ ++ L5 σ.length x0 [] 0)[σ.length + 1]? = some (.map [] 0) := by rw [at_own]; rfl
  have hg1 : (σ ++ L5 σ.length x0 (esA σ.length) 1)[σ.length + 3]? = some (graE (σ.length + 1) (σ.length + 2)) := by rw [at_own]; rfl
  have hv1 : (σ ++ L5 σ.length x0 (esA σ.length) 1)[σ.length + 1]? = some (.map (esA σ.length) 1) := by rw [at_own]; rfl
  have h := nodePair_ok kiVar na kiInt [] (σ ++ L5 σ.length x0 [] 0) (σ ++ L5 σ.length x0 (esA σ.length) 1) (σ ++ L5 σ.length x0 (esA σ.length) 1) (by omega) (by omega) (tyE kiVar na nilS) (nodeE kiVar na nilS nilP) [tyE kiInt [] nilS, nodeE kiInt [] nilS nilP] (σ.length + 9) (σ.length + 13)
    (σ.length + 3) (σ.length + 1) (σ.length + 2) 0 [] hg hv rfl (fun e he => by cases he)
    (fun a b c => by
      have h := nodeNew_ok na ((σ ++ L5 σ.length x0 [] 0) ++ [a, b, c]) (σ.length + 3) (σ.length + 1) (σ.length + 2) 0 [] (get_olds hg _) (get_olds hv _) rfl (fun e he => by cases he)
      have hl : ((σ ++ L5 σ.length x0 [] 0) ++ [a, b, c]).length = σ.length + 8 := by rw [List.length_append, hlen]; rfl
      rw [hl, List.set_append_left _ _ (by omega)] at h
      refine h.mono fun r τ ⟨q1, q2⟩ => ⟨q1, ?_⟩
      rw [q2, List.append_assoc]
      congr 1)
    (fun L hL => by
      have h := nodeLeaf_ok kiInt (by decide) ((σ ++ L5 σ.length x0 (esA σ.length) 1) ++ L) (σ.length + 3) (σ.length + 1) (σ.length + 2) 1 (esA σ.length) (get_olds hg1 _) (get_olds hv1 _) rfl (fun e he => by simp [esA] at he; subst he; exact ⟨_, rfl⟩)
      have hl : ((σ ++ L5 σ.length x0 (esA σ.length) 1) ++ L).length = σ.length + 12 := by rw [List.length_append, hlen1, hL]
      rw [hl] at h
      refine h.mono fun r τ ⟨q1, q2⟩ => ⟨q1, ?_⟩
      rw [q2, List.append_assoc])
  rw [hlen] at h
  refine h.mono fun r τ ⟨q1, q2⟩ => ⟨q1, ?_⟩
  rw [q2, List.append_assoc]
  rfl
set_option maxHeartbeats 4000000 in
theorem nodeB_ok (σ : List Ent) (x0 : Ent) : ACalls E 56 [.ref (σ.length + 3) 0 0, .agg cB] (σ ++ (L5 σ.length x0 (esA σ.length) 1 ++ N9 σ.length)) fun r τ => r = .ref (σ.length + 15) 0 0 ∧
    τ = σ ++ (L5 σ.length x0 (exMap (σ.length + 9) (σ.length + 18)) 2 ++ N9 σ.length ++ N7 σ.length) := by
  have hlen : (σ ++ (L5 σ.length x0 (esA σ.length) 1 ++ N9 σ.length)).length = σ.length + 14 := by simp [L5, N9]
  have hlen1 : (σ ++ (L5 σ.length x0 (exMap (σ.length + 9) (σ.length + 18)) 2 ++ N9 σ.length)).length = σ.length + 14 := by simp [L5, N9]
  have hset : (σ ++ (L5 σ.length x0 (esA σ.length) 1 ++ N9 σ.length)).set (σ.length + 1) (.map (exMap (σ.length + 9) (σ.length + 18)) 2) = σ ++ (L5 σ.length x0 (exMap (σ.length + 9) (σ.length + 18)) 2 ++ N9 σ.length) := by rw [set_own]; rfl
  have hg : (σ ++ (L5 σ.length x0 (esA σ.length) 1 ++ N9 σ.length))[σ.length + 3]? = some (graE (σ.length + 1) (σ.length + 2)) := by rw [at_own]; rfl
  have hv : (σ ++ (L5 σ.length x0 (esA σ.length) 1 ++ N9 σ.length))[σ.length + 1]? = some (.map (esA σ.length) 1) := by rw [at_own]; rfl
  have hg1 : (σ ++ (L5 σ.length x0 (exMap (σ.length + 9) (σ.length + 18)) 2 ++ N9 σ.length))[σ.length + 3]? = some (graE (σ.length + 1) (σ.length + 2)) := by rw [at_own]; rfl
  have hv1 : (σ ++ (L5 σ.length x0 (exMap (σ.length + 9) (σ.length + 18)) 2 ++ N9 σ.length))[σ.length + 1]? = some (.map (exMap (σ.length + 9) (σ.length + 18)) 2) := by rw [at_own]; rfl
  have hkA : strK (esA σ.length) := fun e he => by simp [esA] at he; subst he; exact ⟨_, rfl⟩
  have h := nodePair_ok kiVar nb kiVar nb (σ ++ (L5 σ.length x0 (esA σ.length) 1 ++ N9 σ.length)) (σ ++ (L5 σ.length x0 (exMap (σ.length + 9) (σ.length + 18)) 2 ++ N9 σ.length)) (σ ++ (L5 σ.length x0 (exMap (σ.length + 9) (σ.length + 18)) 2 ++ N9 σ.length)) (by omega) (by omega) (tyE kiVar nb nilS) (nodeE kiVar nb nilS nilP) [] (σ.length + 18) (σ.length + 18)
    (σ.length + 3) (σ.length + 1) (σ.length + 2) 1 (esA σ.length) hg hv rfl hkA
    (fun a b c => by
      have h := nodeNew_ok nb ((σ ++ (L5 σ.length x0 (esA σ.length) 1 ++ N9 σ.length)) ++ [a, b, c]) (σ.length + 3) (σ.length + 1) (σ.length + 2) 1 (esA σ.length) (get_olds hg _) (get_olds hv _) rfl hkA
      have hl : ((σ ++ (L5 σ.length x0 (esA σ.length) 1 ++ N9 σ.length)) ++ [a, b, c]).length = σ.length + 17 := by rw [List.length_append, hlen]; rfl
      rw [hl, List.set_append_left _ _ (by omega)] at h
      refine h.mono fun r τ ⟨q1, q2⟩ => ⟨q1, ?_⟩
      rw [q2, List.append_assoc, ← hset]
      rfl)
    (fun L hL => by
      have h := nodeOld_ok nb (σ.length + 18) ((σ ++ (L5 σ.length x0 (exMap (σ.length + 9) (σ.length + 18)) 2 ++ N9 σ.length)) ++ L) (σ.length + 3) (σ.length + 1) (σ.length + 2) 2 (exMap (σ.length + 9) (σ.length + 18)) (get_olds hg1 _) (get_olds hv1 _) (by simp [exMap, mget, keq]) (fun e he => by simp [exMap] at he; rcases he with rfl | rfl <;> exact ⟨_, rfl⟩) (by rw [List.length_append, hlen1, hL]; omega)
      refine h.mono fun r τ ⟨q1, q2⟩ => ⟨q1, ?_⟩
      rw [q2, List.append_nil])
  rw [hlen] at h
  refine h.mono fun r τ ⟨q1, q2⟩ => ⟨q1, ?_⟩
  rw [q2, List.append_assoc]
  rfl
def L21 (n : Nat) (x0 : Ent) : List Ent := L5 n x0 (exMap (n + 9) (n + 18)) 2 ++ N9 n ++ N7 n
def L21' (n : Nat) (x0 : Ent) : List Ent := (((L21 n x0).set 6 (nodeE kiPair [] (.rsl (n + 10) 1 0 2 1) (.ref (n + 15) 0 0))).set 18 (nodeE kiVar nb nilS (.ref (n + 9) 0 0))).set 9 (nodeE kiVar na nilS (.ref (n + 13) 0 0))
theorem unifyE_ok (σ : List Ent) (x0 : Ent) (gv : AV) : ACalls E 55 [gv, .ref (σ.length + 6) 0 0, .ref (σ.length + 15) 0 0] (σ ++ L21 σ.length x0) fun r τ => r = boolV true ∧ τ = σ ++ L21' σ.length x0 := by
  have h := unifyEx_ok gv (σ ++ L21 σ.length x0) (σ.length + 6) (σ.length + 9) (σ.length + 10) (σ.length + 13) (σ.length + 15) (σ.length + 18) (σ.length + 19) (by omega) (by omega) (by omega) (by omega) (by omega) (by omega)
    (by rw [at_own]; rfl) (by rw [at_own]; rfl) (by rw [at_own]; rfl) (by rw [at_own]; rfl) (by rw [at_own]; rfl) (by rw [at_own]; rfl) (by rw [at_own]; rfl)
  rw [set_own, set_own, set_own] at h
  exact h
theorem resultE_ok (σ : List Ent) (x0 : Ent) : ACalls E 57 [.ref (σ.length + 3) 0 0] (σ ++ L21' σ.length x0) fun r τ => r = .tup [.sl (clsV [(na, .mk kiInt [] []), (nb, .mk kiInt [] [])]), i64 0] ∧ τ = σ ++ (L21' σ.length x0).set 2 (.map [(.ref (σ.length + 13) 0 0, sz1, 0)] 1) := by
  have h := result_ok (σ ++ L21' σ.length x0) (σ.length + 3) (σ.length + 1) (σ.length + 2) (σ.length + 9) (σ.length + 18) (σ.length + 13) (by rw [at_own]; rfl) (by rw [at_own]; rfl) (by rw [at_own]; rfl) (by rw [at_own]; rfl) (by rw [at_own]; rfl) (by rw [at_own]; rfl)
  rw [set_own] at h
  exact h
def exCs : AV := .sl (clsV [(na, .mk kiInt [] []), (nb, .mk kiInt [] [])])
set_option maxHeartbeats 8000000 in
theorem unifyAll_ok (σ : List Ent) : ACalls E 24 [.sl [.agg (cA ++ cB)]] σ fun r τ => r = .tup [exCs, i64 0] ∧ τ = σ := by
  refine xacalls T0 .freeze [] Tryz.func24 rfl (by kernel_rfl) (by kernel_rfl) (by simp [Tryz.ntmps24]) ?_
  (simp only [(vmA), Nat.reduceEqDiff, reduceIte, Nat.reduceAdd, Int.reduceToNat, Int.reduceLE, Int.reduceLT, Int.reduceEq, Int.reduceNe, Int.reduceAdd, Int.reduceSub, Int.reduceNeg, Nat.reduceLT, Nat.reduceLeDiff, Nat.reduceBEq, undef, (stA), Nat.reduceMul]; try simp (disch := omega) only [(vmp)])
  have oA := fun σ' => okA σ'
  have oB := fun σ' => okB σ'
  simp only [cA] at oA
  simp only [cB] at oB
  refine xloop (α := Nat) T0 (fun j => [(0, .sl [.agg (cA ++ cB)]), (9, .sl [.agg (cA ++ cB)]), (10, i64 1), (11, i64 j)]) (fun _ => σ) (fun j => if j = 0 then [] else [.arr 60 (cA ++ cB) 0 0]) (fun j => j ≤ 1) (fun j => 1 - j) (by kernel_rfl)
    ⟨0, by omega, by (simp only [(vmA), Nat.reduceEqDiff, reduceIte, Nat.reduceAdd, Int.reduceToNat, Int.reduceLE, Int.reduceLT, Int.reduceEq, Int.reduceNe, Int.reduceAdd, Int.reduceSub, Int.reduceNeg, Nat.reduceLT, Nat.reduceLeDiff, Nat.reduceBEq, undef, (stA), Nat.reduceMul, Int.natCast_zero]; try simp (disch := omega) only [(vmp)]), rfl, rfl⟩ ?_
  rintro j hj
  obtain rfl | rfl : j = 0 ∨ j = 1 := by omega
  · have c1 : ((0 : Nat) : Int) < 1 := by omega
    have gA : [AV.agg (cA ++ cB)].getD 0 .un = .agg (cA ++ cB) := rfl
    (simp only [c1, List.getD_cons_zero, if_true, cA, cB, List.cons_append, List.nil_append, Nat.zero_mul, Nat.one_mul, Nat.reduceMul, List.drop_zero, List.drop_succ_cons, List.take_succ_cons, List.take_zero, (vmA), Nat.reduceEqDiff, reduceIte, Nat.reduceAdd, Int.reduceToNat, Int.reduceLE, Int.reduceLT, Int.reduceEq, Int.reduceNe, Int.reduceAdd, Int.reduceSub, Int.reduceNeg, Nat.reduceLT, Nat.reduceLeDiff, Nat.reduceBEq, undef, (stA), Nat.reduceMul]; try simp (disch := omega) only [(vmp)])
    refine xWait.go (oA _) ?_
    (simp only [Nat.zero_mul, Nat.one_mul, Nat.reduceMul, List.drop_zero, List.drop_succ_cons, List.take_succ_cons, List.take_zero, (vmA), Nat.reduceEqDiff, reduceIte, Nat.reduceAdd, Int.reduceToNat, Int.reduceLE, Int.reduceLT, Int.reduceEq, Int.reduceNe, Int.reduceAdd, Int.reduceSub, Int.reduceNeg, Nat.reduceLT, Nat.reduceLeDiff, Nat.reduceBEq, undef, (stA), Nat.reduceMul]; try simp (disch := omega) only [(vmp)])
    refine xWait.go (oB _) ?_
    (simp only [Nat.zero_mul, Nat.one_mul, Nat.reduceMul, List.drop_zero, List.drop_succ_cons, List.take_succ_cons, List.take_zero, (vmA), Nat.reduceEqDiff, reduceIte, Nat.reduceAdd, Int.reduceToNat, Int.reduceLE, Int.reduceLT, Int.reduceEq, Int.reduceNe, Int.reduceAdd, Int.reduceSub, Int.reduceNeg, Nat.reduceLT, Nat.reduceLeDiff, Nat.reduceBEq, undef, (stA), Nat.reduceMul]; try simp (disch := omega) only [(vmp)])
    exact ⟨1, by omega, by omega, rfl, rfl⟩
  · have c1 : ¬ ((1 : Nat) : Int) < 1 := by omega
    have c2 : ¬ (1 : Nat) = 0 := by omega
    (simp only [c1, c2, if_false, (vmA), Nat.reduceEqDiff, reduceIte, Nat.reduceAdd, Int.reduceToNat, Int.reduceLE, Int.reduceLT, Int.reduceEq, Int.reduceNe, Int.reduceAdd, Int.reduceSub, Int.reduceNeg, Nat.reduceLT, Nat.reduceLeDiff, Nat.reduceBEq, undef, (stA), Nat.reduceMul]; try simp (disch := omega) only [(vmp)])
    generalize hx0 : Ent.arr 60 (cA ++ cB) 0 0 = x0
    refine xloop (α := Nat) T0 (fun j => [(6, .ref (σ.length + 3) 0 0), (33, .sl [.agg (cA ++ cB)]), (34, i64 1), (35, i64 j)]) (fun _ => σ)
      (fun j => if j = 0 then [x0, .map [] 0, .map [] 0, graE (σ.length + 1) (σ.length + 2)] else L21' σ.length x0) (fun j => j ≤ 1) (fun j => 1 - j) (by kernel_rfl)
      ⟨0, by omega, by (simp only [(vmA), Nat.reduceEqDiff, reduceIte, Nat.reduceAdd, Int.reduceToNat, Int.reduceLE, Int.reduceLT, Int.reduceEq, Int.reduceNe, Int.reduceAdd, Int.reduceSub, Int.reduceNeg, Nat.reduceLT, Nat.reduceLeDiff, Nat.reduceBEq, undef, (stA), Nat.reduceMul, Int.natCast_zero]; try simp (disch := omega) only [(vmp)]), rfl, rfl⟩ ?_
    rintro j hj
    obtain rfl | rfl : j = 0 ∨ j = 1 := by omega
    · have c1 : ((0 : Nat) : Int) < 1 := by omega
      (simp only [c1, List.getD_cons_zero, if_true, cA, cB, List.cons_append, List.nil_append, (vmA), Nat.reduceEqDiff, reduceIte, Nat.reduceAdd, Int.reduceToNat, Int.reduceLE, Int.reduceLT, Int.reduceEq, Int.reduceNe, Int.reduceAdd, Int.reduceSub, Int.reduceNeg, Nat.reduceLT, Nat.reduceLeDiff, Nat.reduceBEq, undef, (stA), Nat.reduceMul]; try simp (disch := omega) only [(vmp)])
      refine zdraw T0 ⟨[], [4, 8, 9], [2, 3, 6, 7], some [4], false⟩ (by kernel_rfl) (by kernel_rfl) (by kernel_rfl) (by kernel_rfl) ?_
      (simp only [zDraw_nil,zDraw_go,zDraw_if,zSlot_some,zGuard_tt,zGuard_ff,zGuard_tf,zGuard_ft,zGuard_un,zOut_some,zOut_pure,zOut_cond,zNext_move,zNext_assign,zNext_buildSlice,zNext_load,zNext_store,zNext_builtin,zNext_fieldAddr,zNext_nilCheck,zNext_indexAddr,zNext_unOp, (vmA), Nat.reduceEqDiff, reduceIte, Nat.reduceAdd, Int.reduceToNat, Int.reduceLE, Int.reduceLT, Int.reduceEq, Int.reduceNe, Int.reduceAdd, Int.reduceSub, Int.reduceNeg, Nat.reduceLT, Nat.reduceLeDiff, Nat.reduceBEq, undef, (stA), Nat.reduceMul]; try simp (disch := omega) only [(vmp)])
      have loA : ∀ l' : List Ent, l'[4]? = some pairE → ∀ g' : List Ent, g'.length = σ.length → sget g' l' (σ.length + 4) = some pairE := fun l' h g' hg => by unfold sget; rw [if_neg (by omega), hg, Nat.add_sub_cancel_left, h]
      simp only [pairE, cA, cB, List.cons_append, List.nil_append] at loA
      refine zNext.looseS (r := .ref (σ.length + 4) 0 0) rfl rfl rfl rfl (fun g' l' hg' hl' => ⟨True, trivial, ?_⟩) ?_
      · have q := loA l' (hl' 4 (by simp)) g' hg'
        (simp only [q, (vmA), Nat.reduceEqDiff, reduceIte, Nat.reduceAdd, Int.reduceToNat, Int.reduceLE, Int.reduceLT, Int.reduceEq, Int.reduceNe, Int.reduceAdd, Int.reduceSub, Int.reduceNeg, Nat.reduceLT, Nat.reduceLeDiff, Nat.reduceBEq, undef, (stA), Nat.reduceMul]; try simp (disch := omega) only [(vmp)])
      (simp only [zDraw_nil,zDraw_go,zDraw_if,zSlot_some,zGuard_tt,zGuard_ff,zGuard_tf,zGuard_ft,zGuard_un,zOut_some,zOut_pure,zOut_cond,zNext_move,zNext_assign,zNext_buildSlice,zNext_load,zNext_store,zNext_builtin,zNext_fieldAddr,zNext_nilCheck,zNext_indexAddr,zNext_unOp, (vmA), Nat.reduceEqDiff, reduceIte, Nat.reduceAdd, Int.reduceToNat, Int.reduceLE, Int.reduceLT, Int.reduceEq, Int.reduceNe, Int.reduceAdd, Int.reduceSub, Int.reduceNeg, Nat.reduceLT, Nat.reduceLeDiff, Nat.reduceBEq, undef, (stA), Nat.reduceMul]; try simp (disch := omega) only [(vmp)])
      refine zNext.looseS (r := .agg cA) rfl rfl rfl rfl (fun g' l' hg' hl' => ⟨True, trivial, ?_⟩) ?_
      · have q := loA l' (hl' 4 (by simp)) g' hg'
        (simp only [q, cA, List.take_succ_cons, List.take_zero, (vmA), Nat.reduceEqDiff, reduceIte, Nat.reduceAdd, Int.reduceToNat, Int.reduceLE, Int.reduceLT, Int.reduceEq, Int.reduceNe, Int.reduceAdd, Int.reduceSub, Int.reduceNeg, Nat.reduceLT, Nat.reduceLeDiff, Nat.reduceBEq, undef, (stA), Nat.reduceMul]; try simp (disch := omega) only [(vmp)])
      (simp only [zDraw_nil,zDraw_go,zDraw_if,zSlot_some,zGuard_tt,zGuard_ff,zGuard_tf,zGuard_ft,zGuard_un,zOut_some,zOut_pure,zOut_cond,zNext_move,zNext_assign,zNext_buildSlice,zNext_load,zNext_store,zNext_builtin,zNext_fieldAddr,zNext_nilCheck,zNext_indexAddr,zNext_unOp, (vmA), Nat.reduceEqDiff, reduceIte, Nat.reduceAdd, Int.reduceToNat, Int.reduceLE, Int.reduceLT, Int.reduceEq, Int.reduceNe, Int.reduceAdd, Int.reduceSub, Int.reduceNeg, Nat.reduceLT, Nat.reduceLeDiff, Nat.reduceBEq, undef, (stA), Nat.reduceMul]; try simp (disch := omega) only [(vmp)])
      refine zNext.softC (by rfl) (by rfl) _ rfl (nodeA_ok σ x0) rfl (by intro m hm; simp at hm; subst hm; rfl) ?_
      (simp only [zDraw_nil,zDraw_go,zDraw_if,zSlot_some,zGuard_tt,zGuard_ff,zGuard_tf,zGuard_ft,zGuard_un,zOut_some,zOut_pure,zOut_cond,zNext_move,zNext_assign,zNext_buildSlice,zNext_load,zNext_store,zNext_builtin,zNext_fieldAddr,zNext_nilCheck,zNext_indexAddr,zNext_unOp, (vmA), Nat.reduceEqDiff, reduceIte, Nat.reduceAdd, Int.reduceToNat, Int.reduceLE, Int.reduceLT, Int.reduceEq, Int.reduceNe, Int.reduceAdd, Int.reduceSub, Int.reduceNeg, Nat.reduceLT, Nat.reduceLeDiff, Nat.reduceBEq, undef, (stA), Nat.reduceMul]; try simp (disch := omega) only [(vmp)])
      refine zNext.looseS (r := .ref (σ.length + 4) 0 3) rfl rfl rfl rfl (fun g' l' hg' hl' => ⟨True, trivial, ?_⟩) ?_
      · have q := loA l' (hl' 4 (by simp)) g' hg'
        (simp only [q, (vmA), Nat.reduceEqDiff, reduceIte, Nat.reduceAdd, Int.reduceToNat, Int.reduceLE, Int.reduceLT, Int.reduceEq, Int.reduceNe, Int.reduceAdd, Int.reduceSub, Int.reduceNeg, Nat.reduceLT, Nat.reduceLeDiff, Nat.reduceBEq, undef, (stA), Nat.reduceMul]; try simp (disch := omega) only [(vmp)])
      (simp only [zDraw_nil,zDraw_go,zDraw_if,zSlot_some,zGuard_tt,zGuard_ff,zGuard_tf,zGuard_ft,zGuard_un,zOut_some,zOut_pure,zOut_cond,zNext_move,zNext_assign,zNext_buildSlice,zNext_load,zNext_store,zNext_builtin,zNext_fieldAddr,zNext_nilCheck,zNext_indexAddr,zNext_unOp, (vmA), Nat.reduceEqDiff, reduceIte, Nat.reduceAdd, Int.reduceToNat, Int.reduceLE, Int.reduceLT, Int.reduceEq, Int.reduceNe, Int.reduceAdd, Int.reduceSub, Int.reduceNeg, Nat.reduceLT, Nat.reduceLeDiff, Nat.reduceBEq, undef, (stA), Nat.reduceMul]; try simp (disch := omega) only [(vmp)])
      refine zNext.looseS (r := .agg cB) rfl rfl rfl rfl (fun g' l' hg' hl' => ⟨True, trivial, ?_⟩) ?_
      · have q := loA l' (hl' 4 (by simp)) g' hg'
        (simp only [q, cB, List.drop_succ_cons, List.drop_zero, List.take_succ_cons, List.take_zero, (vmA), Nat.reduceEqDiff, reduceIte, Nat.reduceAdd, Int.reduceToNat, Int.reduceLE, Int.reduceLT, Int.reduceEq, Int.reduceNe, Int.reduceAdd, Int.reduceSub, Int.reduceNeg, Nat.reduceLT, Nat.reduceLeDiff, Nat.reduceBEq, undef, (stA), Nat.reduceMul]; try simp (disch := omega) only [(vmp)])
      (simp only [zDraw_nil,zDraw_go,zDraw_if,zSlot_some,zGuard_tt,zGuard_ff,zGuard_tf,zGuard_ft,zGuard_un,zOut_some,zOut_pure,zOut_cond,zNext_move,zNext_assign,zNext_buildSlice,zNext_load,zNext_store,zNext_builtin,zNext_fieldAddr,zNext_nilCheck,zNext_indexAddr,zNext_unOp, (vmA), Nat.reduceEqDiff, reduceIte, Nat.reduceAdd, Int.reduceToNat, Int.reduceLE, Int.reduceLT, Int.reduceEq, Int.reduceNe, Int.reduceAdd, Int.reduceSub, Int.reduceNeg, Nat.reduceLT, Nat.reduceLeDiff, Nat.reduceBEq, undef, (stA), Nat.reduceMul]; try simp (disch := omega) only [(vmp)])
      refine zNext.softC (by rfl) (by rfl) _ rfl (nodeB_ok σ x0) rfl (by intro m hm; simp at hm; subst hm; rfl) ?_
      (simp only [zDraw_nil,zDraw_go,zDraw_if,zSlot_some,zGuard_tt,zGuard_ff,zGuard_tf,zGuard_ft,zGuard_un,zOut_some,zOut_pure,zOut_cond,zNext_move,zNext_assign,zNext_buildSlice,zNext_load,zNext_store,zNext_builtin,zNext_fieldAddr,zNext_nilCheck,zNext_indexAddr,zNext_unOp, (vmA), Nat.reduceEqDiff, reduceIte, Nat.reduceAdd, Int.reduceToNat, Int.reduceLE, Int.reduceLT, Int.reduceEq, Int.reduceNe, Int.reduceAdd, Int.reduceSub, Int.reduceNeg, Nat.reduceLT, Nat.reduceLeDiff, Nat.reduceBEq, undef, (stA), Nat.reduceMul]; try simp (disch := omega) only [(vmp)])
      refine zNext.softC (by rfl) (by rfl) _ rfl (unifyE_ok σ x0 _) rfl (by intro m hm; simp at hm; subst hm; rfl) ?_
      (simp only [zDraw_nil,zDraw_go,zDraw_if,zSlot_some,zGuard_tt,zGuard_ff,zGuard_tf,zGuard_ft,zGuard_un,zOut_some,zOut_pure,zOut_cond,zNext_move,zNext_assign,zNext_buildSlice,zNext_load,zNext_store,zNext_builtin,zNext_fieldAddr,zNext_nilCheck,zNext_indexAddr,zNext_unOp, (vmA), Nat.reduceEqDiff, reduceIte, Nat.reduceAdd, Int.reduceToNat, Int.reduceLE, Int.reduceLT, Int.reduceEq, Int.reduceNe, Int.reduceAdd, Int.reduceSub, Int.reduceNeg, Nat.reduceLT, Nat.reduceLeDiff, Nat.reduceBEq, undef, (stA), Nat.reduceMul]; try simp (disch := omega) only [(vmp)])
      exact ⟨1, by omega, by omega, rfl, rfl⟩
    · have c1 : ¬ ((1 : Nat) : Int) < 1 := by omega
      have c2 : ¬ (1 : Nat) = 0 := by omega
      (simp only [c1, c2, if_false, (vmA), Nat.reduceEqDiff, reduceIte, Nat.reduceAdd, Int.reduceToNat, Int.reduceLE, Int.reduceLT, Int.reduceEq, Int.reduceNe, Int.reduceAdd, Int.reduceSub, Int.reduceNeg, Nat.reduceLT, Nat.reduceLeDiff, Nat.reduceBEq, undef, (stA), Nat.reduceMul]; try simp (disch := omega) only [(vmp)])
      refine xWait.go (resultE_ok σ x0) ?_
      rw [List.take_left, List.drop_left]
      (simp only [(vmA), Nat.reduceEqDiff, reduceIte, Nat.reduceAdd, Int.reduceToNat, Int.reduceLE, Int.reduceLT, Int.reduceEq, Int.reduceNe, Int.reduceAdd, Int.reduceSub, Int.reduceNeg, Nat.reduceLT, Nat.reduceLeDiff, Nat.reduceBEq, undef, (stA), Nat.reduceMul]; try simp (disch := omega) only [(vmp)])
      exact ⟨_, .refl _, by simp only [AV.low, AV.low.lows, clsV_low, Bool.and_self], rfl⟩
set_option maxHeartbeats 4000000 in
theorem unify_ok (σ : List Ent) : ACalls E 16 [.agg cA, .agg cB] σ fun r τ => r = .tup [exCs, i64 0] ∧ τ = σ := by
  refine xacalls T0 .freeze [] Tryz.func16 rfl (by kernel_rfl) (by kernel_rfl) (by simp [Tryz.ntmps16]) ?_
  have h := fun σ' => unifyAll_ok σ'
  simp only [cA, cB, List.cons_append, List.nil_append] at h
  (simp only [cA, cB, (vmA), Nat.reduceEqDiff, reduceIte, Nat.reduceAdd, Int.reduceToNat, Int.reduceLE, Int.reduceLT, Int.reduceEq, Int.reduceNe, Int.reduceAdd, Int.reduceSub, Int.reduceNeg, Nat.reduceLT, Nat.reduceLeDiff, Nat.reduceBEq, undef, (stA), Nat.reduceMul]; try simp (disch := omega) only [(vmp)])
  refine xWait.go (h _) ?_
  (simp only [(vmA), Nat.reduceEqDiff, reduceIte, Nat.reduceAdd, Int.reduceToNat, Int.reduceLE, Int.reduceLT, Int.reduceEq, Int.reduceNe, Int.reduceAdd, Int.reduceSub, Int.reduceNeg, Nat.reduceLT, Nat.reduceLeDiff, Nat.reduceBEq, undef, (stA), Nat.reduceMul]; try simp (disch := omega) only [(vmp)])
  exact ⟨_, .refl _, by simp only [exCs, AV.low, AV.low.lows, clsV_low, Bool.and_self], rfl⟩
set_option maxHeartbeats 4000000 in
theorem awake_ok : AwakeOK := by
  intro σ
  refine xacalls T0 .drop [] Tryz.func15 rfl (by kernel_rfl) (by kernel_rfl) (by simp [Tryz.ntmps15]) ?_
  have h := fun σ' => unify_ok σ'
  simp only [cA, cB] at h
  have lA : ∀ n, AV.low.lows n [.agg [.str kiVar, .str na, nilS], .agg [.str kiInt, .str [], nilS]] = true := fun n => rfl
  have lB : ∀ n, AV.low.lows n [.agg [.str kiVar, .str nb, nilS], .agg [.str kiVar, .str nb, nilS]] = true := fun n => rfl
  (simp only [(vmA), Nat.reduceEqDiff, reduceIte, Nat.reduceAdd, Int.reduceToNat, Int.reduceLE, Int.reduceLT, Int.reduceEq, Int.reduceNe, Int.reduceAdd, Int.reduceSub, Int.reduceNeg, Nat.reduceLT, Nat.reduceLeDiff, Nat.reduceBEq, undef, (stA), Nat.reduceMul]; try simp (disch := omega) only [(vmp)])
  refine xWait.go (variable_ok na _) ?_
  (simp only [(vmA), Nat.reduceEqDiff, reduceIte, Nat.reduceAdd, Int.reduceToNat, Int.reduceLE, Int.reduceLT, Int.reduceEq, Int.reduceNe, Int.reduceAdd, Int.reduceSub, Int.reduceNeg, Nat.reduceLT, Nat.reduceLeDiff, Nat.reduceBEq, undef, (stA), Nat.reduceMul]; try simp (disch := omega) only [(vmp)])
  refine xWait.go (ty0_ok kiInt _) ?_
  (simp only [(vmA), Nat.reduceEqDiff, reduceIte, Nat.reduceAdd, Int.reduceToNat, Int.reduceLE, Int.reduceLT, Int.reduceEq, Int.reduceNe, Int.reduceAdd, Int.reduceSub, Int.reduceNeg, Nat.reduceLT, Nat.reduceLeDiff, Nat.reduceBEq, undef, (stA), Nat.reduceMul]; try simp (disch := omega) only [(vmp)])
  refine xWait.go (ty_ok kiPair _ lA _) ?_
  (simp only [(vmA), Nat.reduceEqDiff, reduceIte, Nat.reduceAdd, Int.reduceToNat, Int.reduceLE, Int.reduceLT, Int.reduceEq, Int.reduceNe, Int.reduceAdd, Int.reduceSub, Int.reduceNeg, Nat.reduceLT, Nat.reduceLeDiff, Nat.reduceBEq, undef, (stA), Nat.reduceMul]; try simp (disch := omega) only [(vmp)])
  refine xWait.go (variable_ok nb _) ?_
  (simp only [(vmA), Nat.reduceEqDiff, reduceIte, Nat.reduceAdd, Int.reduceToNat, Int.reduceLE, Int.reduceLT, Int.reduceEq, Int.reduceNe, Int.reduceAdd, Int.reduceSub, Int.reduceNeg, Nat.reduceLT, Nat.reduceLeDiff, Nat.reduceBEq, undef, (stA), Nat.reduceMul]; try simp (disch := omega) only [(vmp)])
  refine xWait.go (variable_ok nb _) ?_
  (simp only [(vmA), Nat.reduceEqDiff, reduceIte, Nat.reduceAdd, Int.reduceToNat, Int.reduceLE, Int.reduceLT, Int.reduceEq, Int.reduceNe, Int.reduceAdd, Int.reduceSub, Int.reduceNeg, Nat.reduceLT, Nat.reduceLeDiff, Nat.reduceBEq, undef, (stA), Nat.reduceMul]; try simp (disch := omega) only [(vmp)])
  refine xWait.go (ty_ok kiPair _ lB _) ?_
  (simp only [(vmA), Nat.reduceEqDiff, reduceIte, Nat.reduceAdd, Int.reduceToNat, Int.reduceLE, Int.reduceLT, Int.reduceEq, Int.reduceNe, Int.reduceAdd, Int.reduceSub, Int.reduceNeg, Nat.reduceLT, Nat.reduceLeDiff, Nat.reduceBEq, undef, (stA), Nat.reduceMul]; try simp (disch := omega) only [(vmp)])
  refine xWait.go (h _) ?_
  (simp only [exCs, clsV, List.map_cons, List.map_nil, clV, clC, tyCells, tysV, List.getD_cons_zero, List.getD_cons_succ, (vmA), Nat.reduceEqDiff, reduceIte, Nat.reduceAdd, Int.reduceToNat, Int.reduceLE, Int.reduceLT, Int.reduceEq, Int.reduceNe, Int.reduceAdd, Int.reduceSub, Int.reduceNeg, Nat.reduceLT, Nat.reduceLeDiff, Nat.reduceBEq, undef, (stA), Nat.reduceMul]; try simp (disch := omega) only [(vmp)])
end Go.D
