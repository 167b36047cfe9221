/- The example's nodes: no way leads round; sizes; types. -/
import Derived.Test.YtoobkfjkohadnaaGreatDoorFnG
set_option linter.unusedVariables false
set_option linter.unusedSimpArgs false
set_option linter.unnecessarySimpa false
set_option maxRecDepth 100000
namespace Go.D
open Go Go.Vm Go.Proofs Go.RowKit

theorem conN0_ok (f : FuncId) (caps : List AV) (σ : List Ent) : ACalls E 116 [nilS, .fn f [] caps] σ fun r τ => r = boolV false ∧ τ = σ := by
  refine xacalls T0 .drop [] Tryz.func116 rfl (by kernel_rfl) (by kernel_rfl) (by simp [Tryz.ntmps116]) ?_
  (simp only [(vmA), Nat.reduceEqDiff, reduceIte, Nat.reduceAdd, Int.reduceToNat, Int.reduceLE, Int.reduceLT, Int.reduceEq, Int.reduceNe, Int.reduceAdd, Int.reduceSub, Int.reduceNeg, Nat.reduceLT, Nat.reduceLeDiff, Nat.reduceBEq, undef, (stA), Nat.reduceMul]; try simp (disch := omega) only [(vmp)])
  suffices h : ACalls E 137 [nilS, .fn f [] caps] σ fun r τ => r = i64 (-1) ∧ τ = σ by
    refine xWait.go h ?_
    (simp only [(vmA), Nat.reduceEqDiff, reduceIte, Nat.reduceAdd, Int.reduceToNat, Int.reduceLE, Int.reduceLT, Int.reduceEq, Int.reduceNe, Int.reduceAdd, Int.reduceSub, Int.reduceNeg, Nat.reduceLT, Nat.reduceLeDiff, Nat.reduceBEq, undef, (stA), Nat.reduceMul]; try simp (disch := omega) only [(vmp)])
  refine xacalls T0 .drop [] Tryz.func137 rfl (by kernel_rfl) (by kernel_rfl) (by simp [Tryz.ntmps137]) ?_
  (simp only [(vmA), Nat.reduceEqDiff, reduceIte, Nat.reduceAdd, Int.reduceToNat, Int.reduceLE, Int.reduceLT, Int.reduceEq, Int.reduceNe, Int.reduceAdd, Int.reduceSub, Int.reduceNeg, Nat.reduceLT, Nat.reduceLeDiff, Nat.reduceBEq, undef, (stA), Nat.reduceMul]; try simp (disch := omega) only [(vmp)])
  refine xloop (α := Nat) T0 (fun i => [(7, i64 0), (8, i64 0)]) (fun _ => σ) (fun _ => []) (fun i => i = 0) (fun i => i) (by kernel_rfl)
    ⟨0, rfl, by (simp only [(vmA), Nat.reduceEqDiff, reduceIte, Nat.reduceAdd, Int.reduceToNat, Int.reduceLE, Int.reduceLT, Int.reduceEq, Int.reduceNe, Int.reduceAdd, Int.reduceSub, Int.reduceNeg, Nat.reduceLT, Nat.reduceLeDiff, Nat.reduceBEq, undef, (stA), Nat.reduceMul]; try simp (disch := omega) only [(vmp)]), rfl, rfl⟩ ?_
  rintro i hi
  (simp only [(vmA), Nat.reduceEqDiff, reduceIte, Nat.reduceAdd, Int.reduceToNat, Int.reduceLE, Int.reduceLT, Int.reduceEq, Int.reduceNe, Int.reduceAdd, Int.reduceSub, Int.reduceNeg, Nat.reduceLT, Nat.reduceLeDiff, Nat.reduceBEq, undef, (stA), Nat.reduceMul]; try simp (disch := omega) only [(vmp)])

theorem Ends.push {σ : List Ent} {k p r : Nat} (h : Ends σ k p r) (l : List Ent) : Ends (σ ++ l) k p r := by
  induction h with
  | here h => exact .here (get_olds h l)
  | step h _ ih => exact .step (get_olds h l) ih
set_option maxHeartbeats 4000000 in
/-- A leaf that was not yet met. -/
theorem roundNew_ok (σ : List Ent) (p r k on done : Nat) (d n : List UInt8) (he : Ends σ k p r) (hr : σ[r]? = some (nodeE d n nilS nilP)) (hon : σ[on]? = some (.map [] 0)) (hdone : σ[done]? = some (.map [] 0)) (hne : on ≠ done) :
    ACalls E 92 [.ref p 0 0, .mp on, .mp done] σ fun x τ => x = boolV false ∧ τ = (σ.set on (.map [] 1)).set done (.map [(.ref r 0 0, boolV true, 0)] 1) := by
  have lr := lt_of_get hr
  have lo := lt_of_get hon
  have ld := lt_of_get hdone
  have gr := sget_of hr
  have go' := sget_of hon
  have gd := sget_of hdone
  simp only [nodeE] at gr
  have sGo : ∀ e, ssetG σ on e = σ.set on e := fun e => by unfold ssetG; rw [if_pos lo]
  have sLo : ∀ e l, ssetL σ l on e = l := fun e l => by unfold ssetL; rw [if_pos lo]
  obtain ⟨S1, hS1⟩ : ∃ S1, S1 = σ.set on (.map [(.ref r 0 0, boolV true, 0)] 1) := ⟨_, rfl⟩
  obtain ⟨S2, hS2⟩ : ∃ S2, S2 = σ.set on (.map [] 1) := ⟨_, rfl⟩
  have hro : on ≠ r := fun h => by subst h; rw [hr] at hon; cases hon
  have hrd : done ≠ r := fun h => by subst h; rw [hr] at hdone; cases hdone
  have r1 : S1[r]? = some (nodeE d n nilS nilP) := by rw [hS1]; exact set_get hr hro
  have o1 : S1[on]? = some (.map [(.ref r 0 0, boolV true, 0)] 1) := by rw [hS1]; exact get_set_self hon
  have r2 : S2[r]? = some (nodeE d n nilS nilP) := by rw [hS2]; exact set_get hr hro
  have d2 : S2[done]? = some (.map [] 0) := by rw [hS2]; exact set_get hdone hne
  have e12 : S1.set on (.map [] 1) = S2 := by rw [hS1, hS2, List.set_set]
  have gr1 := sget_of r1
  have go1 := sget_of o1
  have gd2 := sget_of d2
  simp only [nodeE] at gr1
  have n1 : S1.length = σ.length := by rw [hS1]; simp
  have n2 : S2.length = σ.length := by rw [hS2]; simp
  have sG1 : ∀ e, ssetG S1 on e = S1.set on e := fun e => by unfold ssetG; rw [if_pos (lt_of_get o1)]
  have sL1 : ∀ e l, ssetL S1 l on e = l := fun e l => by unfold ssetL; rw [if_pos (lt_of_get o1)]
  have sG2 : ∀ e, ssetG S2 done e = S2.set done e := fun e => by unfold ssetG; rw [if_pos (lt_of_get d2)]
  have sL2 : ∀ e l, ssetL S2 l done e = l := fun e l => by unfold ssetL; rw [if_pos (lt_of_get d2)]
  have hpt : isPtrD tab (TypeDesc.pointer 107) = true := by kernel_rfl
  simp only [boolV] at hS1 o1 go1
  refine xacalls T0 .drop [] Tryz.func92 rfl (by kernel_rfl) (by kernel_rfl) (by simp [Tryz.ntmps92]) ?_
  (simp only [(vmA), Nat.reduceEqDiff, reduceIte, Nat.reduceAdd, Int.reduceToNat, Int.reduceLE, Int.reduceLT, Int.reduceEq, Int.reduceNe, Int.reduceAdd, Int.reduceSub, Int.reduceNeg, Nat.reduceLT, Nat.reduceLeDiff, Nat.reduceBEq, undef, (stA), Nat.reduceMul]; try simp (disch := omega) only [(vmp)])
  refine xWait.go (end_ok _ p r k (he.push _)) ?_
  (simp only [gr, go', gd, sGo, sLo, Option.isSome_none, Bool.false_eq_true, if_false, ← hS1, gr1, (vmA), Nat.reduceEqDiff, reduceIte, Nat.reduceAdd, Int.reduceToNat, Int.reduceLE, Int.reduceLT, Int.reduceEq, Int.reduceNe, Int.reduceAdd, Int.reduceSub, Int.reduceNeg, Nat.reduceLT, Nat.reduceLeDiff, Nat.reduceBEq, undef, (stA), Nat.reduceMul]; try simp (disch := omega) only [(vmp)])
  refine ⟨⟨⟨hpt, plain_of hr _⟩, fun e h => by cases h⟩, ⟨⟨hpt, plain_of hr _⟩, fun e h => by cases h⟩, ⟨⟨hpt, plain_of hr _⟩, fun e h => by cases h⟩, ?_⟩
  rw [← n1]
  refine xWait.go (conN0_ok _ _ _) ?_
  (simp only [go1, sG1, sL1, mdel, keq, decide_true, Bool.and_self, e12, if_true, (vmA), Nat.reduceEqDiff, reduceIte, Nat.reduceAdd, Int.reduceToNat, Int.reduceLE, Int.reduceLT, Int.reduceEq, Int.reduceNe, Int.reduceAdd, Int.reduceSub, Int.reduceNeg, Nat.reduceLT, Nat.reduceLeDiff, Nat.reduceBEq, undef, (stA), Nat.reduceMul]; try simp (disch := omega) only [(vmp)])
  refine ⟨⟨hpt, plain_of r1 _⟩, ?_⟩
  have n12 : S1.length = S2.length := by omega
  rw [n12]
  (simp only [gd2, sG2, sL2, Option.isSome_none, Bool.false_eq_true, if_false, (vmA), Nat.reduceEqDiff, reduceIte, Nat.reduceAdd, Int.reduceToNat, Int.reduceLE, Int.reduceLT, Int.reduceEq, Int.reduceNe, Int.reduceAdd, Int.reduceSub, Int.reduceNeg, Nat.reduceLT, Nat.reduceLeDiff, Nat.reduceBEq, undef, (stA), Nat.reduceMul]; try simp (disch := omega) only [(vmp)])
  refine ⟨⟨⟨hpt, plain_of r2 _⟩, fun e h => by cases h⟩, ?_, by rw [hS2]⟩
  intro j e he
  rcases get_set he with ⟨_, rfl, _⟩ | ⟨_, he⟩
  · exact .inr (by simp only [Ent.low, List.map_cons, List.map_nil, AV.low.lows, AV.low, lr, decide_true, Bool.and_self])
  · rw [hS2] at he
    rcases get_set he with ⟨_, rfl, _⟩ | ⟨_, he⟩
    · exact .inr rfl
    · exact .inl he

set_option maxHeartbeats 4000000 in
/-- A leaf from which no way leads round. -/
theorem roundOld_ok (σ : List Ent) (p r k on done clock : Nat) (d n : List UInt8) (he : Ends σ k p r) (hr : σ[r]? = some (nodeE d n nilS nilP)) (hon : σ[on]? = some (.map [] 0)) (hdone : σ[done]? = some (.map [(.ref r 0 0, boolV true, 0)] clock)) :
    ACalls E 92 [.ref p 0 0, .mp on, .mp done] σ fun x τ => x = boolV false ∧ τ = σ := by
  have gr := sget_of hr
  have go' := sget_of hon
  have gd := sget_of hdone
  simp only [nodeE] at gr
  simp only [boolV] at gd
  have hpt : isPtrD tab (TypeDesc.pointer 107) = true := by kernel_rfl
  refine xacalls T0 .drop [] Tryz.func92 rfl (by kernel_rfl) (by kernel_rfl) (by simp [Tryz.ntmps92]) ?_
  (simp only [(vmA), Nat.reduceEqDiff, reduceIte, Nat.reduceAdd, Int.reduceToNat, Int.reduceLE, Int.reduceLT, Int.reduceEq, Int.reduceNe, Int.reduceAdd, Int.reduceSub, Int.reduceNeg, Nat.reduceLT, Nat.reduceLeDiff, Nat.reduceBEq, undef, (stA), Nat.reduceMul]; try simp (disch := omega) only [(vmp)])
  refine xWait.go (end_ok _ p r k (he.push _)) ?_
  (simp only [gr, go', gd, Option.isSome_none, Bool.false_eq_true, if_false, keq, decide_true, Bool.and_self, if_true, (vmA), Nat.reduceEqDiff, reduceIte, Nat.reduceAdd, Int.reduceToNat, Int.reduceLE, Int.reduceLT, Int.reduceEq, Int.reduceNe, Int.reduceAdd, Int.reduceSub, Int.reduceNeg, Nat.reduceLT, Nat.reduceLeDiff, Nat.reduceBEq, undef, (stA), Nat.reduceMul]; try simp (disch := omega) only [(vmp)])
  have K : ∀ l, kOK tab σ l (TypeDesc.pointer 107) (.ref r 0 0) := fun l => ⟨hpt, plain_of hr _⟩
  exact ⟨⟨K _, fun e h => by cases h⟩, K _, K _, fun e h => by cases h⟩

def sz1 : AV := .agg [i64 1, i64 1]
set_option maxHeartbeats 4000000 in
theorem sizeNew_ok (σ : List Ent) (p r k gid v z : Nat) (d n : List UInt8) (he : Ends σ k p r) (hr : σ[r]? = some (nodeE d n nilS nilP)) (hg : σ[gid]? = some (graE v z)) (hz : σ[z]? = some (.map [] 0)) :
    ACalls E 93 [.ref gid 0 0, .ref p 0 0] σ fun x τ => x = sz1 ∧ τ = σ.set z (.map [(.ref r 0 0, sz1, 0)] 1) := by
  have gr := sget_of hr
  have gg := sget_of hg
  have gz := sget_of hz
  simp only [nodeE] at gr
  simp only [graE] at gg
  have sG0 : ∀ e, ssetG σ z e = σ.set z e := fun e => by unfold ssetG; rw [if_pos (lt_of_get hz)]
  have sL0 : ∀ e l, ssetL σ l z e = l := fun e l => by unfold ssetL; rw [if_pos (lt_of_get hz)]
  have hpt : isPtrD tab (TypeDesc.pointer 107) = true := by kernel_rfl
  refine xacalls T0 .drop [] Tryz.func93 rfl (by kernel_rfl) (by kernel_rfl) (by simp [Tryz.ntmps93]) ?_
  (simp only [(vmA), Nat.reduceEqDiff, reduceIte, Nat.reduceAdd, Int.reduceToNat, Int.reduceLE, Int.reduceLT, Int.reduceEq, Int.reduceNe, Int.reduceAdd, Int.reduceSub, Int.reduceNeg, Nat.reduceLT, Nat.reduceLeDiff, Nat.reduceBEq, undef, (stA), Nat.reduceMul]; try simp (disch := omega) only [(vmp)])
  refine xWait.go (end_ok _ p r k (he.push _)) ?_
  (simp only [gr, gg, gz, sG0, sL0, Option.isSome_none, Bool.false_eq_true, if_false, (vmA), Nat.reduceEqDiff, reduceIte, Nat.reduceAdd, Int.reduceToNat, Int.reduceLE, Int.reduceLT, Int.reduceEq, Int.reduceNe, Int.reduceAdd, Int.reduceSub, Int.reduceNeg, Nat.reduceLT, Nat.reduceLeDiff, Nat.reduceBEq, undef, (stA), Nat.reduceMul]; try simp (disch := omega) only [(vmp)])
  refine ⟨⟨⟨hpt, plain_of hr _⟩, fun e h => by cases h⟩, ?_⟩
  refine xloop (α := Nat) T0 (fun i => [(0, .ref gid 0 0), (1, .ref r 0 0), (4, .ref σ.length 0 0), (7, .ref (σ.length + 2) 0 0), (29, i64 0), (30, i64 0)]) (fun _ => σ) (fun _ => [.arr 89 [i64 0, i64 0] 0 0, .arr 89 [i64 0, i64 0] 0 0, .arr 89 [i64 1, i64 1] 0 0]) (fun i => i = 0) (fun i => i) (by kernel_rfl)
    ⟨0, rfl, by (simp only [(vmA), Nat.reduceEqDiff, reduceIte, Nat.reduceAdd, Int.reduceToNat, Int.reduceLE, Int.reduceLT, Int.reduceEq, Int.reduceNe, Int.reduceAdd, Int.reduceSub, Int.reduceNeg, Nat.reduceLT, Nat.reduceLeDiff, Nat.reduceBEq, undef, (stA), Nat.reduceMul]; try simp (disch := omega) only [(vmp)]), rfl, rfl⟩ ?_
  rintro i hi
  (simp only [(vmA), Nat.reduceEqDiff, reduceIte, Nat.reduceAdd, Int.reduceToNat, Int.reduceLE, Int.reduceLT, Int.reduceEq, Int.reduceNe, Int.reduceAdd, Int.reduceSub, Int.reduceNeg, Nat.reduceLT, Nat.reduceLeDiff, Nat.reduceBEq, undef, (stA), Nat.reduceMul]; try simp (disch := omega) only [(vmp)])
  refine ydraw T0 [6] (by kernel_rfl) (by kernel_rfl) (by kernel_rfl) (by kernel_rfl) ?_
  (simp only [gr, gg, gz, sG0, sL0, Option.isSome_none, Bool.false_eq_true, if_false, (vmA), Nat.reduceEqDiff, reduceIte, Nat.reduceAdd, Int.reduceToNat, Int.reduceLE, Int.reduceLT, Int.reduceEq, Int.reduceNe, Int.reduceAdd, Int.reduceSub, Int.reduceNeg, Nat.reduceLT, Nat.reduceLeDiff, Nat.reduceBEq, undef, (stA), Nat.reduceMul]; try simp (disch := omega) only [(vmp)])
  refine ⟨⟨⟨hpt, plain_of hr _⟩, fun e h => by cases h⟩, by simp, ?_⟩
  have hn : σ.length = (σ.set z (.map [(.ref r 0 0, sz1, 0)] 1)).length := by simp
  have hlow : StoreLow σ.length σ (σ.set z (.map [(.ref r 0 0, sz1, 0)] 1)) := storeLow_set (by simp only [Ent.low, List.map_cons, List.map_nil, AV.low.lows, AV.low, sz1, lt_of_get hr, decide_true, Bool.and_self])
  simp only [sz1] at hn hlow ⊢
  generalize σ.set z (.map [(.ref r 0 0, .agg [i64 1, i64 1], 0)] 1) = S1 at *
  rw [hn]
  (simp only [(vmA), Nat.reduceEqDiff, reduceIte, Nat.reduceAdd, Int.reduceToNat, Int.reduceLE, Int.reduceLT, Int.reduceEq, Int.reduceNe, Int.reduceAdd, Int.reduceSub, Int.reduceNeg, Nat.reduceLT, Nat.reduceLeDiff, Nat.reduceBEq, undef, (stA), Nat.reduceMul]; try simp (disch := omega) only [(vmp)])
  exact hlow
set_option maxHeartbeats 4000000 in
theorem sizeOld_ok (σ : List Ent) (p r k gid v z clock : Nat) (d n : List UInt8) (he : Ends σ k p r) (hr : σ[r]? = some (nodeE d n nilS nilP)) (hg : σ[gid]? = some (graE v z)) (hz : σ[z]? = some (.map [(.ref r 0 0, sz1, 0)] clock)) :
    ACalls E 93 [.ref gid 0 0, .ref p 0 0] σ fun x τ => x = sz1 ∧ τ = σ := by
  have gr := sget_of hr
  have gg := sget_of hg
  have gz := sget_of hz
  simp only [nodeE] at gr
  simp only [graE] at gg
  simp only [sz1] at gz
  have hpt : isPtrD tab (TypeDesc.pointer 107) = true := by kernel_rfl
  refine xacalls T0 .drop [] Tryz.func93 rfl (by kernel_rfl) (by kernel_rfl) (by simp [Tryz.ntmps93]) ?_
  (simp only [(vmA), Nat.reduceEqDiff, reduceIte, Nat.reduceAdd, Int.reduceToNat, Int.reduceLE, Int.reduceLT, Int.reduceEq, Int.reduceNe, Int.reduceAdd, Int.reduceSub, Int.reduceNeg, Nat.reduceLT, Nat.reduceLeDiff, Nat.reduceBEq, undef, (stA), Nat.reduceMul]; try simp (disch := omega) only [(vmp)])
  refine xWait.go (end_ok _ p r k (he.push _)) ?_
  (simp only [gr, gg, gz, keq, decide_true, Bool.and_self, if_true, (vmA), Nat.reduceEqDiff, reduceIte, Nat.reduceAdd, Int.reduceToNat, Int.reduceLE, Int.reduceLT, Int.reduceEq, Int.reduceNe, Int.reduceAdd, Int.reduceSub, Int.reduceNeg, Nat.reduceLT, Nat.reduceLeDiff, Nat.reduceBEq, undef, (stA), Nat.reduceMul]; try simp (disch := omega) only [(vmp)])
  exact ⟨⟨hpt, plain_of hr _⟩, rfl⟩
set_option maxHeartbeats 4000000 in
theorem typ_ok (σ : List Ent) (p r k gid v z : Nat) (d n : List UInt8) (he : Ends σ k p r) (hr : σ[r]? = some (nodeE d n nilS nilP)) :
    ACalls E 94 [.ref gid 0 0, .ref p 0 0] σ fun x τ => x = .agg [.str d, .str n, nilS] ∧ τ = σ := by
  have gr := sget_of hr
  simp only [nodeE] at gr
  refine xacalls T0 .drop [] Tryz.func94 rfl (by kernel_rfl) (by kernel_rfl) (by simp [Tryz.ntmps94]) ?_
  (simp only [(vmA), Nat.reduceEqDiff, reduceIte, Nat.reduceAdd, Int.reduceToNat, Int.reduceLE, Int.reduceLT, Int.reduceEq, Int.reduceNe, Int.reduceAdd, Int.reduceSub, Int.reduceNeg, Nat.reduceLT, Nat.reduceLeDiff, Nat.reduceBEq, undef, (stA), Nat.reduceMul]; try simp (disch := omega) only [(vmp)])
  refine xWait.go (end_ok _ p r k (he.push _)) ?_
  (simp only [gr, (vmA), Nat.reduceEqDiff, reduceIte, Nat.reduceAdd, Int.reduceToNat, Int.reduceLE, Int.reduceLT, Int.reduceEq, Int.reduceNe, Int.reduceAdd, Int.reduceSub, Int.reduceNeg, Nat.reduceLT, Nat.reduceLeDiff, Nat.reduceBEq, undef, (stA), Nat.reduceMul]; try simp (disch := omega) only [(vmp)])
  refine zdraw T0 ⟨[10], [9], [1, 2, 3, 5, 6, 7, 8], some [0], true⟩ (by kernel_rfl) (by kernel_rfl) (by kernel_rfl) (by kernel_rfl) ?_
  (simp only [zDraw_nil,zDraw_go,zDraw_if,zSlot_some,zGuard_tt,zGuard_ff,zGuard_tf,zGuard_ft,zGuard_un,zOut_some,zOut_pure,zOut_cond,zNext_move,zNext_assign,zNext_buildSlice,zNext_load,zNext_store,zNext_builtin,zNext_fieldAddr,zNext_nilCheck,zNext_indexAddr, (vmA), Nat.reduceEqDiff, reduceIte, Nat.reduceAdd, Int.reduceToNat, Int.reduceLE, Int.reduceLT, Int.reduceEq, Int.reduceNe, Int.reduceAdd, Int.reduceSub, Int.reduceNeg, Nat.reduceLT, Nat.reduceLeDiff, Nat.reduceBEq, undef, (stA), Nat.reduceMul]; try simp (disch := omega) only [(vmp)])
  refine zNext.looseG (r := .ref r 0 0) rfl rfl rfl rfl rfl (fun l' hl' => ⟨True, trivial, by (simp only [gr, (vmA), Nat.reduceEqDiff, reduceIte, Nat.reduceAdd, Int.reduceToNat, Int.reduceLE, Int.reduceLT, Int.reduceEq, Int.reduceNe, Int.reduceAdd, Int.reduceSub, Int.reduceNeg, Nat.reduceLT, Nat.reduceLeDiff, Nat.reduceBEq, undef, (stA), Nat.reduceMul]; try simp (disch := omega) only [(vmp)])⟩) ?_
  (simp only [zDraw_nil,zDraw_go,zDraw_if,zSlot_some,zGuard_tt,zGuard_ff,zGuard_tf,zGuard_ft,zGuard_un,zOut_some,zOut_pure,zOut_cond,zNext_move,zNext_assign,zNext_buildSlice,zNext_load,zNext_store,zNext_builtin,zNext_fieldAddr,zNext_nilCheck,zNext_indexAddr, (vmA), Nat.reduceEqDiff, reduceIte, Nat.reduceAdd, Int.reduceToNat, Int.reduceLE, Int.reduceLT, Int.reduceEq, Int.reduceNe, Int.reduceAdd, Int.reduceSub, Int.reduceNeg, Nat.reduceLT, Nat.reduceLeDiff, Nat.reduceBEq, undef, (stA), Nat.reduceMul]; try simp (disch := omega) only [(vmp)])
  refine zNext.looseG (r := .ref r 0 0) rfl rfl rfl rfl rfl (fun l' hl' => ⟨True, trivial, by (simp only [gr, (vmA), Nat.reduceEqDiff, reduceIte, Nat.reduceAdd, Int.reduceToNat, Int.reduceLE, Int.reduceLT, Int.reduceEq, Int.reduceNe, Int.reduceAdd, Int.reduceSub, Int.reduceNeg, Nat.reduceLT, Nat.reduceLeDiff, Nat.reduceBEq, undef, (stA), Nat.reduceMul]; try simp (disch := omega) only [(vmp)])⟩) ?_
  (simp only [zDraw_nil,zDraw_go,zDraw_if,zSlot_some,zGuard_tt,zGuard_ff,zGuard_tf,zGuard_ft,zGuard_un,zOut_some,zOut_pure,zOut_cond,zNext_move,zNext_assign,zNext_buildSlice,zNext_load,zNext_store,zNext_builtin,zNext_fieldAddr,zNext_nilCheck,zNext_indexAddr, (vmA), Nat.reduceEqDiff, reduceIte, Nat.reduceAdd, Int.reduceToNat, Int.reduceLE, Int.reduceLT, Int.reduceEq, Int.reduceNe, Int.reduceAdd, Int.reduceSub, Int.reduceNeg, Nat.reduceLT, Nat.reduceLeDiff, Nat.reduceBEq, undef, (stA), Nat.reduceMul]; try simp (disch := omega) only [(vmp)])
  refine zNext.looseG (r := .str d) rfl rfl rfl rfl rfl (fun l' hl' => ⟨True, trivial, by (simp only [gr, (vmA), Nat.reduceEqDiff, reduceIte, Nat.reduceAdd, Int.reduceToNat, Int.reduceLE, Int.reduceLT, Int.reduceEq, Int.reduceNe, Int.reduceAdd, Int.reduceSub, Int.reduceNeg, Nat.reduceLT, Nat.reduceLeDiff, Nat.reduceBEq, undef, (stA), Nat.reduceMul]; try simp (disch := omega) only [(vmp)])⟩) ?_
  (simp only [zDraw_nil,zDraw_go,zDraw_if,zSlot_some,zGuard_tt,zGuard_ff,zGuard_tf,zGuard_ft,zGuard_un,zOut_some,zOut_pure,zOut_cond,zNext_move,zNext_assign,zNext_buildSlice,zNext_load,zNext_store,zNext_builtin,zNext_fieldAddr,zNext_nilCheck,zNext_indexAddr, (vmA), Nat.reduceEqDiff, reduceIte, Nat.reduceAdd, Int.reduceToNat, Int.reduceLE, Int.reduceLT, Int.reduceEq, Int.reduceNe, Int.reduceAdd, Int.reduceSub, Int.reduceNeg, Nat.reduceLT, Nat.reduceLeDiff, Nat.reduceBEq, undef, (stA), Nat.reduceMul]; try simp (disch := omega) only [(vmp)])
  refine zNext.looseG (r := .ref r 0 0) rfl rfl rfl rfl rfl (fun l' hl' => ⟨True, trivial, by (simp only [gr, (vmA), Nat.reduceEqDiff, reduceIte, Nat.reduceAdd, Int.reduceToNat, Int.reduceLE, Int.reduceLT, Int.reduceEq, Int.reduceNe, Int.reduceAdd, Int.reduceSub, Int.reduceNeg, Nat.reduceLT, Nat.reduceLeDiff, Nat.reduceBEq, undef, (stA), Nat.reduceMul]; try simp (disch := omega) only [(vmp)])⟩) ?_
  (simp only [zDraw_nil,zDraw_go,zDraw_if,zSlot_some,zGuard_tt,zGuard_ff,zGuard_tf,zGuard_ft,zGuard_un,zOut_some,zOut_pure,zOut_cond,zNext_move,zNext_assign,zNext_buildSlice,zNext_load,zNext_store,zNext_builtin,zNext_fieldAddr,zNext_nilCheck,zNext_indexAddr, (vmA), Nat.reduceEqDiff, reduceIte, Nat.reduceAdd, Int.reduceToNat, Int.reduceLE, Int.reduceLT, Int.reduceEq, Int.reduceNe, Int.reduceAdd, Int.reduceSub, Int.reduceNeg, Nat.reduceLT, Nat.reduceLeDiff, Nat.reduceBEq, undef, (stA), Nat.reduceMul]; try simp (disch := omega) only [(vmp)])
  refine zNext.looseG (r := .ref r 0 1) rfl rfl rfl rfl rfl (fun l' hl' => ⟨True, trivial, by (simp only [gr, (vmA), Nat.reduceEqDiff, reduceIte, Nat.reduceAdd, Int.reduceToNat, Int.reduceLE, Int.reduceLT, Int.reduceEq, Int.reduceNe, Int.reduceAdd, Int.reduceSub, Int.reduceNeg, Nat.reduceLT, Nat.reduceLeDiff, Nat.reduceBEq, undef, (stA), Nat.reduceMul]; try simp (disch := omega) only [(vmp)])⟩) ?_
  (simp only [zDraw_nil,zDraw_go,zDraw_if,zSlot_some,zGuard_tt,zGuard_ff,zGuard_tf,zGuard_ft,zGuard_un,zOut_some,zOut_pure,zOut_cond,zNext_move,zNext_assign,zNext_buildSlice,zNext_load,zNext_store,zNext_builtin,zNext_fieldAddr,zNext_nilCheck,zNext_indexAddr, (vmA), Nat.reduceEqDiff, reduceIte, Nat.reduceAdd, Int.reduceToNat, Int.reduceLE, Int.reduceLT, Int.reduceEq, Int.reduceNe, Int.reduceAdd, Int.reduceSub, Int.reduceNeg, Nat.reduceLT, Nat.reduceLeDiff, Nat.reduceBEq, undef, (stA), Nat.reduceMul]; try simp (disch := omega) only [(vmp)])
  refine zNext.looseG (r := .str n) rfl rfl rfl rfl rfl (fun l' hl' => ⟨True, trivial, by (simp only [gr, (vmA), Nat.reduceEqDiff, reduceIte, Nat.reduceAdd, Int.reduceToNat, Int.reduceLE, Int.reduceLT, Int.reduceEq, Int.reduceNe, Int.reduceAdd, Int.reduceSub, Int.reduceNeg, Nat.reduceLT, Nat.reduceLeDiff, Nat.reduceBEq, undef, (stA), Nat.reduceMul]; try simp (disch := omega) only [(vmp)])⟩) ?_
  (simp only [zDraw_nil,zDraw_go,zDraw_if,zSlot_some,zGuard_tt,zGuard_ff,zGuard_tf,zGuard_ft,zGuard_un,zOut_some,zOut_pure,zOut_cond,zNext_move,zNext_assign,zNext_buildSlice,zNext_load,zNext_store,zNext_builtin,zNext_fieldAddr,zNext_nilCheck,zNext_indexAddr, (vmA), Nat.reduceEqDiff, reduceIte, Nat.reduceAdd, Int.reduceToNat, Int.reduceLE, Int.reduceLT, Int.reduceEq, Int.reduceNe, Int.reduceAdd, Int.reduceSub, Int.reduceNeg, Nat.reduceLT, Nat.reduceLeDiff, Nat.reduceBEq, undef, (stA), Nat.reduceMul]; try simp (disch := omega) only [(vmp)])
  refine zNext.looseG (r := .agg [.str d, .str n, nilS]) rfl rfl rfl rfl rfl (fun l' hl' => ⟨True, trivial, by (simp only [gr, (vmA), Nat.reduceEqDiff, reduceIte, Nat.reduceAdd, Int.reduceToNat, Int.reduceLE, Int.reduceLT, Int.reduceEq, Int.reduceNe, Int.reduceAdd, Int.reduceSub, Int.reduceNeg, Nat.reduceLT, Nat.reduceLeDiff, Nat.reduceBEq, undef, (stA), Nat.reduceMul]; try simp (disch := omega) only [(vmp)])⟩) ?_
  (simp only [zDraw_nil,zDraw_go,zDraw_if,zSlot_some,zGuard_tt,zGuard_ff,zGuard_tf,zGuard_ft,zGuard_un,zOut_some,zOut_pure,zOut_cond,zNext_move,zNext_assign,zNext_buildSlice,zNext_load,zNext_store,zNext_builtin,zNext_fieldAddr,zNext_nilCheck,zNext_indexAddr, (vmA), Nat.reduceEqDiff, reduceIte, Nat.reduceAdd, Int.reduceToNat, Int.reduceLE, Int.reduceLT, Int.reduceEq, Int.reduceNe, Int.reduceAdd, Int.reduceSub, Int.reduceNeg, Nat.reduceLT, Nat.reduceLeDiff, Nat.reduceBEq, undef, (stA), Nat.reduceMul]; try simp (disch := omega) only [(vmp)])
  refine zNext.softS rfl rfl rfl (by (simp only [(vmA), Nat.reduceEqDiff, reduceIte, Nat.reduceAdd, Int.reduceToNat, Int.reduceLE, Int.reduceLT, Int.reduceEq, Int.reduceNe, Int.reduceAdd, Int.reduceSub, Int.reduceNeg, Nat.reduceLT, Nat.reduceLeDiff, Nat.reduceBEq, undef, (stA), Nat.reduceMul]; try simp (disch := omega) only [(vmp)]); exact rfl) (by trivial) rfl (by intro m hm; simp at hm; subst hm; rfl) ?_
  (simp only [zDraw_nil,zDraw_go,zDraw_if,zSlot_some,zGuard_tt,zGuard_ff,zGuard_tf,zGuard_ft,zGuard_un,zOut_some,zOut_pure,zOut_cond,zNext_move,zNext_assign,zNext_buildSlice,zNext_load,zNext_store,zNext_builtin,zNext_fieldAddr,zNext_nilCheck,zNext_indexAddr, gr, (vmA), Nat.reduceEqDiff, reduceIte, Nat.reduceAdd, Int.reduceToNat, Int.reduceLE, Int.reduceLT, Int.reduceEq, Int.reduceNe, Int.reduceAdd, Int.reduceSub, Int.reduceNeg, Nat.reduceLT, Nat.reduceLeDiff, Nat.reduceBEq, undef, (stA), Nat.reduceMul]; try simp (disch := omega) only [(vmp)])
  refine xloop (α := Nat) T0 (fun i => [(4, .ref σ.length 0 0), (5, .ref (σ.length + 1) 0 0), (23, i64 0), (24, i64 0)]) (fun _ => σ) (fun _ => [tyE [] [] nilS, tyE d n nilS]) (fun i => i = 0) (fun i => i) (by kernel_rfl)
    ⟨0, rfl, by (simp only [(vmA), Nat.reduceEqDiff, reduceIte, Nat.reduceAdd, Int.reduceToNat, Int.reduceLE, Int.reduceLT, Int.reduceEq, Int.reduceNe, Int.reduceAdd, Int.reduceSub, Int.reduceNeg, Nat.reduceLT, Nat.reduceLeDiff, Nat.reduceBEq, undef, (stA), Nat.reduceMul]; try simp (disch := omega) only [(vmp)]), rfl, rfl⟩ ?_
  rintro i hi
  (simp only [tyE, (vmA), Nat.reduceEqDiff, reduceIte, Nat.reduceAdd, Int.reduceToNat, Int.reduceLE, Int.reduceLT, Int.reduceEq, Int.reduceNe, Int.reduceAdd, Int.reduceSub, Int.reduceNeg, Nat.reduceLT, Nat.reduceLeDiff, Nat.reduceBEq, undef, (stA), Nat.reduceMul]; try simp (disch := omega) only [(vmp)])
end Go.D

/- The unifier that the example's graph is. -/
set_option linter.unusedVariables false
set_option linter.unusedSimpArgs false
set_option linter.unnecessarySimpa false
set_option maxRecDepth 100000
namespace Go.D
open Go Go.Vm Go.Proofs Go.RowKit

theorem sort_ab : sortS [na, nb] = [na, nb] := by
  unfold sortS; simp [List.mergeSort, List.MergeSort.Internal.splitInTwo, List.merge, List.splitAt, List.splitAt.go]; decide
theorem sort_ba : sortS [nb, na] = [na, nb] := by
  unfold sortS; simp [List.mergeSort, List.MergeSort.Internal.splitInTwo, List.merge, List.splitAt, List.splitAt.go]; decide
theorem xNxt_go {E : Env} {n : Nat} {T : Nat → TI} {rows : List Nat} {dst : Option Nat} {all : Array Oper} {os : List Oper} {k : Kont} {ts : Ts} {g l : List Ent} {id m since last : Nat} {seen : List Nat} {es : List MEnt} {clock : Nat}
    (h1 : sget g l id = some (.iter (some m) since seen last)) (h2 : sget g l m = some (.map es clock)) (h3 : ∀ e ∈ es, e.2.2 < since) (h4 : since ≤ last)
    (hend : (∀ e ∈ es, e.2.2 ∈ seen) → xOps E n T rows all os k (tput ts dst (.tup [boolV false])) g l)
    (hone : ∀ e ∈ es, e.2.2 ∉ seen → xOps E n T rows all os k (tput ts dst (.tup [boolV true, e.1, e.2.1])) (ssetG g id (.iter (some m) since (seen ++ [e.2.2]) clock)) (ssetL g l id (.iter (some m) since (seen ++ [e.2.2]) clock))) :
    xNxt E n T rows dst all os k ts (.ref id 0 0) g l := by
  unfold xNxt aNxt
  simp only [h1, h2]
  exact ⟨h3, h4, hend, hone⟩
def nmOf (k : Nat) : List UInt8 := if k = 0 then na else nb
def exMap (a b : Nat) : List MEnt := [(.str na, .ref a 0 0, 0), (.str nb, .ref b 0 0, 1)]
/-- What the walk over the variables has laid, behind those of 'o', in order. -/
def ownW (v i n : Nat) (o : List Nat) : List Ent := match o with
  | [] => [.map [] 0, .iter (some v) 2 [] 2]
  | [k] => [.map [(.ref i 0 0, boolV true, 0)] 1, .iter (some v) 2 [k] 2, .arr 9 [.str (nmOf k)] 0 0, .map [] 1]
  | [k, k'] => [.map [(.ref i 0 0, boolV true, 0)] 1, .iter (some v) 2 [k, k'] 2, .arr 9 [.str (nmOf k), .str (nmOf k')] 1 0, .map [] 1, .map [] 0]
  | _ => []
def rowW (n : Nat) (o : List Nat) : AV := match o with
  | [] => nilS
  | [k] => .rsl (n + 2) 0 0 1 1
  | _ => .rsl (n + 2) 1 0 2 1
set_option maxHeartbeats 8000000 in
theorem result_ok (σ : List Ent) (gid v z a b i : Nat) (hg : σ[gid]? = some (graE v z)) (hv : σ[v]? = some (.map (exMap a b) 2)) (hz : σ[z]? = some (.map [] 0))
    (ha : σ[a]? = some (nodeE kiVar na nilS (.ref i 0 0))) (hb : σ[b]? = some (nodeE kiVar nb nilS (.ref a 0 0))) (hi : σ[i]? = some (nodeE kiInt [] nilS nilP)) :
    ACalls E 57 [.ref gid 0 0] σ fun r τ => r = .tup [.sl (clsV [(na, .mk kiInt [] []), (nb, .mk kiInt [] [])]), i64 0] ∧ τ = σ.set z (.map [(.ref i 0 0, sz1, 0)] 1) := by
  have gg := sget_of hg
  have gv := sget_of hv
  have gz := sget_of hz
  simp only [graE] at gg
  simp only [exMap] at gv
  refine xacalls T0 .freeze [] Tryz.func57 rfl (by kernel_rfl) (by kernel_rfl) (by simp [Tryz.ntmps57]) ?_
  (simp only [gg, gv, (vmA), Nat.reduceEqDiff, reduceIte, Nat.reduceAdd, Int.reduceToNat, Int.reduceLE, Int.reduceLT, Int.reduceEq, Int.reduceNe, Int.reduceAdd, Int.reduceSub, Int.reduceNeg, Nat.reduceLT, Nat.reduceLeDiff, Nat.reduceBEq, undef, (stA), Nat.reduceMul]; try simp (disch := omega) only [(vmp)])
  refine xloop (α := List Nat) T0 (fun o => [(0, .ref gid 0 0), (4, rowW σ.length o), (5, .mp σ.length), (18, .ref (σ.length + 1) 0 0)]) (fun _ => σ) (fun o => ownW v i σ.length o)
    (fun o => o = [] ∨ o = [0] ∨ o = [1] ∨ o = [0, 1] ∨ o = [1, 0]) (fun o => 2 - o.length) (by kernel_rfl)
    ⟨[], .inl rfl, by (simp only [rowW, (vmA), Nat.reduceEqDiff, reduceIte, Nat.reduceAdd, Int.reduceToNat, Int.reduceLE, Int.reduceLT, Int.reduceEq, Int.reduceNe, Int.reduceAdd, Int.reduceSub, Int.reduceNeg, Nat.reduceLT, Nat.reduceLeDiff, Nat.reduceBEq, undef, (stA), Nat.reduceMul]; try simp (disch := omega) only [(vmp)]), rfl, rfl⟩ ?_
  rintro o ho
  have hb2 : ∀ e ∈ exMap a b, e.2.2 < 2 := fun e he => by
    simp only [exMap] at he
    rcases List.mem_cons.1 he with rfl | he
    · simp
    · simp at he; subst he; simp
  have find0 : List.find? (fun e : MEnt => e.2.2 == 0) (exMap a b) = some (.str na, .ref a 0 0, 0) := rfl
  have find1 : List.find? (fun e : MEnt => e.2.2 == 1) (exMap a b) = some (.str nb, .ref b 0 0, 1) := rfl
  have ea : Ends σ 1 a i := .step ha (.here hi)
  have eb : Ends σ 2 b i := .step hb ea
  have gv' := sget_of hv
  have own4 : ∀ (p k : Nat), Ends σ k p i → ∀ e1 e2, ACalls E 92 [.ref p 0 0, .mp (σ.length + 3), .mp σ.length] (σ ++ [.map [] 0, e1, e2, .map [] 0]) fun r τ => r = boolV false ∧ τ = σ ++ [.map [(.ref i 0 0, boolV true, 0)] 1, e1, e2, .map [] 1] := fun p k hk e1 e2 => by
    have h := roundNew_ok (σ ++ [.map [] 0, e1, e2, .map [] 0]) p i k (σ.length + 3) σ.length kiInt [] (hk.push _) (get_olds hi _) (by rw [List.getElem?_append_right (by omega), Nat.add_sub_cancel_left]; rfl) (by rw [List.getElem?_append_right (Nat.le_refl _), Nat.sub_self]; rfl) (by omega)
    refine h.mono fun r τ ⟨q1, q2⟩ => ⟨q1, ?_⟩
    rw [q2, List.set_append_right _ _ (by omega), List.set_append_right _ _ (by omega), Nat.add_sub_cancel_left, Nat.sub_self]; rfl
  have own5 : ∀ (p k : Nat), Ends σ k p i → ∀ e1 e2 e3, ACalls E 92 [.ref p 0 0, .mp (σ.length + 4), .mp σ.length] (σ ++ [.map [(.ref i 0 0, boolV true, 0)] 1, e1, e2, e3, .map [] 0]) fun r τ => r = boolV false ∧ τ = σ ++ [.map [(.ref i 0 0, boolV true, 0)] 1, e1, e2, e3, .map [] 0] := fun p k hk e1 e2 e3 =>
    roundOld_ok (σ ++ [.map [(.ref i 0 0, boolV true, 0)] 1, e1, e2, e3, .map [] 0]) p i k (σ.length + 4) σ.length 1 kiInt [] (hk.push _) (get_olds hi _) (by rw [List.getElem?_append_right (by omega), Nat.add_sub_cancel_left]; rfl) (by rw [List.getElem?_append_right (Nat.le_refl _), Nat.sub_self]; rfl)
  simp only [boolV] at own4 own5
  rcases ho with rfl | rfl | rfl | ho
  · (simp only [ownW, rowW, (vmA), Nat.reduceEqDiff, reduceIte, Nat.reduceAdd, Int.reduceToNat, Int.reduceLE, Int.reduceLT, Int.reduceEq, Int.reduceNe, Int.reduceAdd, Int.reduceSub, Int.reduceNeg, Nat.reduceLT, Nat.reduceLeDiff, Nat.reduceBEq, undef, (stA), Nat.reduceMul]; try simp (disch := omega) only [(vmp)])
    refine xNxt_go (by rw [sget_l]; rfl) (gv' _) hb2 (Nat.le_refl _) (fun h => ?_) (fun e he _ => ?_)
    · have := h (.str na, .ref a 0 0, 0) (by simp [exMap]); cases this
    simp only [exMap] at he
    rcases List.mem_cons.1 he with rfl | he
    · (simp only [gv', find0, List.nil_append, List.getLast?_singleton, (vmA), Nat.reduceEqDiff, reduceIte, Nat.reduceAdd, Int.reduceToNat, Int.reduceLE, Int.reduceLT, Int.reduceEq, Int.reduceNe, Int.reduceAdd, Int.reduceSub, Int.reduceNeg, Nat.reduceLT, Nat.reduceLeDiff, Nat.reduceBEq, undef, (stA), Nat.reduceMul]; try simp (disch := omega) only [(vmp)])
      refine ⟨by unfold maxRoom; omega, ?_⟩
      refine xWait.go (own4 _ _ ea _ _) ?_
      (simp only [(vmA), Nat.reduceEqDiff, reduceIte, Nat.reduceAdd, Int.reduceToNat, Int.reduceLE, Int.reduceLT, Int.reduceEq, Int.reduceNe, Int.reduceAdd, Int.reduceSub, Int.reduceNeg, Nat.reduceLT, Nat.reduceLeDiff, Nat.reduceBEq, undef, (stA), Nat.reduceMul]; try simp (disch := omega) only [(vmp)])
      exact ⟨[0], by simp, by simp, rfl, rfl⟩
    · obtain rfl : e = (.str nb, .ref b 0 0, 1) := by simpa using he
      (simp only [gv', find1, List.nil_append, List.getLast?_singleton, (vmA), Nat.reduceEqDiff, reduceIte, Nat.reduceAdd, Int.reduceToNat, Int.reduceLE, Int.reduceLT, Int.reduceEq, Int.reduceNe, Int.reduceAdd, Int.reduceSub, Int.reduceNeg, Nat.reduceLT, Nat.reduceLeDiff, Nat.reduceBEq, undef, (stA), Nat.reduceMul]; try simp (disch := omega) only [(vmp)])
      refine ⟨by unfold maxRoom; omega, ?_⟩
      refine xWait.go (own4 _ _ eb _ _) ?_
      (simp only [(vmA), Nat.reduceEqDiff, reduceIte, Nat.reduceAdd, Int.reduceToNat, Int.reduceLE, Int.reduceLT, Int.reduceEq, Int.reduceNe, Int.reduceAdd, Int.reduceSub, Int.reduceNeg, Nat.reduceLT, Nat.reduceLeDiff, Nat.reduceBEq, undef, (stA), Nat.reduceMul]; try simp (disch := omega) only [(vmp)])
      exact ⟨[1], by simp, by simp, rfl, rfl⟩
  · (simp only [ownW, rowW, nmOf, if_true, (vmA), Nat.reduceEqDiff, reduceIte, Nat.reduceAdd, Int.reduceToNat, Int.reduceLE, Int.reduceLT, Int.reduceEq, Int.reduceNe, Int.reduceAdd, Int.reduceSub, Int.reduceNeg, Nat.reduceLT, Nat.reduceLeDiff, Nat.reduceBEq, undef, (stA), Nat.reduceMul]; try simp (disch := omega) only [(vmp)])
    refine xNxt_go (by rw [sget_l]; rfl) (gv' _) hb2 (Nat.le_refl _) (fun h => ?_) (fun e he hs => ?_)
    · have := h (.str nb, .ref b 0 0, 1) (by simp [exMap]); simp at this
    simp only [exMap] at he
    rcases List.mem_cons.1 he with rfl | he
    · exact absurd (by simp) hs
    · obtain rfl : e = (.str nb, .ref b 0 0, 1) := by simpa using he
      (simp only [gv', find1, List.cons_append, List.nil_append, List.getLast?_cons_cons, List.getLast?_singleton, (vmA), Nat.reduceEqDiff, reduceIte, Nat.reduceAdd, Int.reduceToNat, Int.reduceLE, Int.reduceLT, Int.reduceEq, Int.reduceNe, Int.reduceAdd, Int.reduceSub, Int.reduceNeg, Nat.reduceLT, Nat.reduceLeDiff, Nat.reduceBEq, undef, (stA), Nat.reduceMul]; try simp (disch := omega) only [(vmp)])
      refine ⟨by unfold maxRoom; omega, ?_⟩
      refine xWait.go (own5 _ _ eb _ _ _) ?_
      (simp only [(vmA), Nat.reduceEqDiff, reduceIte, Nat.reduceAdd, Int.reduceToNat, Int.reduceLE, Int.reduceLT, Int.reduceEq, Int.reduceNe, Int.reduceAdd, Int.reduceSub, Int.reduceNeg, Nat.reduceLT, Nat.reduceLeDiff, Nat.reduceBEq, undef, (stA), Nat.reduceMul]; try simp (disch := omega) only [(vmp)])
      exact ⟨[0, 1], by simp, by simp, rfl, rfl⟩
  · have h10 : ¬ (1 : Nat) = 0 := by omega
    (simp only [ownW, rowW, nmOf, h10, if_false, (vmA), Nat.reduceEqDiff, reduceIte, Nat.reduceAdd, Int.reduceToNat, Int.reduceLE, Int.reduceLT, Int.reduceEq, Int.reduceNe, Int.reduceAdd, Int.reduceSub, Int.reduceNeg, Nat.reduceLT, Nat.reduceLeDiff, Nat.reduceBEq, undef, (stA), Nat.reduceMul]; try simp (disch := omega) only [(vmp)])
    refine xNxt_go (by rw [sget_l]; rfl) (gv' _) hb2 (Nat.le_refl _) (fun h => ?_) (fun e he hs => ?_)
    · have := h (.str na, .ref a 0 0, 0) (by simp [exMap]); simp at this
    simp only [exMap] at he
    rcases List.mem_cons.1 he with rfl | he
    · (simp only [gv', find0, List.cons_append, List.nil_append, List.getLast?_cons_cons, List.getLast?_singleton, (vmA), Nat.reduceEqDiff, reduceIte, Nat.reduceAdd, Int.reduceToNat, Int.reduceLE, Int.reduceLT, Int.reduceEq, Int.reduceNe, Int.reduceAdd, Int.reduceSub, Int.reduceNeg, Nat.reduceLT, Nat.reduceLeDiff, Nat.reduceBEq, undef, (stA), Nat.reduceMul]; try simp (disch := omega) only [(vmp)])
      refine ⟨by unfold maxRoom; omega, ?_⟩
      refine xWait.go (own5 _ _ ea _ _ _) ?_
      (simp only [(vmA), Nat.reduceEqDiff, reduceIte, Nat.reduceAdd, Int.reduceToNat, Int.reduceLE, Int.reduceLT, Int.reduceEq, Int.reduceNe, Int.reduceAdd, Int.reduceSub, Int.reduceNeg, Nat.reduceLT, Nat.reduceLeDiff, Nat.reduceBEq, undef, (stA), Nat.reduceMul]; try simp (disch := omega) only [(vmp)])
      exact ⟨[1, 0], by simp, by simp, rfl, rfl⟩
    · obtain rfl : e = (.str nb, .ref b 0 0, 1) := by simpa using he
      exact absurd (by simp) hs
  · obtain ⟨k, k', rfl, hsort, hall⟩ : ∃ k k', o = [k, k'] ∧ sortS [nmOf k, nmOf k'] = [na, nb] ∧ ∀ e ∈ exMap a b, e.2.2 ∈ [k, k'] := by
      rcases ho with rfl | rfl
      · exact ⟨0, 1, rfl, sort_ab, fun e he => by simp [exMap] at he; rcases he with rfl | rfl <;> simp⟩
      · exact ⟨1, 0, rfl, sort_ba, fun e he => by simp [exMap] at he; rcases he with rfl | rfl <;> simp⟩
    (simp only [ownW, rowW, (vmA), Nat.reduceEqDiff, reduceIte, Nat.reduceAdd, Int.reduceToNat, Int.reduceLE, Int.reduceLT, Int.reduceEq, Int.reduceNe, Int.reduceAdd, Int.reduceSub, Int.reduceNeg, Nat.reduceLT, Nat.reduceLeDiff, Nat.reduceBEq, undef, (stA), Nat.reduceMul]; try simp (disch := omega) only [(vmp)])
    refine xNxt_go (by rw [sget_l]; rfl) (gv' _) hb2 (Nat.le_refl _) (fun _ => ?_) (fun e he hs => absurd (hall e he) hs)
    (simp only [(vmA), Nat.reduceEqDiff, reduceIte, Nat.reduceAdd, Int.reduceToNat, Int.reduceLE, Int.reduceLT, Int.reduceEq, Int.reduceNe, Int.reduceAdd, Int.reduceSub, Int.reduceNeg, Nat.reduceLT, Nat.reduceLeDiff, Nat.reduceBEq, undef, (stA), Nat.reduceMul]; try simp (disch := omega) only [(vmp)])
    have hso := sortS_ok [nmOf k, nmOf k'] (by simp) (σ ++ [.map [(.ref i 0 0, boolV true, 0)] 1, .iter (some v) 2 [k, k'] 2, .arr 9 [.str (nmOf k), .str (nmOf k')] 1 0, .map [] 1, .map [] 0]) (σ.length + 2) 9 1 (by rw [List.getElem?_append_right (by omega), Nat.add_sub_cancel_left]; rfl)
    rw [hsort, List.set_append_right _ _ (by omega), Nat.add_sub_cancel_left] at hso
    refine xWait.go hso ?_
    rw [List.take_left, List.drop_left]
    generalize Ent.iter (some v) 2 [k, k'] 2 = it
    (simp only [strsV, List.map_cons, List.map_nil, List.set_cons_succ, List.set_cons_zero, (vmA), Nat.reduceEqDiff, reduceIte, Nat.reduceAdd, Int.reduceToNat, Int.reduceLE, Int.reduceLT, Int.reduceEq, Int.reduceNe, Int.reduceAdd, Int.reduceSub, Int.reduceNeg, Nat.reduceLT, Nat.reduceLeDiff, Nat.reduceBEq, undef, (stA), Nat.reduceMul]; try simp (disch := omega) only [(vmp)])
    obtain ⟨S1, hS1⟩ : ∃ S1, S1 = σ.set z (.map [(.ref i 0 0, sz1, 0)] 1) := ⟨_, rfl⟩
    have zne : ∀ {p : Nat} {e : Ent}, σ[p]? = some e → e ≠ .map [] 0 → z ≠ p := fun h hne hh => by subst hh; rw [hz] at h; cases h; exact hne rfl
    have hi1 : S1[i]? = some (nodeE kiInt [] nilS nilP) := by rw [hS1]; exact set_get hi (zne hi (by simp [nodeE]))
    have ha1 : S1[a]? = some (nodeE kiVar na nilS (.ref i 0 0)) := by rw [hS1]; exact set_get ha (zne ha (by simp [nodeE]))
    have hb1 : S1[b]? = some (nodeE kiVar nb nilS (.ref a 0 0)) := by rw [hS1]; exact set_get hb (zne hb (by simp [nodeE]))
    have hg1 : S1[gid]? = some (graE v z) := by rw [hS1]; exact set_get hg (zne hg (by simp [graE]))
    have hv1 : S1[v]? = some (.map (exMap a b) 2) := by rw [hS1]; exact set_get hv (zne hv (by simp [exMap]))
    have hz1 : S1[z]? = some (.map [(.ref i 0 0, sz1, 0)] 1) := by rw [hS1]; exact get_set_self hz
    have eb1 : Ends S1 2 b i := .step hb1 (.step ha1 (.here hi1))
    have nS1 : S1.length = σ.length := by rw [hS1]; simp
    have m0 : mget (.str na) (exMap a b) = some (.ref a 0 0) := by simp [exMap, mget, keq]
    have m1 : mget (.str nb) (exMap a b) = some (.ref b 0 0) := by simp [exMap, mget, keq]
    have hks : strK (exMap a b) := fun e he => by simp [exMap] at he; rcases he with rfl | rfl <;> exact ⟨_, rfl⟩
    have nvar : ¬ ([105, 110, 116] : List UInt8) = [118, 97, 114] := by decide
    have gi := sget_of hi
    have gi1 := sget_of hi1
    have gv1 := sget_of hv1
    have gg1 := sget_of hg1
    have hlow : StoreLow σ.length σ S1 := by rw [hS1]; exact storeLow_set (by simp only [Ent.low, List.map_cons, List.map_nil, AV.low.lows, AV.low, sz1, lt_of_get hi, decide_true, Bool.and_self])
    simp only [nodeE] at gi gi1
    simp only [graE] at gg1
    rw [← hS1]
    have hfit := fun σ' => Fits_ok (1, 1) σ'
    have hft : fitsB (1, 1) = true := by decide
    simp only [szV, hft] at hfit
    generalize hW : [Ent.map [(.ref i 0 0, .v (.bool true), 0)] 1, it, Ent.arr 9 [AV.str na, AV.str nb] 1 0, Ent.map [] 1, Ent.map [] 0] = W
    have hsz0 : ∀ L, ACalls E 93 [.ref gid 0 0, .ref i 0 0] (σ ++ L) fun x τ => x = sz1 ∧ τ = S1 ++ L := fun L => by
      have h := sizeNew_ok (σ ++ L) i i 0 gid v z kiInt [] (.here (get_olds hi L)) (get_olds hi L) (get_olds hg L) (get_olds hz L)
      rw [List.set_append_left _ _ (lt_of_get hz), ← hS1] at h
      exact h
    have hsz1 : ∀ L, ACalls E 93 [.ref gid 0 0, .ref i 0 0] (S1 ++ L) fun x τ => x = sz1 ∧ τ = S1 ++ L := fun L =>
      sizeOld_ok (S1 ++ L) i i 0 gid v z 1 kiInt [] (.here (get_olds hi1 L)) (get_olds hi1 L) (get_olds hg1 L) (get_olds hz1 L)
    have hty : ∀ L, ACalls E 94 [.ref gid 0 0, .ref i 0 0] (S1 ++ L) fun x τ => x = .agg [.str kiInt, .str [], nilS] ∧ τ = S1 ++ L := fun L =>
      typ_ok (S1 ++ L) i i 0 gid v z kiInt [] (.here (get_olds hi1 L)) (get_olds hi1 L)
    simp only [sz1] at hsz0 hsz1
    subst hW
    refine xloop (α := Nat) T0 (fun j => [(0, .ref gid 0 0), (8, if j = 0 then nilS else if j = 1 then .rsl (σ.length + 5) 0 0 1 4 else .rsl (σ.length + 5) 1 0 2 4), (9, .v (.bool false)), (34, .rsl (σ.length + 2) 1 0 2 1), (35, i64 2), (36, i64 j)])
      (fun j => if j = 0 then σ else S1)
      (fun j => [Ent.map [(.ref i 0 0, .v (.bool true), 0)] 1, it, Ent.arr 9 [AV.str na, AV.str nb] 1 0, Ent.map [] 1, Ent.map [] 0] ++
        (if j = 0 then [] else if j = 1 then [.arr 33 [.str na, .str kiInt, .str [], nilS] 0 0] else [.arr 33 [.str na, .str kiInt, .str [], nilS, .str nb, .str kiInt, .str [], nilS] 1 0]))
      (fun j => j ≤ 2) (fun j => 2 - j) (by kernel_rfl)
      ⟨0, by omega, by (simp only [(vmA), Nat.reduceEqDiff, reduceIte, Nat.reduceAdd, Int.reduceToNat, Int.reduceLE, Int.reduceLT, Int.reduceEq, Int.reduceNe, Int.reduceAdd, Int.reduceSub, Int.reduceNeg, Nat.reduceLT, Nat.reduceLeDiff, Nat.reduceBEq, undef, (stA), Nat.reduceMul, Int.natCast_zero]; try simp (disch := omega) only [(vmp)]), rfl, rfl⟩ ?_
    rintro j hj
    obtain rfl | rfl | rfl : j = 0 ∨ j = 1 ∨ j = 2 := by omega
    · have c1 : ((0 : Nat) : Int) < 2 := by omega
      (simp only [c1, if_true, gg, gv', m0, gi, (vmA), Nat.reduceEqDiff, reduceIte, Nat.reduceAdd, Int.reduceToNat, Int.reduceLE, Int.reduceLT, Int.reduceEq, Int.reduceNe, Int.reduceAdd, Int.reduceSub, Int.reduceNeg, Nat.reduceLT, Nat.reduceLeDiff, Nat.reduceBEq, undef, (stA), Nat.reduceMul]; try simp (disch := omega) only [(vmp)])
      refine ⟨⟨rfl, strK_ok hks _ _ _⟩, ?_⟩
      refine xWait.go (end_ok _ a i 1 (ea.push _)) ?_
      (simp only [gi, nvar, (vmA), Nat.reduceEqDiff, reduceIte, Nat.reduceAdd, Int.reduceToNat, Int.reduceLE, Int.reduceLT, Int.reduceEq, Int.reduceNe, Int.reduceAdd, Int.reduceSub, Int.reduceNeg, Nat.reduceLT, Nat.reduceLeDiff, Nat.reduceBEq, undef, (stA), Nat.reduceMul]; try simp (disch := omega) only [(vmp)])
      refine xWait.go (hsz0 _) ?_
      rw [← nS1, List.take_left, List.drop_left]
      (simp only [(vmA), Nat.reduceEqDiff, reduceIte, Nat.reduceAdd, Int.reduceToNat, Int.reduceLE, Int.reduceLT, Int.reduceEq, Int.reduceNe, Int.reduceAdd, Int.reduceSub, Int.reduceNeg, Nat.reduceLT, Nat.reduceLeDiff, Nat.reduceBEq, undef, (stA), Nat.reduceMul]; try simp (disch := omega) only [(vmp)])
      refine xWait.go (hfit _) ?_
      (simp only [(vmA), Nat.reduceEqDiff, reduceIte, Nat.reduceAdd, Int.reduceToNat, Int.reduceLE, Int.reduceLT, Int.reduceEq, Int.reduceNe, Int.reduceAdd, Int.reduceSub, Int.reduceNeg, Nat.reduceLT, Nat.reduceLeDiff, Nat.reduceBEq, undef, (stA), Nat.reduceMul]; try simp (disch := omega) only [(vmp)])
      refine xWait.go (hty _) ?_
      (simp only [(vmA), Nat.reduceEqDiff, reduceIte, Nat.reduceAdd, Int.reduceToNat, Int.reduceLE, Int.reduceLT, Int.reduceEq, Int.reduceNe, Int.reduceAdd, Int.reduceSub, Int.reduceNeg, Nat.reduceLT, Nat.reduceLeDiff, Nat.reduceBEq, undef, (stA), Nat.reduceMul]; try simp (disch := omega) only [(vmp)])
      exact ⟨by unfold maxRoom; omega, 1, by omega, by omega, ⟨rfl, rfl⟩, rfl, rfl⟩
    · have c1 : ((1 : Nat) : Int) < 2 := by omega
      have c2 : ¬ (1 : Nat) = 0 := by omega
      rw [← nS1]
      (simp only [c1, c2, if_true, if_false, gg1, gv1, m1, gi1, (vmA), Nat.reduceEqDiff, reduceIte, Nat.reduceAdd, Int.reduceToNat, Int.reduceLE, Int.reduceLT, Int.reduceEq, Int.reduceNe, Int.reduceAdd, Int.reduceSub, Int.reduceNeg, Nat.reduceLT, Nat.reduceLeDiff, Nat.reduceBEq, undef, (stA), Nat.reduceMul]; try simp (disch := omega) only [(vmp)])
      refine ⟨⟨rfl, strK_ok hks _ _ _⟩, ?_⟩
      refine xWait.go (end_ok _ b i 2 (eb1.push _)) ?_
      (simp only [gi1, nvar, (vmA), Nat.reduceEqDiff, reduceIte, Nat.reduceAdd, Int.reduceToNat, Int.reduceLE, Int.reduceLT, Int.reduceEq, Int.reduceNe, Int.reduceAdd, Int.reduceSub, Int.reduceNeg, Nat.reduceLT, Nat.reduceLeDiff, Nat.reduceBEq, undef, (stA), Nat.reduceMul]; try simp (disch := omega) only [(vmp)])
      refine xWait.go (hsz1 _) ?_
      (simp only [(vmA), Nat.reduceEqDiff, reduceIte, Nat.reduceAdd, Int.reduceToNat, Int.reduceLE, Int.reduceLT, Int.reduceEq, Int.reduceNe, Int.reduceAdd, Int.reduceSub, Int.reduceNeg, Nat.reduceLT, Nat.reduceLeDiff, Nat.reduceBEq, undef, (stA), Nat.reduceMul]; try simp (disch := omega) only [(vmp)])
      refine xWait.go (hfit _) ?_
      (simp only [(vmA), Nat.reduceEqDiff, reduceIte, Nat.reduceAdd, Int.reduceToNat, Int.reduceLE, Int.reduceLT, Int.reduceEq, Int.reduceNe, Int.reduceAdd, Int.reduceSub, Int.reduceNeg, Nat.reduceLT, Nat.reduceLeDiff, Nat.reduceBEq, undef, (stA), Nat.reduceMul]; try simp (disch := omega) only [(vmp)])
      refine xWait.go (hty _) ?_
      (simp only [(vmA), Nat.reduceEqDiff, reduceIte, Nat.reduceAdd, Int.reduceToNat, Int.reduceLE, Int.reduceLT, Int.reduceEq, Int.reduceNe, Int.reduceAdd, Int.reduceSub, Int.reduceNeg, Nat.reduceLT, Nat.reduceLeDiff, Nat.reduceBEq, undef, (stA), Nat.reduceMul]; try simp (disch := omega) only [(vmp)])
      exact ⟨by unfold maxRoom; omega, 2, by omega, by omega, ⟨rfl, rfl⟩, rfl, rfl⟩
    · have c1 : ¬ ((2 : Nat) : Int) < 2 := by omega
      have c2 : ¬ (2 : Nat) = 0 := by omega
      have c3 : ¬ (2 : Nat) = 1 := by omega
      (simp only [c1, c2, c3, if_false, (vmA), Nat.reduceEqDiff, reduceIte, Nat.reduceAdd, Int.reduceToNat, Int.reduceLE, Int.reduceLT, Int.reduceEq, Int.reduceNe, Int.reduceAdd, Int.reduceSub, Int.reduceNeg, Nat.reduceLT, Nat.reduceLeDiff, Nat.reduceBEq, undef, (stA), Nat.reduceMul]; try simp (disch := omega) only [(vmp)])
      refine ⟨.tup [.sl [.agg [.str na, .str kiInt, .str [], .sl []], .agg [.str nb, .str kiInt, .str [], .sl []]], i64 0], .tup (.cons (.rsl (ty := 33) (ver := 1) (imm := 0) (ag := true) (cells := [.str na, .str kiInt, .str [], nilS, .str nb, .str kiInt, .str [], nilS])
        (es := [.agg [.str na, .str kiInt, .str [], nilS], .agg [.str nb, .str kiInt, .str [], nilS]]) (by omega) (by rw [Nat.add_sub_cancel_left]; rfl) rfl (by simp) rfl (by omega) (by intro e he; simp at he; rcases he with rfl | rfl <;> rfl)
        (.cons (.agg (.cons (.refl _) (.cons (.refl _) (.cons (.refl _) (.cons .none .nil))))) (.cons (.agg (.cons (.refl _) (.cons (.refl _) (.cons (.refl _) (.cons .none .nil))))) .nil))) (.cons (.refl _) .nil)), by simp only [AV.low, AV.low.lows, Bool.and_self], hlow, rfl⟩
end Go.D

/- The example: two pairs are unified. -/
set_option linter.unusedVariables false
set_option linter.unusedSimpArgs false
set_option linter.unnecessarySimpa false
set_option maxRecDepth 100000
namespace Go.D
open Go Go.Vm Go.Proofs Go.RowKit

def exA : Tr := .mk kiPair [] [.mk kiVar na [], .mk kiInt [] []]
def exB : Tr := .mk kiPair [] [.mk kiVar nb [], .mk kiVar nb []]
theorem validA : validT conB exA = true := by decide +kernel
theorem validB : validT conB exB = true := by decide +kernel
def cA : List AV := [.str kiPair, .str [], .sl [.agg [.str kiVar, .str na, nilS], .agg [.str kiInt, .str [], nilS]]]
def cB : List AV := [.str kiPair, .str [], .sl [.agg [.str kiVar, .str nb, nilS], .agg [.str kiVar, .str nb, nilS]]]
theorem okA (σ : List Ent) : ACalls E 44 [.agg cA] σ fun r τ => r = boolV true ∧ τ = σ := by
  have h := ValidType_ok exA (by simp [exA, lenT, lenTs]) σ
  rw [validA] at h
  refine ACalls.wk ?_ h
  simp only [exA, tyV, tysV, cA]
  repeat' first | exact .nil | exact .refl _ | exact WkL.nil | apply Wk.agg | apply Wk.sl | apply WkL.cons
theorem okB (σ : List Ent) : ACalls E 44 [.agg cB] σ fun r τ => r = boolV true ∧ τ = σ := by
  have h := ValidType_ok exB (by simp [exB, lenT, lenTs]) σ
  rw [validB] at h
  refine ACalls.wk ?_ h
  simp only [exB, tyV, tysV, cB]
  repeat' first | exact .nil | exact .refl _ | exact WkL.nil | apply Wk.agg | apply Wk.sl | apply WkL.cons
def pairE : Ent := .arr 60 (cA ++ cB) 0 0
def N9 (n : Nat) : List Ent := [tyE kiPair [] (.sl [.agg [.str kiVar, .str na, nilS], .agg [.str kiInt, .str [], nilS]]), nodeE kiPair [] (.rsl (n + 10) 1 0 2 1) nilP, tyE kiVar na nilS, tyE kiVar na nilS, nodeE kiVar na nilS nilP,
  rowP [.ref (n + 9) 0 0, .ref (n + 13) 0 0] 1, tyE kiInt [] nilS, tyE kiInt [] nilS, nodeE kiInt [] nilS nilP]
def N7 (n : Nat) : List Ent := [tyE kiPair [] (.sl [.agg [.str kiVar, .str nb, nilS], .agg [.str kiVar, .str nb, nilS]]), nodeE kiPair [] (.rsl (n + 19) 1 0 2 1) nilP, tyE kiVar nb nilS, tyE kiVar nb nilS, nodeE kiVar nb nilS nilP,
  rowP [.ref (n + 18) 0 0, .ref (n + 18) 0 0] 1, tyE kiVar nb nilS]
def L5 (n : Nat) (x0 : Ent) (es : List MEnt) (c : Nat) : List Ent := [x0, .map es c, .map [] 0, graE (n + 1) (n + 2), pairE]
theorem at_own (σ L : List Ent) (j : Nat) : (σ ++ L)[σ.length + j]? = L[j]? := by rw [List.getElem?_append_right (by omega), Nat.add_sub_cancel_left]
theorem set_own (σ L : List Ent) (j : Nat) (x : Ent) : (σ ++ L).set (σ.length + j) x = σ ++ L.set j x := by rw [List.set_append_right _ _ (by omega), Nat.add_sub_cancel_left]
def esA (n : Nat) : List MEnt := [(.str na, .ref (n + 9) 0 0, 0)]
set_option maxHeartbeats 4000000 in
theorem nodeA_ok (σ : List Ent) (x0 : Ent) : ACalls E 56 [.ref (σ.length + 3) 0 0, .agg cA] (σ ++ L5 σ.length x0 [] 0) fun r τ => r = .ref (σ.length + 6) 0 0 ∧ τ = σ ++ (L5 σ.length x0 (esA σ.length) 1 ++ N9 σ.length) := by
  have hlen : (σ ++ L5 σ.length x0 [] 0).length = σ.length + 5 := by simp [L5]
  have hlen1 : (σ ++ L5 σ.length x0 (esA σ.length) 1).length = σ.length + 5 := by simp [L5]
  have hset : (σ ++ L5 σ.length x0 [] 0).set (σ.length + 1) (.map (esA σ.length) 1) = σ ++ L5 σ.length x0 (esA σ.length) 1 := by rw [set_own]; rfl
  have hg : (σ ++ L5 σ.length x0 [] 0)[σ.length + 3]? = some (graE (σ.length + 1) (σ.length + 2)) := by rw [at_own]; rfl
  have hv : (σ ++ L5 σ.length x0 [] 0)[σ.length + 1]? = some (.map [] 0) := by rw [at_own]; rfl
  have hg1 : (σ ++ L5 σ.length x0 (esA σ.length) 1)[σ.length + 3]? = some (graE (σ.length + 1) (σ.length + 2)) := by rw [at_own]; rfl
  have hv1 : (σ ++ L5 σ.length x0 (esA σ.length) 1)[σ.length + 1]? = some (.map (esA σ.length) 1) := by rw [at_own]; rfl
  have h := nodePair_ok kiVar na kiInt [] (σ ++ L5 σ.length x0 [] 0) (σ ++ L5 σ.length x0 (esA σ.length) 1) (σ ++ L5 σ.length x0 (esA σ.length) 1) (by omega) (by omega) (tyE kiVar na nilS) (nodeE kiVar na nilS nilP) [tyE kiInt [] nilS, nodeE kiInt [] nilS nilP] (σ.length + 9) (σ.length + 13)
    (σ.length + 3) (σ.length + 1) (σ.length + 2) 0 [] hg hv rfl (fun e he => by cases he)
    (fun a b c => by
      have h := nodeNew_ok na ((σ ++ L5 σ.length x0 [] 0) ++ [a, b, c]) (σ.length + 3) (σ.length + 1) (σ.length + 2) 0 [] (get_olds hg _) (get_olds hv _) rfl (fun e he => by cases he)
      have hl : ((σ ++ L5 σ.length x0 [] 0) ++ [a, b, c]).length = σ.length + 8 := by rw [List.length_append, hlen]; rfl
      rw [hl, List.set_append_left _ _ (by omega)] at h
      refine h.mono fun r τ ⟨q1, q2⟩ => ⟨q1, ?_⟩
      rw [q2, List.append_assoc]
      congr 1)
    (fun L hL => by
      have h := nodeLeaf_ok kiInt (by decide) ((σ ++ L5 σ.length x0 (esA σ.length) 1) ++ L) (σ.length + 3) (σ.length + 1) (σ.length + 2) 1 (esA σ.length) (get_olds hg1 _) (get_olds hv1 _) rfl (fun e he => by simp [esA] at he; subst he; exact ⟨_, rfl⟩)
      have hl : ((σ ++ L5 σ.length x0 (esA σ.length) 1) ++ L).length = σ.length + 12 := by rw [List.length_append, hlen1, hL]
      rw [hl] at h
      refine h.mono fun r τ ⟨q1, q2⟩ => ⟨q1, ?_⟩
      rw [q2, List.append_assoc])
  rw [hlen] at h
  refine h.mono fun r τ ⟨q1, q2⟩ => ⟨q1, ?_⟩
  rw [q2, List.append_assoc]
  rfl
set_option maxHeartbeats 4000000 in
theorem nodeB_ok (σ : List Ent) (x0 : Ent) : ACalls E 56 [.ref (σ.length + 3) 0 0, .agg cB] (σ ++ (L5 σ.length x0 (esA σ.length) 1 ++ N9 σ.length)) fun r τ => r = .ref (σ.length + 15) 0 0 ∧
    τ = σ ++ (L5 σ.length x0 (exMap (σ.length + 9) (σ.length + 18)) 2 ++ N9 σ.length ++ N7 σ.length) := by
  have hlen : (σ ++ (L5 σ.length x0 (esA σ.length) 1 ++ N9 σ.length)).length = σ.length + 14 := by simp [L5, N9]
  have hlen1 : (σ ++ (L5 σ.length x0 (exMap (σ.length + 9) (σ.length + 18)) 2 ++ N9 σ.length)).length = σ.length + 14 := by simp [L5, N9]
  have hset : (σ ++ (L5 σ.length x0 (esA σ.length) 1 ++ N9 σ.length)).set (σ.length + 1) (.map (exMap (σ.length + 9) (σ.length + 18)) 2) = σ ++ (L5 σ.length x0 (exMap (σ.length + 9) (σ.length + 18)) 2 ++ N9 σ.length) := by rw [set_own]; rfl
  have hg : (σ ++ (L5 σ.length x0 (esA σ.length) 1 ++ N9 σ.length))[σ.length + 3]? = some (graE (σ.length + 1) (σ.length + 2)) := by rw [at_own]; rfl
  have hv : (σ ++ (L5 σ.length x0 (esA σ.length) 1 ++ N9 σ.length))[σ.length + 1]? = some (.map (esA σ.length) 1) := by rw [at_own]; rfl
  have hg1 : (σ ++ (L5 σ.length x0 (exMap (σ.length + 9) (σ.length + 18)) 2 ++ N9 σ.length))[σ.length + 3]? = some (graE (σ.length + 1) (σ.length + 2)) := by rw [at_own]; rfl
  have hv1 : (σ ++ (L5 σ.length x0 (exMap (σ.length + 9) (σ.length + 18)) 2 ++ N9 σ.length))[σ.length + 1]? = some (.map (exMap (σ.length + 9) (σ.length + 18)) 2) := by rw [at_own]; rfl
  have hkA : strK (esA σ.length) := fun e he => by simp [esA] at he; subst he; exact ⟨_, rfl⟩
  have h := nodePair_ok kiVar nb kiVar nb (σ ++ (L5 σ.length x0 (esA σ.length) 1 ++ N9 σ.length)) (σ ++ (L5 σ.length x0 (exMap (σ.length + 9) (σ.length + 18)) 2 ++ N9 σ.length)) (σ ++ (L5 σ.length x0 (exMap (σ.length + 9) (σ.length + 18)) 2 ++ N9 σ.length)) (by omega) (by omega) (tyE kiVar nb nilS) (nodeE kiVar nb nilS nilP) [] (σ.length + 18) (σ.length + 18)
    (σ.length + 3) (σ.length + 1) (σ.length + 2) 1 (esA σ.length) hg hv rfl hkA
    (fun a b c => by
      have h := nodeNew_ok nb ((σ ++ (L5 σ.length x0 (esA σ.length) 1 ++ N9 σ.length)) ++ [a, b, c]) (σ.length + 3) (σ.length + 1) (σ.length + 2) 1 (esA σ.length) (get_olds hg _) (get_olds hv _) rfl hkA
      have hl : ((σ ++ (L5 σ.length x0 (esA σ.length) 1 ++ N9 σ.length)) ++ [a, b, c]).length = σ.length + 17 := by rw [List.length_append, hlen]; rfl
      rw [hl, List.set_append_left _ _ (by omega)] at h
      refine h.mono fun r τ ⟨q1, q2⟩ => ⟨q1, ?_⟩
      rw [q2, List.append_assoc, ← hset]
      rfl)
    (fun L hL => by
      have h := nodeOld_ok nb (σ.length + 18) ((σ ++ (L5 σ.length x0 (exMap (σ.length + 9) (σ.length + 18)) 2 ++ N9 σ.length)) ++ L) (σ.length + 3) (σ.length + 1) (σ.length + 2) 2 (exMap (σ.length + 9) (σ.length + 18)) (get_olds hg1 _) (get_olds hv1 _) (by simp [exMap, mget, keq]) (fun e he => by simp [exMap] at he; rcases he with rfl | rfl <;> exact ⟨_, rfl⟩) (by rw [List.length_append, hlen1, hL]; omega)
      refine h.mono fun r τ ⟨q1, q2⟩ => ⟨q1, ?_⟩
      rw [q2, List.append_nil])
  rw [hlen] at h
  refine h.mono fun r τ ⟨q1, q2⟩ => ⟨q1, ?_⟩
  rw [q2, List.append_assoc]
  rfl
def L21 (n : Nat) (x0 : Ent) : List Ent := L5 n x0 (exMap (n + 9) (n + 18)) 2 ++ N9 n ++ N7 n
def L21' (n : Nat) (x0 : Ent) : List Ent := (((L21 n x0).set 6 (nodeE kiPair [] (.rsl (n + 10) 1 0 2 1) (.ref (n + 15) 0 0))).set 18 (nodeE kiVar nb nilS (.ref (n + 9) 0 0))).set 9 (nodeE kiVar na nilS (.ref (n + 13) 0 0))
theorem unifyE_ok (σ : List Ent) (x0 : Ent) (gv : AV) : ACalls E 55 [gv, .ref (σ.length + 6) 0 0, .ref (σ.length + 15) 0 0] (σ ++ L21 σ.length x0) fun r τ => r = boolV true ∧ τ = σ ++ L21' σ.length x0 := by
  have h := unifyEx_ok gv (σ ++ L21 σ.length x0) (σ.length + 6) (σ.length + 9) (σ.length + 10) (σ.length + 13) (σ.length + 15) (σ.length + 18) (σ.length + 19) (by omega) (by omega) (by omega) (by omega) (by omega) (by omega)
    (by rw [at_own]; rfl) (by rw [at_own]; rfl) (by rw [at_own]; rfl) (by rw [at_own]; rfl) (by rw [at_own]; rfl) (by rw [at_own]; rfl) (by rw [at_own]; rfl)
  rw [set_own, set_own, set_own] at h
  exact h
theorem resultE_ok (σ : List Ent) (x0 : Ent) : ACalls E 57 [.ref (σ.length + 3) 0 0] (σ ++ L21' σ.length x0) fun r τ => r = .tup [.sl (clsV [(na, .mk kiInt [] []), (nb, .mk kiInt [] [])]), i64 0] ∧ τ = σ ++ (L21' σ.length x0).set 2 (.map [(.ref (σ.length + 13) 0 0, sz1, 0)] 1) := by
  have h := result_ok (σ ++ L21' σ.length x0) (σ.length + 3) (σ.length + 1) (σ.length + 2) (σ.length + 9) (σ.length + 18) (σ.length + 13) (by rw [at_own]; rfl) (by rw [at_own]; rfl) (by rw [at_own]; rfl) (by rw [at_own]; rfl) (by rw [at_own]; rfl) (by rw [at_own]; rfl)
  rw [set_own] at h
  exact h
def exCs : AV := .sl (clsV [(na, .mk kiInt [] []), (nb, .mk kiInt [] [])])
set_option maxHeartbeats 8000000 in
theorem unifyAll_ok (σ : List Ent) : ACalls E 24 [.sl [.agg (cA ++ cB)]] σ fun r τ => r = .tup [exCs, i64 0] ∧ τ = σ := by
  refine xacalls T0 .freeze [] Tryz.func24 rfl (by kernel_rfl) (by kernel_rfl) (by simp [Tryz.ntmps24]) ?_
  (simp only [(vmA), Nat.reduceEqDiff, reduceIte, Nat.reduceAdd, Int.reduceToNat, Int.reduceLE, Int.reduceLT, Int.reduceEq, Int.reduceNe, Int.reduceAdd, Int.reduceSub, Int.reduceNeg, Nat.reduceLT, Nat.reduceLeDiff, Nat.reduceBEq, undef, (stA), Nat.reduceMul]; try simp (disch := omega) only [(vmp)])
  have oA := fun σ' => okA σ'
  have oB := fun σ' => okB σ'
  simp only [cA] at oA
  simp only [cB] at oB
  refine xloop (α := Nat) T0 (fun j => [(0, .sl [.agg (cA ++ cB)]), (9, .sl [.agg (cA ++ cB)]), (10, i64 1), (11, i64 j)]) (fun _ => σ) (fun j => if j = 0 then [] else [.arr 60 (cA ++ cB) 0 0]) (fun j => j ≤ 1) (fun j => 1 - j) (by kernel_rfl)
    ⟨0, by omega, by (simp only [(vmA), Nat.reduceEqDiff, reduceIte, Nat.reduceAdd, Int.reduceToNat, Int.reduceLE, Int.reduceLT, Int.reduceEq, Int.reduceNe, Int.reduceAdd, Int.reduceSub, Int.reduceNeg, Nat.reduceLT, Nat.reduceLeDiff, Nat.reduceBEq, undef, (stA), Nat.reduceMul, Int.natCast_zero]; try simp (disch := omega) only [(vmp)]), rfl, rfl⟩ ?_
  rintro j hj
  obtain rfl | rfl : j = 0 ∨ j = 1 := by omega
  · have c1 : ((0 : Nat) : Int) < 1 := by omega
    have gA : [AV.agg (cA ++ cB)].getD 0 .un = .agg (cA ++ cB) := rfl
    (simp only [c1, List.getD_cons_zero, if_true, cA, cB, List.cons_append, List.nil_append, Nat.zero_mul, Nat.one_mul, Nat.reduceMul, List.drop_zero, List.drop_succ_cons, List.take_succ_cons, List.take_zero, (vmA), Nat.reduceEqDiff, reduceIte, Nat.reduceAdd, Int.reduceToNat, Int.reduceLE, Int.reduceLT, Int.reduceEq, Int.reduceNe, Int.reduceAdd, Int.reduceSub, Int.reduceNeg, Nat.reduceLT, Nat.reduceLeDiff, Nat.reduceBEq, undef, (stA), Nat.reduceMul]; try simp (disch := omega) only [(vmp)])
    refine xWait.go (oA _) ?_
    (simp only [Nat.zero_mul, Nat.one_mul, Nat.reduceMul, List.drop_zero, List.drop_succ_cons, List.take_succ_cons, List.take_zero, (vmA), Nat.reduceEqDiff, reduceIte, Nat.reduceAdd, Int.reduceToNat, Int.reduceLE, Int.reduceLT, Int.reduceEq, Int.reduceNe, Int.reduceAdd, Int.reduceSub, Int.reduceNeg, Nat.reduceLT, Nat.reduceLeDiff, Nat.reduceBEq, undef, (stA), Nat.reduceMul]; try simp (disch := omega) only [(vmp)])
    refine xWait.go (oB _) ?_
    (simp only [Nat.zero_mul, Nat.one_mul, Nat.reduceMul, List.drop_zero, List.drop_succ_cons, List.take_succ_cons, List.take_zero, (vmA), Nat.reduceEqDiff, reduceIte, Nat.reduceAdd, Int.reduceToNat, Int.reduceLE, Int.reduceLT, Int.reduceEq, Int.reduceNe, Int.reduceAdd, Int.reduceSub, Int.reduceNeg, Nat.reduceLT, Nat.reduceLeDiff, Nat.reduceBEq, undef, (stA), Nat.reduceMul]; try simp (disch := omega) only [(vmp)])
    exact ⟨1, by omega, by omega, rfl, rfl⟩
  · have c1 : ¬ ((1 : Nat) : Int) < 1 := by omega
    have c2 : ¬ (1 : Nat) = 0 := by omega
    (simp only [c1, c2, if_false, (vmA), Nat.reduceEqDiff, reduceIte, Nat.reduceAdd, Int.reduceToNat, Int.reduceLE, Int.reduceLT, Int.reduceEq, Int.reduceNe, Int.reduceAdd, Int.reduceSub, Int.reduceNeg, Nat.reduceLT, Nat.reduceLeDiff, Nat.reduceBEq, undef, (stA), Nat.reduceMul]; try simp (disch := omega) only [(vmp)])
    generalize hx0 : Ent.arr 60 (cA ++ cB) 0 0 = x0
    refine xloop (α := Nat) T0 (fun j => [(6, .ref (σ.length + 3) 0 0), (33, .sl [.agg (cA ++ cB)]), (34, i64 1), (35, i64 j)]) (fun _ => σ)
      (fun j => if j = 0 then [x0, .map [] 0, .map [] 0, graE (σ.length + 1) (σ.length + 2)] else L21' σ.length x0) (fun j => j ≤ 1) (fun j => 1 - j) (by kernel_rfl)
      ⟨0, by omega, by (simp only [(vmA), Nat.reduceEqDiff, reduceIte, Nat.reduceAdd, Int.reduceToNat, Int.reduceLE, Int.reduceLT, Int.reduceEq, Int.reduceNe, Int.reduceAdd, Int.reduceSub, Int.reduceNeg, Nat.reduceLT, Nat.reduceLeDiff, Nat.reduceBEq, undef, (stA), Nat.reduceMul, Int.natCast_zero]; try simp (disch := omega) only [(vmp)]), rfl, rfl⟩ ?_
    rintro j hj
    obtain rfl | rfl : j = 0 ∨ j = 1 := by omega
    · have c1 : ((0 : Nat) : Int) < 1 := by omega
      (simp only [c1, List.getD_cons_zero, if_true, cA, cB, List.cons_append, List.nil_append, (vmA), Nat.reduceEqDiff, reduceIte, Nat.reduceAdd, Int.reduceToNat, Int.reduceLE, Int.reduceLT, Int.reduceEq, Int.reduceNe, Int.reduceAdd, Int.reduceSub, Int.reduceNeg, Nat.reduceLT, Nat.reduceLeDiff, Nat.reduceBEq, undef, (stA), Nat.reduceMul]; try simp (disch := omega) only [(vmp)])
      refine zdraw T0 ⟨[], [4, 8, 9], [2, 3, 6, 7], some [4], false⟩ (by kernel_rfl) (by kernel_rfl) (by kernel_rfl) (by kernel_rfl) ?_
      (simp only [zDraw_nil,zDraw_go,zDraw_if,zSlot_some,zGuard_tt,zGuard_ff,zGuard_tf,zGuard_ft,zGuard_un,zOut_some,zOut_pure,zOut_cond,zNext_move,zNext_assign,zNext_buildSlice,zNext_load,zNext_store,zNext_builtin,zNext_fieldAddr,zNext_nilCheck,zNext_indexAddr,zNext_unOp, (vmA), Nat.reduceEqDiff, reduceIte, Nat.reduceAdd, Int.reduceToNat, Int.reduceLE, Int.reduceLT, Int.reduceEq, Int.reduceNe, Int.reduceAdd, Int.reduceSub, Int.reduceNeg, Nat.reduceLT, Nat.reduceLeDiff, Nat.reduceBEq, undef, (stA), Nat.reduceMul]; try simp (disch := omega) only [(vmp)])
      have loA : ∀ l' : List Ent, l'[4]? = some pairE → ∀ g' : List Ent, g'.length = σ.length → sget g' l' (σ.length + 4) = some pairE := fun l' h g' hg => by unfold sget; rw [if_neg (by omega), hg, Nat.add_sub_cancel_left, h]
      simp only [pairE, cA, cB, List.cons_append, List.nil_append] at loA
      refine zNext.looseS (r := .ref (σ.length + 4) 0 0) rfl rfl rfl rfl (fun g' l' hg' hl' => ⟨True, trivial, ?_⟩) ?_
      · have q := loA l' (hl' 4 (by simp)) g' hg'
        (simp only [q, (vmA), Nat.reduceEqDiff, reduceIte, Nat.reduceAdd, Int.reduceToNat, Int.reduceLE, Int.reduceLT, Int.reduceEq, Int.reduceNe, Int.reduceAdd, Int.reduceSub, Int.reduceNeg, Nat.reduceLT, Nat.reduceLeDiff, Nat.reduceBEq, undef, (stA), Nat.reduceMul]; try simp (disch := omega) only [(vmp)])
      (simp only [zDraw_nil,zDraw_go,zDraw_if,zSlot_some,zGuard_tt,zGuard_ff,zGuard_tf,zGuard_ft,zGuard_un,zOut_some,zOut_pure,zOut_cond,zNext_move,zNext_assign,zNext_buildSlice,zNext_load,zNext_store,zNext_builtin,zNext_fieldAddr,zNext_nilCheck,zNext_indexAddr,zNext_unOp, (vmA), Nat.reduceEqDiff, reduceIte, Nat.reduceAdd, Int.reduceToNat, Int.reduceLE, Int.reduceLT, Int.reduceEq, Int.reduceNe, Int.reduceAdd, Int.reduceSub, Int.reduceNeg, Nat.reduceLT, Nat.reduceLeDiff, Nat.reduceBEq, undef, (stA), Nat.reduceMul]; try simp (disch := omega) only [(vmp)])
      refine zNext.looseS (r := .agg cA) rfl rfl rfl rfl (fun g' l' hg' hl' => ⟨True, trivial, ?_⟩) ?_
      · have q := loA l' (hl' 4 (by simp)) g' hg'
        (simp only [q, cA, List.take_succ_cons, List.take_zero, (vmA), Nat.reduceEqDiff, reduceIte, Nat.reduceAdd, Int.reduceToNat, Int.reduceLE, Int.reduceLT, Int.reduceEq, Int.reduceNe, Int.reduceAdd, Int.reduceSub, Int.reduceNeg, Nat.reduceLT, Nat.reduceLeDiff, Nat.reduceBEq, undef, (stA), Nat.reduceMul]; try simp (disch := omega) only [(vmp)])
      (simp only [zDraw_nil,zDraw_go,zDraw_if,zSlot_some,zGuard_tt,zGuard_ff,zGuard_tf,zGuard_ft,zGuard_un,zOut_some,zOut_pure,zOut_cond,zNext_move,zNext_assign,zNext_buildSlice,zNext_load,zNext_store,zNext_builtin,zNext_fieldAddr,zNext_nilCheck,zNext_indexAddr,zNext_unOp, (vmA), Nat.reduceEqDiff, reduceIte, Nat.reduceAdd, Int.reduceToNat, Int.reduceLE, Int.reduceLT, Int.reduceEq, Int.reduceNe, Int.reduceAdd, Int.reduceSub, Int.reduceNeg, Nat.reduceLT, Nat.reduceLeDiff, Nat.reduceBEq, undef, (stA), Nat.reduceMul]; try simp (disch := omega) only [(vmp)])
      refine zNext.softC (by rfl) (by rfl) _ rfl (nodeA_ok σ x0) rfl (by intro m hm; simp at hm; subst hm; rfl) ?_
      (simp only [zDraw_nil,zDraw_go,zDraw_if,zSlot_some,zGuard_tt,zGuard_ff,zGuard_tf,zGuard_ft,zGuard_un,zOut_some,zOut_pure,zOut_cond,zNext_move,zNext_assign,zNext_buildSlice,zNext_load,zNext_store,zNext_builtin,zNext_fieldAddr,zNext_nilCheck,zNext_indexAddr,zNext_unOp, (vmA), Nat.reduceEqDiff, reduceIte, Nat.reduceAdd, Int.reduceToNat, Int.reduceLE, Int.reduceLT, Int.reduceEq, Int.reduceNe, Int.reduceAdd, Int.reduceSub, Int.reduceNeg, Nat.reduceLT, Nat.reduceLeDiff, Nat.reduceBEq, undef, (stA), Nat.reduceMul]; try simp (disch := omega) only [(vmp)])
      refine zNext.looseS (r := .ref (σ.length + 4) 0 3) rfl rfl rfl rfl (fun g' l' hg' hl' => ⟨True, trivial, ?_⟩) ?_
      · have q := loA l' (hl' 4 (by simp)) g' hg'
        (simp only [q, (vmA), Nat.reduceEqDiff, reduceIte, Nat.reduceAdd, Int.reduceToNat, Int.reduceLE, Int.reduceLT, Int.reduceEq, Int.reduceNe, Int.reduceAdd, Int.reduceSub, Int.reduceNeg, Nat.reduceLT, Nat.reduceLeDiff, Nat.reduceBEq, undef, (stA), Nat.reduceMul]; try simp (disch := omega) only [(vmp)])
      (simp only [zDraw_nil,zDraw_go,zDraw_if,zSlot_some,zGuard_tt,zGuard_ff,zGuard_tf,zGuard_ft,zGuard_un,zOut_some,zOut_pure,zOut_cond,zNext_move,zNext_assign,zNext_buildSlice,zNext_load,zNext_store,zNext_builtin,zNext_fieldAddr,zNext_nilCheck,zNext_indexAddr,zNext_unOp, (vmA), Nat.reduceEqDiff, reduceIte, Nat.reduceAdd, Int.reduceToNat, Int.reduceLE, Int.reduceLT, Int.reduceEq, Int.reduceNe, Int.reduceAdd, Int.reduceSub, Int.reduceNeg, Nat.reduceLT, Nat.reduceLeDiff, Nat.reduceBEq, undef, (stA), Nat.reduceMul]; try simp (disch := omega) only [(vmp)])
      refine zNext.looseS (r := .agg cB) rfl rfl rfl rfl (fun g' l' hg' hl' => ⟨True, trivial, ?_⟩) ?_
      · have q := loA l' (hl' 4 (by simp)) g' hg'
        (simp only [q, cB, List.drop_succ_cons, List.drop_zero, List.take_succ_cons, List.take_zero, (vmA), Nat.reduceEqDiff, reduceIte, Nat.reduceAdd, Int.reduceToNat, Int.reduceLE, Int.reduceLT, Int.reduceEq, Int.reduceNe, Int.reduceAdd, Int.reduceSub, Int.reduceNeg, Nat.reduceLT, Nat.reduceLeDiff, Nat.reduceBEq, undef, (stA), Nat.reduceMul]; try simp (disch := omega) only [(vmp)])
      (simp only [zDraw_nil,zDraw_go,zDraw_if,zSlot_some,zGuard_tt,zGuard_ff,zGuard_tf,zGuard_ft,zGuard_un,zOut_some,zOut_pure,zOut_cond,zNext_move,zNext_assign,zNext_buildSlice,zNext_load,zNext_store,zNext_builtin,zNext_fieldAddr,zNext_nilCheck,zNext_indexAddr,zNext_unOp, (vmA), Nat.reduceEqDiff, reduceIte, Nat.reduceAdd, Int.reduceToNat, Int.reduceLE, Int.reduceLT, Int.reduceEq, Int.reduceNe, Int.reduceAdd, Int.reduceSub, Int.reduceNeg, Nat.reduceLT, Nat.reduceLeDiff, Nat.reduceBEq, undef, (stA), Nat.reduceMul]; try simp (disch := omega) only [(vmp)])
      refine zNext.softC (by rfl) (by rfl) _ rfl (nodeB_ok σ x0) rfl (by intro m hm; simp at hm; subst hm; rfl) ?_
      (simp only [zDraw_nil,zDraw_go,zDraw_if,zSlot_some,zGuard_tt,zGuard_ff,zGuard_tf,zGuard_ft,zGuard_un,zOut_some,zOut_pure,zOut_cond,zNext_move,zNext_assign,zNext_buildSlice,zNext_load,zNext_store,zNext_builtin,zNext_fieldAddr,zNext_nilCheck,zNext_indexAddr,zNext_unOp, (vmA), Nat.reduceEqDiff, reduceIte, Nat.reduceAdd, Int.reduceToNat, Int.reduceLE, Int.reduceLT, Int.reduceEq, Int.reduceNe, Int.reduceAdd, Int.reduceSub, Int.reduceNeg, Nat.reduceLT, Nat.reduceLeDiff, Nat.reduceBEq, undef, (stA), Nat.reduceMul]; try simp (disch := omega) only [(vmp)])
      refine zNext.softC (by rfl) (by rfl) _ rfl (unifyE_ok σ x0 _) rfl (by intro m hm; simp at hm; subst hm; rfl) ?_
      (simp only [zDraw_nil,zDraw_go,zDraw_if,zSlot_some,zGuard_tt,zGuard_ff,zGuard_tf,zGuard_ft,zGuard_un,zOut_some,zOut_pure,zOut_cond,zNext_move,zNext_assign,zNext_buildSlice,zNext_load,zNext_store,zNext_builtin,zNext_fieldAddr,zNext_nilCheck,zNext_indexAddr,zNext_unOp, (vmA), Nat.reduceEqDiff, reduceIte, Nat.reduceAdd, Int.reduceToNat, Int.reduceLE, Int.reduceLT, Int.reduceEq, Int.reduceNe, Int.reduceAdd, Int.reduceSub, Int.reduceNeg, Nat.reduceLT, Nat.reduceLeDiff, Nat.reduceBEq, undef, (stA), Nat.reduceMul]; try simp (disch := omega) only [(vmp)])
      exact ⟨1, by omega, by omega, rfl, rfl⟩
    · have c1 : ¬ ((1 : Nat) : Int) < 1 := by omega
      have c2 : ¬ (1 : Nat) = 0 := by omega
      (simp only [c1, c2, if_false, (vmA), Nat.reduceEqDiff, reduceIte, Nat.reduceAdd, Int.reduceToNat, Int.reduceLE, Int.reduceLT, Int.reduceEq, Int.reduceNe, Int.reduceAdd, Int.reduceSub, Int.reduceNeg, Nat.reduceLT, Nat.reduceLeDiff, Nat.reduceBEq, undef, (stA), Nat.reduceMul]; try simp (disch := omega) only [(vmp)])
      refine xWait.go (resultE_ok σ x0) ?_
      rw [List.take_left, List.drop_left]
      (simp only [(vmA), Nat.reduceEqDiff, reduceIte, Nat.reduceAdd, Int.reduceToNat, Int.reduceLE, Int.reduceLT, Int.reduceEq, Int.reduceNe, Int.reduceAdd, Int.reduceSub, Int.reduceNeg, Nat.reduceLT, Nat.reduceLeDiff, Nat.reduceBEq, undef, (stA), Nat.reduceMul]; try simp (disch := omega) only [(vmp)])
      exact ⟨_, .refl _, by simp only [AV.low, AV.low.lows, clsV_low, Bool.and_self], rfl⟩
set_option maxHeartbeats 4000000 in
theorem unify_ok (σ : List Ent) : ACalls E 16 [.agg cA, .agg cB] σ fun r τ => r = .tup [exCs, i64 0] ∧ τ = σ := by
  refine xacalls T0 .freeze [] Tryz.func16 rfl (by kernel_rfl) (by kernel_rfl) (by simp [Tryz.ntmps16]) ?_
  have h := fun σ' => unifyAll_ok σ'
  simp only [cA, cB, List.cons_append, List.nil_append] at h
  (simp only [cA, cB, (vmA), Nat.reduceEqDiff, reduceIte, Nat.reduceAdd, Int.reduceToNat, Int.reduceLE, Int.reduceLT, Int.reduceEq, Int.reduceNe, Int.reduceAdd, Int.reduceSub, Int.reduceNeg, Nat.reduceLT, Nat.reduceLeDiff, Nat.reduceBEq, undef, (stA), Nat.reduceMul]; try simp (disch := omega) only [(vmp)])
  refine xWait.go (h _) ?_
  (simp only [(vmA), Nat.reduceEqDiff, reduceIte, Nat.reduceAdd, Int.reduceToNat, Int.reduceLE, Int.reduceLT, Int.reduceEq, Int.reduceNe, Int.reduceAdd, Int.reduceSub, Int.reduceNeg, Nat.reduceLT, Nat.reduceLeDiff, Nat.reduceBEq, undef, (stA), Nat.reduceMul]; try simp (disch := omega) only [(vmp)])
  exact ⟨_, .refl _, by simp only [exCs, AV.low, AV.low.lows, clsV_low, Bool.and_self], rfl⟩
set_option maxHeartbeats 4000000 in
theorem awake_ok : AwakeOK := by
  intro σ
  refine xacalls T0 .drop [] Tryz.func15 rfl (by kernel_rfl) (by kernel_rfl) (by simp [Tryz.ntmps15]) ?_
  have h := fun σ' => unify_ok σ'
  simp only [cA, cB] at h
  have lA : ∀ n, AV.low.lows n [.agg [.str kiVar, .str na, nilS], .agg [.str kiInt, .str [], nilS]] = true := fun n => rfl
  have lB : ∀ n, AV.low.lows n [.agg [.str kiVar, .str nb, nilS], .agg [.str kiVar, .str nb, nilS]] = true := fun n => rfl
  (simp only [(vmA), Nat.reduceEqDiff, reduceIte, Nat.reduceAdd, Int.reduceToNat, Int.reduceLE, Int.reduceLT, Int.reduceEq, Int.reduceNe, Int.reduceAdd, Int.reduceSub, Int.reduceNeg, Nat.reduceLT, Nat.reduceLeDiff, Nat.reduceBEq, undef, (stA), Nat.reduceMul]; try simp (disch := omega) only [(vmp)])
  refine xWait.go (variable_ok na _) ?_
  (simp only [(vmA), Nat.reduceEqDiff, reduceIte, Nat.reduceAdd, Int.reduceToNat, Int.reduceLE, Int.reduceLT, Int.reduceEq, Int.reduceNe, Int.reduceAdd, Int.reduceSub, Int.reduceNeg, Nat.reduceLT, Nat.reduceLeDiff, Nat.reduceBEq, undef, (stA), Nat.reduceMul]; try simp (disch := omega) only [(vmp)])
  refine xWait.go (ty0_ok kiInt _) ?_
  (simp only [(vmA), Nat.reduceEqDiff, reduceIte, Nat.reduceAdd, Int.reduceToNat, Int.reduceLE, Int.reduceLT, Int.reduceEq, Int.reduceNe, Int.reduceAdd, Int.reduceSub, Int.reduceNeg, Nat.reduceLT, Nat.reduceLeDiff, Nat.reduceBEq, undef, (stA), Nat.reduceMul]; try simp (disch := omega) only [(vmp)])
  refine xWait.go (ty_ok kiPair _ lA _) ?_
  (simp only [(vmA), Nat.reduceEqDiff, reduceIte, Nat.reduceAdd, Int.reduceToNat, Int.reduceLE, Int.reduceLT, Int.reduceEq, Int.reduceNe, Int.reduceAdd, Int.reduceSub, Int.reduceNeg, Nat.reduceLT, Nat.reduceLeDiff, Nat.reduceBEq, undef, (stA), Nat.reduceMul]; try simp (disch := omega) only [(vmp)])
  refine xWait.go (variable_ok nb _) ?_
  (simp only [(vmA), Nat.reduceEqDiff, reduceIte, Nat.reduceAdd, Int.reduceToNat, Int.reduceLE, Int.reduceLT, Int.reduceEq, Int.reduceNe, Int.reduceAdd, Int.reduceSub, Int.reduceNeg, Nat.reduceLT, Nat.reduceLeDiff, Nat.reduceBEq, undef, (stA), Nat.reduceMul]; try simp (disch := omega) only [(vmp)])
  refine xWait.go (variable_ok nb _) ?_
  (simp only [(vmA), Nat.reduceEqDiff, reduceIte, Nat.reduceAdd, Int.reduceToNat, Int.reduceLE, Int.reduceLT, Int.reduceEq, Int.reduceNe, Int.reduceAdd, Int.reduceSub, Int.reduceNeg, Nat.reduceLT, Nat.reduceLeDiff, Nat.reduceBEq, undef, (stA), Nat.reduceMul]; try simp (disch := omega) only [(vmp)])
  refine xWait.go (ty_ok kiPair _ lB _) ?_
  (simp only [(vmA), Nat.reduceEqDiff, reduceIte, Nat.reduceAdd, Int.reduceToNat, Int.reduceLE, Int.reduceLT, Int.reduceEq, Int.reduceNe, Int.reduceAdd, Int.reduceSub, Int.reduceNeg, Nat.reduceLT, Nat.reduceLeDiff, Nat.reduceBEq, undef, (stA), Nat.reduceMul]; try simp (disch := omega) only [(vmp)])
  refine xWait.go (h _) ?_
  (simp only [exCs, clsV, List.map_cons, List.map_nil, clV, clC, tyCells, tysV, List.getD_cons_zero, List.getD_cons_succ, (vmA), Nat.reduceEqDiff, reduceIte, Nat.reduceAdd, Int.reduceToNat, Int.reduceLE, Int.reduceLT, Int.reduceEq, Int.reduceNe, Int.reduceAdd, Int.reduceSub, Int.reduceNeg, Nat.reduceLT, Nat.reduceLeDiff, Nat.reduceBEq, undef, (stA), Nat.reduceMul]; try simp (disch := omega) only [(vmp)])
end Go.D
